/- -/
import Derived.Test.YtandgamnamkkhaaGreatDoorAb14
set_option linter.unusedSimpArgs false
set_option linter.unusedVariables false
set_option maxRecDepth 8000
namespace Go.Ab
def ju(β:qq)(k:Nat)(s:Slot):qq:=fun j=>if j=(k,0) then some s else β j
theorem qW(β:qq)(k:Nat)(s:Slot):ju β k s (k,0)=some s:=by simp [ju]
theorem zu(β:qq){k:Nat}{j:x9}(s:Slot)(h:j≠(k,0)):ju β k s j=β j:=by simp [ju,h]
theorem ku(β:qq){k:Nat}{j:x9}(s:Slot)(h:j.1≠k):ju β k s j=β j:=zu β s fun e=>h (by rw [e])
theorem Yi{k:Nat}{x:Bk}(hx:x.flat=true)(S:Bx)(κ:x9):xb ((k,x)::S) κ=if κ.1=k then (if κ.2=0 then some x else none) else xb S κ:=by
 obtain⟨j,i⟩:=κ;by_cases h:j=k
 ·subst h;have hl:lk ((j,x)::S) j=some x:=by rw [qR,if_pos rfl]
  simp only [if_true];cases i with
  |zero=>rw [xL hl hx,if_pos rfl]
  |succ i=>
   rw [if_neg (by simp)];cases h2:xb ((j,x)::S) (j,i+1) with
   |none=>rfl
   |some y=>exact absurd (fN hl hx h2).1 (by simp)
 ·simp only [if_neg h];exact y4 (by rw [qR,if_neg (fun e=>h e.symm)])
theorem VN(k:Nat)(S:Bx)(κ:x9):xb (jn k S) κ=if κ.1=k then none else xb S κ:=by
 by_cases h:κ.1=k
 ·rw [if_pos h];exact CQ (by rw [yZ,if_pos h])
 ·rw [if_neg h];exact y4 (by rw [yZ,if_neg h])
theorem ZE{k:Nat}{x x':Bk}{S:Bx}(hk:lk S k=some x)(hx':x'.flat=true)(κ:x9):xb (put k x' S) κ=if κ.1=k then (if κ.2=0 then some x' else none) else xb S κ:=by
 obtain⟨j,i⟩:=κ;by_cases h:j=k
 ·subst h;have hl:lk (put j x' S) j=some x':=by rw [yY,if_pos rfl,hk];rfl
  simp only [if_true];cases i with
  |zero=>rw [xL hl hx',if_pos rfl]
  |succ i=>
   rw [if_neg (by simp)];cases h2:xb (put j x' S) (j,i+1) with
   |none=>rfl
   |some y=>exact absurd (fN hl hx' h2).1 (by simp)
 ·simp only [if_neg h];exact y4 (by rw [yY,if_neg h])
theorem vg{κ:x9}{k:Nat}(h1:κ.1=k)(h2:κ.2=0):κ=(k,0):=by obtain⟨a,b⟩:=κ;simp only at h1 h2;rw [h1,h2]
section
variable{p:Par}{Z:Nat->Prop}{β:qq}{H H':Hp}{S:Bx}{nk:Nat}
theorem SR.ble(h:SR p Z β H S nk)(s:Slot):xD β (ju β nk s):=fun k t hk=>by
 by_cases e:k.1=nk
 ·rw [h.nk k (by omega)] at hk;cases hk
 ·rw [ku _ _ e];exact hk
theorem SR.lt(h:SR p Z β H S nk){k:Nat}{x:Bk}(hk:lk S k=some x):k<nk:=by
 have:∃y,xb S (k,0)=some y:=by
  simp only [xb,hk];cases x with
  |tree rows=>exact⟨_,rfl⟩
  |mp ks l=>exact⟨_,rfl⟩
  |mt es=>exact⟨_,rfl⟩
  |cells l=>exact⟨_,rfl⟩
  |data l=>exact⟨_,rfl⟩
 obtain⟨y,hy⟩:=this;obtain⟨s,hs,_⟩:=h.box (k,0) y hy;by_cases e:nk<=k
 ·rw [h.nk (k,0) e] at hs;cases hs
 ·omega
theorem SR.lt1(h:SR p Z β H S nk){κ:x9}{s:Slot}(hk:β κ=some s):κ.1<nk:=by
 by_cases e:nk<=κ.1
 ·rw [h.nk κ e] at hk;cases hk
 ·omega
theorem jI.mono{x:Bk}{s:Slot}{β':qq}(hb:xD β β')(hnx:H.nx<=H'.nx)(hg:∀b,(Z b\/∃N,s=.blk b N)->H'.get b=H.get b)(h:jI p Z H β x s):jI p Z H' β' x s:=by
 cases s with
 |nil=>exact h
 |blk b N=>
  obtain⟨h1,h2,h3,cs,rest,h4,h5,h6⟩:=h;exact⟨h1,h2,by omega,cs,rest,h4.same (hg b (.inr ⟨N,rfl⟩)),h5,Bk.rel_mono (xd.of_get (fun _ h=>h) fun b hb=>hg b (.inl hb)) hb h6⟩
theorem SR.newB(h:SR p Z β H S nk){x:Bk}{b N0:Nat}(hfl:x.flat=true)(hbx:∀β',xD β β'->xd Z H Z H'->jI p Z H' β' x (.blk b N0))(hz:¬Z b)(hβ:∀κ N,β κ≠some (.blk b N))(hlo:p.lo<=b)(hb:b<H'.nx)(hnx:H.nx<=H'.nx)(hw:WF H')(hg:∀b',b'≠b->H'.get b'=H.get b'):
 SR p Z (ju β nk (.blk b N0)) H' ((nk,x)::S) (nk+1)/\xd Z H Z H'/\xD β (ju β nk (.blk b N0)):=by
 have hzg:∀b',Z b'->H'.get b'=H.get b':=fun b' hb'=>hg b' fun e=>hz (e▸hb');have hZ:xd Z H Z H':=xd.of_get (fun _ h=>h) hzg;have hB:=h.ble (.blk b N0);refine⟨⟨hw,Nat.le_trans h.lo hnx,fun b' hb'=>Nat.lt_of_lt_of_le (h.z b' hb') hnx,h.zlo,h.zz,fun b' bk hb'=>?_,fun k hk=>?_,fun k b' N hk=>?_,fun k y hk=>?_,fun k k' y y' b' N N' hk hk' hs hs'=>?_,fun k b' N hk=>?_,fun κ hκ h0=>by rw [ku _ _ (by have:=h.ancn;omega)];exact h.anch κ hκ h0,Nat.le_succ_of_le h.ancn⟩,hZ,hB⟩
 ·obtain⟨h1,h2⟩:=h.glob b' bk hb';exact⟨h1,by rw [hzg b' h1];exact h2⟩
 ·rw [ku _ _ (by omega)];exact h.nk k (by omega)
 ·by_cases e:k=(nk,0)
  ·subst e;rw [qW] at hk;obtain⟨rfl,rfl⟩:=Slot.blk.inj (zsi hk);exact hb
  ·rw [zu _ _ e] at hk;exact Nat.lt_of_lt_of_le (h.bd k b' N hk) hnx
 ·rw [Yi hfl] at hk;split at hk
  ·rename_i e;split at hk
   ·rename_i e2;obtain rfl:=vg e e2;obtain rfl:=zsi hk;exact⟨_,qW _ _ _,hbx _ hB hZ⟩
   ·cases hk
  ·obtain⟨s,hs,hbx⟩:=h.box k y hk;refine⟨s,hB k s hs,hbx.mono hB hnx fun b' hb'=>?_⟩;rcases hb' with hb'|⟨N,rfl⟩
   ·exact hzg b' hb'
   ·exact hg b' fun e=>hβ k N (by rw [hs,e])
 ·by_cases e1:k=(nk,0)
  ·by_cases e2:k'=(nk,0)
   ·rw [e1,e2]
   ·rw [zu _ _ e2] at hs';rw [e1,qW] at hs;obtain⟨rfl,rfl⟩:=Slot.blk.inj (zsi hs);exact absurd hs' (hβ _ _)
  ·rw [zu _ _ e1] at hs;by_cases e2:k'=(nk,0)
   ·rw [e2,qW] at hs';obtain⟨rfl,rfl⟩:=Slot.blk.inj (zsi hs');exact absurd hs (hβ _ _)
   ·rw [zu _ _ e2] at hs';have n1:=h.lt1 hs;have n2:=h.lt1 hs';rw [qR,if_neg (by omega)] at hk hk';exact h.inj k k' y y' b' N N' hk hk' hs hs'
 ·by_cases e:k=(nk,0)
  ·subst e;rw [qW] at hk;obtain⟨rfl,rfl⟩:=Slot.blk.inj (zsi hk);exact hlo
  ·rw [zu _ _ e] at hk;exact h.blo k b' N hk
theorem SR.new(h:SR p Z β H S nk){x:Bk}{b:Nat}{cs rest:List C}(hsh:x.shape=none)(hx:x.rel Z H β cs)(hz:¬Z b)(hβ:∀κ N,β κ≠some (.blk b N))(hlo:p.lo<=b)(hb:b<H'.nx)(hnx:H.nx<=H'.nx)(hw:WF H')(hg:∀b',b'≠b->H'.get b'=H.get b')(hr:zM H' b (cs++rest)):
 SR p Z (ju β nk (.blk b (cs++rest).length)) H' ((nk,x)::S) (nk+1)/\xd Z H Z H'/\xD β (ju β nk (.blk b (cs++rest).length)):=
 h.newB (Bk.rel_flat hx) (fun β' hB hZ=>⟨hz,hlo,hb,cs,rest,by rw [hsh];exact hr,Yl.of hsh rfl,Bk.rel_mono hZ hB hx⟩) hz hβ hlo hb hnx hw hg
theorem SR.updK(h:SR p Z β H S nk){k b N:Nat}{x x':Bk}{cs rest:List C}(hk:lk S k=some x)(hfl:x.flat=true)(hs:β (k,0)=some (.blk b N))(hx:x'.rel Z H β cs)(hg:∀b',b'≠b->H'.get b'=H.get b')(hnx:H'.nx=H.nx)(hr:iT x'.shape H' b (cs++rest))(hN:Yl x'.shape (cs++rest).length N rest):
 SR p Z β H' (put k x' S) nk/\xd Z H Z H':=by
 obtain⟨s,hs',hbx⟩:=h.box (k,0) x (xL hk hfl);rw [hs] at hs';obtain rfl:=zsi hs';obtain⟨hz,hlo,hlt,_⟩:=hbx;have hzg:∀b',Z b'->H'.get b'=H.get b':=fun b' hb'=>hg b' fun e=>hz (e▸hb');have hZ:xd Z H Z H':=xd.of_get (fun _ h=>h) hzg;refine⟨⟨fun b' bk hb'=>?_,by rw [hnx];exact h.lo,fun b' hb'=>by rw [hnx];exact h.z b' hb',h.zlo,h.zz,fun b' bk hb'=>?_,h.nk,fun k b' N hk=>by rw [hnx];exact h.bd k b' N hk,fun j y hj=>?_,fun j j' y y' b' M M' hj hj' hsj hsj'=>?_,h.blo,h.anch,h.ancn⟩,hZ⟩
 ·rw [hnx];by_cases e:b'=b
  ·omega
  ·rw [hg b' e] at hb';exact h.wf b' bk hb'
 ·obtain⟨h1,h2⟩:=h.glob b' bk hb';exact⟨h1,by rw [hzg b' h1];exact h2⟩
 ·rw [ZE hk (Bk.rel_flat hx)] at hj;split at hj
  ·rename_i e;split at hj
   ·rename_i e2;obtain rfl:=vg e e2;obtain rfl:=zsi hj;exact⟨_,hs,hz,hlo,by omega,cs,rest,hr,hN,Bk.rel_mono hZ (xD.refl _) hx⟩
   ·cases hj
  ·rename_i e;obtain⟨s,hsj,hbj⟩:=h.box j y hj;obtain⟨z,hz⟩:=jC hj;refine⟨s,hsj,hbj.mono (xD.refl _) (by omega) fun b' hb'=>?_⟩;rcases hb' with hb'|⟨M,rfl⟩
   ·exact hzg b' hb'
   ·exact hg b' fun e'=>e (by rw [h.inj j (k,0) z x b M N hz hk (e'▸hsj) hs])
 ·rw [yY] at hj hj';have f:∀i z,(if i=k then Option.map (fun _=>x') (lk S i) else lk S i)=some z->∃z',lk S i=some z':=fun i z hz=>by
   split at hz
   ·cases hl:lk S i with
    |none=>rw [hl] at hz;cases hz
    |some q=>exact⟨q,rfl⟩
   ·exact⟨z,hz⟩
  obtain⟨z1,e1⟩:=f j.1 y hj;obtain⟨z2,e2⟩:=f j'.1 y' hj';exact h.inj j j' z1 z2 b' M M' e1 e2 hsj hsj'
theorem SR.upd(h:SR p Z β H S nk){k b N:Nat}{x x':Bk}{cs rest:List C}(hk:lk S k=some x)(hfl:x.flat=true)(hs:β (k,0)=some (.blk b N))(hx:x'.rel Z H β cs)(hg:∀b',b'≠b->H'.get b'=H.get b')(hnx:H'.nx=H.nx)(hsh:x'.shape=none)(hr:zM H' b (cs++rest))(hN:(cs++rest).length=N):
 SR p Z β H' (put k x' S) nk/\xd Z H Z H':=h.updK hk hfl hs hx hg hnx (by rw [hsh];exact hr) (Yl.of hsh hN)
theorem SR.replace(h:SR p Z β H S nk){k:Nat}{x x':Bk}{b:Nat}{cs rest:List C}(hk:lk S k=some x)(hfl:x.flat=true)(hx:x'.rel Z H β cs)(hb:(∃N,β (k,0)=some (.blk b N))\/(¬Z b/\(∀κ N,β κ≠some (.blk b N))/\p.lo<=b))(hbl:b<H'.nx)(hnx:H.nx<=H'.nx)(hw:WF H')(hg:∀b',b'≠b->(∀N,β (k,0)≠some (.blk b' N))->H'.get b'=H.get b')(hsh:x'.shape=none)(hr:zM H' b (cs++rest)):
 SR p Z (ju β nk (.blk b (cs++rest).length)) H' ((nk,x')::jn k S) (nk+1)/\xd Z H Z H'/\xD β (ju β nk (.blk b (cs++rest).length)):=by
 have hkn:=h.lt hk;obtain⟨sk,hsk,hbk⟩:=h.box (k,0) x (xL hk hfl);have hzk:∀b' N,Z b'->β (k,0)≠some (.blk b' N):=fun b' N hz e=>by
  rw [hsk] at e;obtain rfl:=zsi e;exact hbk.1 hz
 have hzb:¬Z b:=by
  rcases hb with⟨N,hN⟩|⟨hz,_⟩
  ·exact fun hz=>hzk b N hz hN
  ·exact hz
 have hlob:p.lo<=b:=by
  rcases hb with⟨N,hN⟩|⟨_,_,hlo⟩
  ·rw [hsk] at hN;obtain rfl:=zsi hN;exact hbk.2.1
  ·exact hlo
 have hzg:∀b',Z b'->H'.get b'=H.get b':=fun b' hb'=>hg b' (fun e=>hzb (e▸hb')) fun N=>hzk b' N hb';have hZ:xd Z H Z H':=xd.of_get (fun _ h=>h) hzg;have hB:=h.ble (.blk b (cs++rest).length);have hoth:∀(j:x9) y N,lk S j.1=some y->j.1≠k->β j≠some (.blk b N):=fun j y N hj hjk e=>by
  rcases hb with⟨M,hM⟩|⟨_,hno,_⟩
  ·exact hjk (by rw [h.inj j (k,0) y x b N M hj hk e hM])
  ·exact hno j N e
 refine⟨⟨hw,Nat.le_trans h.lo hnx,fun b' hb'=>Nat.lt_of_lt_of_le (h.z b' hb') hnx,h.zlo,h.zz,fun b' bk hb'=>?_,fun k hk=>?_,fun k b' N hk=>?_,fun j y hj=>?_,fun j j' y y' b' N N' hj hj' hs hs'=>?_,fun k b' N hk=>?_,fun κ hκ h0=>by rw [ku _ _ (by have:=h.ancn;omega)];exact h.anch κ hκ h0,Nat.le_succ_of_le h.ancn⟩,hZ,hB⟩
 ·obtain⟨h1,h2⟩:=h.glob b' bk hb';exact⟨h1,by rw [hzg b' h1];exact h2⟩
 ·rw [ku _ _ (by omega)];exact h.nk k (by omega)
 ·by_cases e:k=(nk,0)
  ·subst e;rw [qW] at hk;obtain⟨rfl,rfl⟩:=Slot.blk.inj (zsi hk);exact hbl
  ·rw [zu _ _ e] at hk;exact Nat.lt_of_lt_of_le (h.bd k b' N hk) hnx
 ·rw [Yi (Bk.rel_flat hx),VN] at hj;split at hj
  ·rename_i e;split at hj
   ·rename_i e2;obtain rfl:=vg e e2;obtain rfl:=zsi hj;exact⟨_,qW _ _ _,hzb,hlob,hbl,cs,rest,by rw [hsh];exact hr,Yl.of hsh rfl,Bk.rel_mono hZ hB hx⟩
   ·cases hj
  ·split at hj
   ·cases hj
   ·rename_i e e2;obtain⟨s,hs,hbx⟩:=h.box j y hj;obtain⟨z,hz⟩:=jC hj;refine⟨s,hB j s hs,hbx.mono hB hnx fun b' hb'=>?_⟩;rcases hb' with hb'|⟨N,rfl⟩
    ·exact hzg b' hb'
    ·exact hg b' (fun e'=>hoth j z N hz e2 (e'▸hs)) fun M eM=>e2 (by rw [h.inj j (k,0) z x b' N M hz hk hs eM])
 ·have live:∀(κ:x9) w s,lk ((nk,x')::jn k S) κ.1=some w->κ≠(nk,0)->β κ=some s->lk S κ.1=some w/\κ.1≠k:=fun κ w s hl hne hs=>by
   have:=h.lt1 hs;rw [qR,if_neg (by omega),yZ] at hl;split at hl
   ·cases hl
   ·exact⟨hl,by assumption⟩
  by_cases e1:j=(nk,0)
  ·by_cases e2:j'=(nk,0)
   ·rw [e1,e2]
   ·rw [zu _ _ e2] at hs';rw [e1,qW] at hs;obtain⟨rfl,rfl⟩:=Slot.blk.inj (zsi hs);obtain⟨l1,l2⟩:=live j' y' _ hj' e2 hs';exact absurd hs' (hoth j' y' N' l1 l2)
  ·rw [zu _ _ e1] at hs;obtain⟨l1,l2⟩:=live j y _ hj e1 hs;by_cases e2:j'=(nk,0)
   ·rw [e2,qW] at hs';obtain⟨rfl,rfl⟩:=Slot.blk.inj (zsi hs');exact absurd hs (hoth j y N l1 l2)
   ·rw [zu _ _ e2] at hs';obtain⟨l3,l4⟩:=live j' y' _ hj' e2 hs';exact h.inj j j' y y' b' N N' l1 l3 hs hs'
 ·by_cases e:k=(nk,0)
  ·subst e;rw [qW] at hk;obtain⟨rfl,rfl⟩:=Slot.blk.inj (zsi hk);exact hlob
  ·rw [zu _ _ e] at hk;exact h.blo k b' N hk
end
theorem qK.monoP{P:Program}{G:Nat}{f:FuncId}{args:List V}{H:Hp}{R R':V->Hp->Prop}{S:Hp->Prop}(h:qK P G f args H R)(hr:∀v H',R v H'->R' v H'):zi P G f args H R' S:=(h.mono hr).toP
abbrev Wt:=List (Nat × Option (x9 × Nat × Nat))
def WR(Z:Nat->Prop)(β:qq)(H:Hp):Option (x9 × Nat × Nat)->(Hp->Prop)->Prop
 |none,q=>∃b,Z b/\∀H':Hp,(∀i c,H.cell b i=some c->H'.cell b i=some c)->q H'
 |some (k,o,n),q=>∃b N,β k=some (.blk b N)/\∀H':Hp,(∀i c,o<=i->i<o+n->H.cell b i=some c->H'.cell b i=some c)->q H'
def CR(W:Wt)(Z:Nat->Prop)(β:qq)(H:Hp)(c:za):Prop:=∀x∈c,∃y∈W,WR Z β H y.2 x.2
def AR(p:Par)(base rs:Nat)(A:List Nat)(Z:Nat->Prop)(β:qq)(H:Hp):Prop:=p.lo<=base/\∀j,j<rs->j∉A->base+j<H.nx/\H.get (base+j)=none/\¬Z (base+j)/\∀k N,β k≠some (.blk (base+j) N)
structure DPW (p:Par) (base rs:Nat) (Q:qo->Bx->Nat->Prop) (l:List SOper) (W:Wt) (A:List Nat) (E:qo) (S:Bx) (nk:Nat):Prop where
 run:∀Z β H F c QP,SR p Z β H S nk->ER Z β H E F->CR W Z β H c->AR p base rs A Z β H->
  qv p.P p.G base QP (fun F' H'=>∃E' S' nk' Z' β',SR p Z' β' H' S' nk'/\ER Z' β' H' E' F'/\Q E' S' nk') l c F H
section
variable{Z Z':Nat->Prop}{β β':qq}{H H':Hp}{W:Wt}{c:za}
theorem CR.watch(h:CR W Z β H c)(ws:List Nat):xY ws c H:=rX fun x hx=>by
 obtain⟨y,_,hy⟩:=h x hx;obtain⟨_,y2⟩:=y
 match y2,hy with
 |none,⟨b,_,hq⟩=>exact hq H fun _ _ h=>h
 |some (k,o,n),⟨b,N,_,hq⟩=>exact hq H fun _ _ _ _ h=>h
theorem CR.step(h:CR W Z β H c)(hZ:xd Z H Z' H')(hB:xD β β')(hk:∀y∈W,∀k o n,y.2=some (k,o,n)->∀b N i x,β k=some (.blk b N)->o<=i->i<o+n->H.cell b i=some x->H'.cell b i=some x):CR W Z' β' H' c:=fun x hx=>by
 obtain⟨y,hy,hw⟩:=h x hx;refine⟨y,hy,?_⟩;obtain⟨y1,y2⟩:=y
 match y2,hw,hy with
 |none,⟨b,hb,hq⟩,_=>exact⟨b,(hZ b hb).1,fun H'' hh=>hq H'' fun i c hc=>hh i c ((hZ b hb).2 i c hc)⟩
 |some (k,o,n),⟨b,N,hb,hq⟩,hy=>exact⟨b,N,hB k _ hb,fun H'' hh=>hq H'' fun i c h1 h2 hc=>hh i c h1 h2 (hk _ hy k o n rfl b N i c hb h1 h2 hc)⟩
theorem CR.same(h:CR W Z β H c)(hZ:xd Z H Z' H')(hB:xD β β')(hg:∀b,b<H.nx->H'.get b=H.get b)(hw:WF H):CR W Z' β' H' c:=h.step hZ hB fun y hy k o n e b N i x hb _ _ hx=>by
 unfold Hp.cell at hx ⊢;cases hgb:H.get b with
 |none=>simp [hgb] at hx
 |some bk=>rw [hg b (hw b bk hgb)];exact hx
end
def kr(S:Bx)(k:Nat):Wt->Bool
 |[]=>true
 |(_,none)::r=>kr S k r
 |(_,some ((j,_),_,_))::r=>match lk S j with
  |none=>false
  |some _=>match Nat.beq j k with
   |true=>false
   |false=>kr S k r
def HW:Option Bk->Bool
 |some (.tree _)=>false
 |some (.mp _ _)=>false
 |some (.mt _)=>false
 |_=>true
def YJ(S:Bx)(k:Nat)(W:Wt):Bool:=match HW (lk S k) with
 |true=>kr S k W
 |false=>false
theorem dQ{S:Bx}{k:Nat}{W:Wt}{x:Bk}(h:YJ S k W=true)(hk:lk S k=some x):x.flat=true:=by
 unfold YJ at h;rw [hk] at h;cases x with
 |tree rows=>cases h
 |mp ks l=>cases h
 |mt es=>cases h
 |cells l=>rfl
 |data l=>rfl
theorem lF{S:Bx}{k:Nat}{W:Wt}{x:Bk}(h:YJ S k W=true)(hk:lk S k=some x):x.shape=none:=by
 unfold YJ at h;rw [hk] at h;cases x with
 |tree rows=>cases h
 |mp ks l=>cases h
 |mt es=>cases h
 |cells l=>rfl
 |data l=>rfl
theorem Q5{S:Bx}{k:Nat}:∀{W:Wt},kr S k W=true->∀y∈W,∀(j:x9) o n,y.2=some (j,o,n)->(∃x,lk S j.1=some x)/\j.1≠k
 |[],_,y,hy=>by cases hy
 |(i,none)::r,h,y,hy=>by
  rcases List.mem_cons.1 hy with rfl|hy
  ·intro j o n e;cases e
  ·exact Q5 (W:=r) h y hy
 |(i,some ((j',j2),o',n'))::r,h,y,hy=>by
  simp only [kr] at h;split at h
  ·cases h
  ·rename_i x hx;split at h
   ·cases h
   ·rename_i e;rcases List.mem_cons.1 hy with rfl|hy
    ·intro j o n e';obtain⟨rfl,_⟩:=Prod.mk.inj (zsi e');exact⟨⟨x,hx⟩,fun h=>by simp only at h;subst h;simp at e⟩
    ·exact Q5 (W:=r) h y hy
theorem GZ{S:Bx}{k:Nat}{W:Wt}(h:YJ S k W=true):∀y∈W,∀(j:x9) o n,y.2=some (j,o,n)->(∃x,lk S j.1=some x)/\j.1≠k:=by
 unfold YJ at h;split at h
 ·exact Q5 h
 ·cases h
section
variable{p:Par}{base rs:Nat}{Q:qo->Bx->Nat->Prop}{r:List SOper}{W:Wt}{A:List Nat}{E:qo}{S:Bx}{nk:Nat}{id:Nat}{dst:Option Nat}{aid:Option Nat}{ws:List Nat}{keep:Bool}
theorem zE(h:Q E S nk):DPW p base rs Q [] W A E S nk:=.mk fun Z β H F c QP hS hE _ _=>⟨E,S,nk,Z,β,hS,hE,h⟩
theorem xT{op:PureOp}{d:DV}(hd:yd E op=some d)(h:DPW p base rs Q r W A (qX E dst d) S nk):DPW p base rs Q (⟨id,dst,.p op,none,aid,ws,keep⟩::r) W A E S nk:=.mk fun Z β H F c QP hS hE hC hA=>by
 obtain⟨v,hv,hr⟩:=EC hE hd;simp only [qv,qs,if_true,hv];exact h.run Z β H _ c QP hS (hE.set dst hr) hC hA
theorem js{op:PureOp}{d:DV}(hd:∀{Z β H F},ER Z β H E F->∃v,qn F op=some v/\xc Z H β d v)(h:DPW p base rs Q r W A (qX E dst d) S nk):DPW p base rs Q (⟨id,dst,.p op,none,aid,ws,keep⟩::r) W A E S nk:=.mk fun Z β H F c QP hS hE hC hA=>by
 obtain⟨v,hv,hr⟩:=hd hE;simp only [qv,qs,if_true,hv];exact h.run Z β H _ c QP hS (hE.set dst hr) hC hA
theorem zT{Z:Nat->Prop}{β:qq}{H:Hp}{c:C}(hc:c.closed=true):xc Z H β (.one (.f (.c c))) (.one c):=⟨c,rfl,.c c hc⟩
theorem xA{Z:Nat->Prop}{β:qq}{H:Hp}{F:T V}(hE:ER Z β H E F){o:Opd}{c:C}(h:ro E o=some (.one (.f (.c c)))):o.ev F=.one c:=by
 obtain⟨x,hx,hr⟩:=xj hE h;cases hr;exact hx
theorem Vf{x y:Opd}{k:IntKind}{a b:Int}(hx:ro E x=some (.one (.f (.c (.int k a)))))(hy:ro E y=some (.one (.f (.c (.int k b)))))(h:DPW p base rs Q r W A (qX E dst (.one (.f (.c (.int k (max a b)))))) S nk):DPW p base rs Q (⟨id,dst,.p (.mm true x y),none,aid,ws,keep⟩::r) W A E S nk:=by
 refine js (fun {Z β H F} hE=>⟨.one (.int k (max a b)),?_,zT rfl⟩) h;simp only [qn,xA hE hx,xA hE hy,if_true];congr 3;split<;>omega
theorem Ve{x y:Opd}{k:IntKind}{a b:Int}(hx:ro E x=some (.one (.f (.c (.int k a)))))(hy:ro E y=some (.one (.f (.c (.int k b)))))(h:DPW p base rs Q r W A (qX E dst (.one (.f (.c (.int k (min a b)))))) S nk):DPW p base rs Q (⟨id,dst,.p (.mm false x y),none,aid,ws,keep⟩::r) W A E S nk:=by
 refine js (fun {Z β H F} hE=>⟨.one (.int k (min a b)),?_,zT rfl⟩) h;simp only [qn,xA hE hx,xA hE hy,if_true,Bool.false_eq_true,if_false];congr 3;split<;>omega
theorem XB{x y:Opd}{k:IntKind}{a b:Int}(hx:ro E x=some (.one (.f (.c (.int k a)))))(hy:ro E y=some (.one (.f (.c (.int k b)))))(hb:b≠0)(h:DPW p base rs Q r W A (qX E dst (.one (.f (.c (.int k (a.tmod b)))))) S nk):DPW p base rs Q (⟨id,dst,.p (.bin .rem x y),none,aid,ws,keep⟩::r) W A E S nk:=
 js (fun {Z β H F} hE=>⟨.one (.int k (a.tmod b)),by simp [qn,xA hE hx,xA hE hy,yN,hb],zT rfl⟩) h
theorem AG{x y:Opd}{k:IntKind}{a b:Int}(hx:ro E x=some (.one (.f (.c (.int k a)))))(hy:ro E y=some (.one (.f (.c (.int k b)))))(hb:b≠0)(h:DPW p base rs Q r W A (qX E dst (.one (.f (.c (.int k (k.wrap (a.tdiv b))))))) S nk):DPW p base rs Q (⟨id,dst,.p (.bin .quo x y),none,aid,ws,keep⟩::r) W A E S nk:=
 js (fun {Z β H F} hE=>⟨.one (.int k (k.wrap (a.tdiv b))),by simp [qn,xA hE hx,xA hE hy,yN,hb],zT rfl⟩) h
theorem Wg{o a b:Opd}{t x y:Bool}(hc:ro E o=some (.bool t))(ha:t=true->ro E a=some (.bool x))(hb:t=false->ro E b=some (.bool y))(h:DPW p base rs Q r W A (qX E dst (.bool (if t=true then x else y))) S nk):DPW p base rs Q (⟨id,dst,.p (.pick o a b),none,aid,ws,keep⟩::r) W A E S nk:=by
 refine js (fun {Z β H F} hE=>⟨.one (.bool (if t=true then x else y)),?_,zT rfl⟩) h
 simp only [qn,xA hE hc];cases t with
 |true=>simp [xA hE (ha rfl)]
 |false=>simp [xA hE (hb rfl)]
theorem Ys{o a b:Opd}{d:DV}(hc:ro E o=some (.bool true))(ha:ro E a=some d)(h:DPW p base rs Q r W A (qX E dst d) S nk):DPW p base rs Q (⟨id,dst,.p (.pick o a b),none,aid,ws,keep⟩::r) W A E S nk:=
 js (fun {Z β H F} hE=>⟨_,by simp only [qn,xA hE hc,if_true],xj hE ha⟩) h
theorem Yt{o a b:Opd}{d:DV}(hc:ro E o=some (.bool false))(hb:ro E b=some d)(h:DPW p base rs Q r W A (qX E dst d) S nk):DPW p base rs Q (⟨id,dst,.p (.pick o a b),none,aid,ws,keep⟩::r) W A E S nk:=
 js (fun {Z β H F} hE=>⟨_,by simp only [qn,xA hE hc,Bool.false_eq_true,if_false],xj hE hb⟩) h
theorem Vj{esz:Nat}{x i:Opd}{k o n:Nat}{kd:IntKind}{j:Int}(hx:ro E x=some (.one (.own k o n esz)))(hi:ro E i=some (.one (.f (.c (.int kd j)))))(h0:0<=j)(h1:j<n)(h:DPW p base rs Q r W A (qX E dst (.one (.ptr k (o+j.toNat*esz)))) S nk):DPW p base rs Q (⟨id,dst,.p (.iaddr esz x i),none,aid,ws,keep⟩::r) W A E S nk:=by
 refine js (fun {Z β H F} hE=>?_) h;obtain⟨c,hc,hr⟩:=xj hE hx;rcases hr with⟨_,h2,_⟩|⟨b,N,cap,ex,h2,rfl,_⟩
 ·omega
 ·exact⟨.one (.ptr b (o+j.toNat*esz)),by simp only [qn,hc,xA hE hi,Jr];rw [if_pos ⟨trivial,h0,h1⟩],_,rfl,b,N,h2,rfl⟩
theorem Vi{esz:Nat}{x i:Opd}{k n:Nat}{kd:IntKind}{j:Int}(hx:ro E x=some (.one (.own k 0 n esz)))(hi:ro E i=some (.one (.f (.c (.int kd j)))))(h0:0<=j)(h1:j<n)(h:DPW p base rs Q r W A (qX E dst (.one (.ptr k (j.toNat*esz)))) S nk):DPW p base rs Q (⟨id,dst,.p (.iaddr esz x i),none,aid,ws,keep⟩::r) W A E S nk:=
 Vj hx hi h0 h1 (by rw [Nat.zero_add];exact h)
theorem Aa{Z:Nat->Prop}{H:Hp}{esz n:Nat}{l q:List FD}{c:C}(hr:RF Z H (.sl esz n l) c){j:Nat}(hj:j<n)(he:0<esz)(hq:qT l (j*esz) esz=some q):∃b o cap ex cs,c=.slc b o n cap esz ex/\Z b/\H.loads b (o+j*esz) q.length=some cs/\qe (RF Z H) q cs:=by
 obtain⟨hle,rfl⟩:=x6 hq;cases hr with
 |nil=>omega
 |sl hz hl hn hld hel=>
  rename_i b o cap ex cs;refine⟨b,o,cap,ex,(cs.drop (j*esz)).take esz,rfl,hz (Nat.mul_pos (by omega) he),?_,?_⟩
  ·rw [List.length_take,List.length_drop,show min esz (l.length-j*esz)=esz by omega];exact kD hld (by omega)
  ·have hlen:l.length=cs.length:=by rw [hl,zq hld]
   exact ((qe.mk hlen hel).drop _).take _
theorem xU{esz:Nat}{x i:Opd}{n:Nat}{l q:List FD}{kd:IntKind}{j:Nat}(hx:ro E x=some (.one (.f (.sl esz n l))))(hi:ro E i=some (.one (.f (.c (.int kd (j:Nat))))))(h1:j<n)(he:0<esz)(hq:qT l (j*esz) esz=some q)(h:DPW p base rs Q r W A (qX E dst (.one (.fptr q))) S nk):DPW p base rs Q (⟨id,dst,.p (.iaddr esz x i),none,aid,ws,keep⟩::r) W A E S nk:=by
 refine js (fun {Z β H F} hE=>?_) h;obtain⟨c,hc,hr⟩:=xj hE hx;obtain⟨b,o,cap,ex,cs,rfl,hz,hl,ha⟩:=Aa hr h1 he hq;refine⟨.one (.ptr b (o+j*esz)),?_,_,rfl,b,_,cs,rfl,hz,hl,ha⟩;simp only [qn,hc,xA hE hi,Jr];rw [if_pos ⟨trivial,by omega,by omega⟩,Int.toNat_natCast]
theorem Vk{esz:Nat}{x i:Opd}{n:Nat}{l q:List FD}{kd:IntKind}(hx:ro E x=some (.one (.f (.sl esz n l))))(hi:ro E i=some (.one (.f (.c (.int kd 0)))))(h1:0<n)(he:0<esz)(hq:qT l (0*esz) esz=some q)(h:DPW p base rs Q r W A (qX E dst (.one (.fptr q))) S nk):DPW p base rs Q (⟨id,dst,.p (.iaddr esz x i),none,aid,ws,keep⟩::r) W A E S nk:=xU (j:=0) hx hi h1 he hq h
theorem jM{Z:Nat->Prop}{β:qq}{H:Hp}:xc Z H β .undef V.undef:=⟨[],rfl,trivial⟩
theorem ZG{op:SOp}{g:Nat}{t want:Bool}(hg:lk E g=some (.bool t))(ht:t=want)(h:DPW p base rs Q (⟨id,dst,op,none,aid,ws,keep⟩::r) W A E S nk):DPW p base rs Q (⟨id,dst,op,some (g,want),aid,ws,keep⟩::r) W A E S nk:=.mk fun Z β H F c QP hS hE hC hA=>by
 have h':=h.run Z β H F c QP hS hE hC hA;obtain⟨v,hv,x,rfl,hr⟩:=hE g _ hg;cases hr;have hw:qs (some (g,want)) F=true:=by simp [qs,hv,ht]
 rw [qv] at h' ⊢;simp only [qs,if_true] at h';simp only [hw,if_true];exact h'
theorem ZH{op:SOp}{g:Nat}{t want:Bool}(hg:lk E g=some (.bool t))(ht:t=!want)(h:DPW p base rs Q r W A (qX E dst .undef) S nk):DPW p base rs Q (⟨id,dst,op,some (g,want),aid,ws,keep⟩::r) W A E S nk:=.mk fun Z β H F c QP hS hE hC hA=>by
 obtain⟨v,hv,x,rfl,hr⟩:=hE g _ hg;cases hr;have hw:qs (some (g,want)) F=false:=by simp [qs,hv,ht]
 rw [qv];simp only [hw,Bool.false_eq_true,if_false];exact h.run Z β H _ c QP hS (hE.set dst jM) hC hA
theorem Yr{op:SOp}{g:Nat}{want:Bool}(hg:lk E g=some .undef)(h:DPW p base rs Q r W A (qX E dst .undef) S nk):DPW p base rs Q (⟨id,dst,op,some (g,want),aid,ws,keep⟩::r) W A E S nk:=.mk fun Z β H F c QP hS hE hC hA=>by
 obtain⟨v,hv,x,rfl,hr⟩:=hE g _ hg;have hw:qs (some (g,want)) F=false:=by simp [qs,hv]
 rw [qv];simp only [hw,Bool.false_eq_true,if_false];exact h.run Z β H _ c QP hS (hE.set dst jM) hC hA
theorem GB{op:SOp}{g:Nat}{t want:Bool}(hg:lk E g=some (.bool t))(h1:t=want->DPW p base rs Q (⟨id,dst,op,none,aid,ws,keep⟩::r) W A E S nk)(h2:t=!want->DPW p base rs Q r W A (qX E dst .undef) S nk):DPW p base rs Q (⟨id,dst,op,some (g,want),aid,ws,keep⟩::r) W A E S nk:=by
 by_cases ht:t=want
 ·exact ZG hg ht (h1 ht)
 ·have hb:∀a b:Bool,¬a=b->a=!b:=by decide
  have ht':=hb t want ht;exact ZH hg ht' (h2 ht')
theorem cX{op:PureOp}{d:DV}{g:Nat}{t want:Bool}(hg:lk E g=some (.bool t))(hd:t=want->yd E op=some d)(h:DPW p base rs Q r W A (qX E dst (if t=want then d else .undef)) S nk):DPW p base rs Q (⟨id,dst,.p op,some (g,want),aid,ws,keep⟩::r) W A E S nk:=
 GB hg (fun ht=>xT (hd ht) (by rw [if_pos ht] at h;exact h)) (fun ht=>by rw [if_neg (by rw [ht];cases want<;>decide)] at h;exact h)
def Zy(p:Par)(S:Bx):DC->Nat->Option (List DC)
 |.ptr k o,n=>match lk S k with
  |some (.cells l)=>qT l o n
  |some (.data l)=>match qT l o n with
   |some q=>some (q.map .f)
   |none=>none
  |some (.tree rows)=>qT (zd k 0 rows) o n
  |_=>none
 |.tptr k i o,n=>match lk S k with
  |some (.tree rows)=>match rows[i]? with
   |some r=>match qT r o n with
    |some q=>some (q.map .f)
    |none=>none
   |none=>none
  |_=>none
 |.fptr l,n=>match qT l 0 n with
  |some q=>some (q.map .f)
  |none=>none
 |.g b o,n=>match p.GH.get b,p.GH.loads b o n with
  |some _,some q=>some (q.map kY)
  |_,_=>none
 |_,_=>none
def M3:DC->Nat->Option (x9 × Nat × Nat)
 |.ptr k o,n=>some ((k,0),o,n)
 |.tptr k i o,n=>some ((k,i+1),o,n)
 |_,_=>none
theorem wL{Z:Nat->Prop}{H:Hp}{β:qq}:∀{l:List FD} {cs:List C},qe (RF Z H) l cs->qe (RD Z H β) (l.map .f) cs
 |[],[],_=>trivial
 |_::_,_::_,h=>⟨h.1,wL h.2⟩
 |[],_::_,h=>h.elim
 |_::_,[],h=>h.elim
theorem tC{Z:Nat->Prop}{β:qq}{H:Hp}(hS:SR p Z β H S nk){d:DC}{c:C}(hr:RD Z H β d c){n:Nat}{l:List DC}(hl:Zy p S d n=some l):
 ∃b o cs,c=.ptr b o/\H.loads b o n=some cs/\qe (RD Z H β) l cs/\∀q:Hp->Prop,(∀H':Hp,(∀i x,o<=i->i<o+n->H.cell b i=some x->H'.cell b i=some x)->q H')->WR Z β H (M3 d n) q:=by
 have key:∀{κ:x9} {o:Nat} {x:Bk} {q:List DC},xb S κ=some x->x.shape=none->(∀cs,x.rel Z H β cs->qe (RD Z H β) q ((cs.drop o).take n))->o+n<=x.len->(∃b N,β κ=some (.blk b N)/\c=.ptr b o)->∃b o' cs,c=.ptr b o'/\H.loads b o' n=some cs/\qe (RD Z H β) q cs/\∀q:Hp->Prop,(∀H':Hp,(∀i x,o'<=i->i<o'+n->H.cell b i=some x->H'.cell b i=some x)->q H')->WR Z β H (some (κ,o,n)) q:=by
  intro κ o x q hk hsh hq hle hr;obtain⟨b,N,hb,rfl⟩:=hr;obtain⟨s,hs,hbx⟩:=hS.box κ x hk;rw [hb] at hs;obtain rfl:=zsi hs;obtain⟨_,_,_,cs,rest,hrow,hN,hrel⟩:=hbx;rw [hsh] at hrow;have hrow:zM H b (cs++rest):=hrow;have hlen:=Bk.rel_len hrel;refine⟨b,o,(cs.drop o).take n,rfl,?_,hq cs hrel,fun q hq=>⟨b,N,hb,hq⟩⟩;have h1:H.loads b (0+o) n=some (((cs++rest).drop o).take n):=kD hrow.2 (by simp;omega);rw [Nat.zero_add] at h1;rw [h1,List.drop_append_of_le_length (by omega),List.take_append_of_le_length (by simp;omega)]
 cases d with
 |ptr k o=>
  simp only [Zy] at hl;split at hl
  ·rename_i l0 hk;obtain⟨h1,rfl⟩:=x6 hl;exact key (xL hk rfl) rfl (fun cs hrel=>(qe.drop hrel o).take n) h1 hr
  ·rename_i l0 hk;split at hl
   ·rename_i q hq;obtain rfl:=zsi hl;obtain⟨h1,rfl⟩:=x6 hq;exact key (xL hk rfl) rfl (fun cs hrel=>wL ((qe.drop hrel o).take n)) h1 hr
   ·cases hl
  ·rename_i rows hk;obtain⟨h1,rfl⟩:=x6 hl;exact key (κ:=(k,0)) (x:=.cells (zd k 0 rows)) (by simp only [xb,hk]) rfl (fun cs hrel=>(qe.drop hrel o).take n) h1 hr
  ·cases hl
 |tptr k i o=>
  simp only [Zy] at hl;split at hl
  ·rename_i rows hk;split at hl
   ·rename_i r hri;split at hl
    ·rename_i q hq;obtain rfl:=zsi hl;obtain⟨h1,rfl⟩:=x6 hq;exact key (κ:=(k,i+1)) (x:=.data r) (by simp only [xb,hk,hri];rfl) rfl (fun cs hrel=>wL ((qe.drop hrel o).take n)) h1 hr
    ·cases hl
   ·cases hl
  ·cases hl
 |fptr l0=>
  simp only [Zy] at hl;split at hl
  ·rename_i q hq;obtain rfl:=zsi hl;obtain⟨h1,rfl⟩:=x6 hq;obtain⟨b,o,cs,rfl,hz,hld,ha⟩:=hr;refine⟨b,o,cs.take n,rfl,jR hld (by omega),wL (by simpa using ha.take n),fun q hq=>⟨b,hz,fun H' hh=>hq H' fun i x _ _ hx=>hh i x hx⟩⟩
  ·cases hl
 |g b o=>
  simp only [Zy] at hl;split at hl
  ·rename_i bk q hn hq;obtain rfl:=zsi hl;obtain rfl:c=.ptr b o:=hr;obtain⟨h1,h2⟩:=hS.glob b bk (.inl hn);refine⟨b,o,q,rfl,by rw [Zk (H:=p.GH) (by rw [h2,hn])];exact hq,vL q,fun q hq=>⟨b,h1,fun H' hh=>hq H' fun i x _ _ hx=>hh i x hx⟩⟩
  ·cases hl
 |_=>cases hl
def jd(p:Par)(E:qo)(S:Bx)(agg:Bool)(n:Nat)(a:Opd):Option DV:=match ro E a with
 |some (.one d)=>match agg with
  |true=>match Zy p S d n with
   |some l=>some (.agg l)
   |none=>none
  |false=>match Zy p S d 1 with
   |some (x::_)=>some (.one x)
   |_=>none
 |_=>none
def fP(agg:Bool)(n:Nat):Nat:=match agg with
 |true=>n
 |false=>1
def rW(E:qo)(a:Opd)(agg:Bool)(n:Nat):Option (x9 × Nat × Nat):=match ro E a with
 |some (.one d)=>M3 d (fP agg n)
 |_=>none
theorem rB{H:Hp}{b o n:Nat}{x:C}{l:List C}(h:H.loads b o (n+1)=some (x::l)):H.cell b o=some x:=by
 have:=ve (i:=0) h (by omega);simpa using this
theorem KP{H H':Hp}{b:Nat}:∀{n o:Nat} {l:List C},H.loads b o n=some l->(∀i x,o<=i->i<o+n->H.cell b i=some x->H'.cell b i=some x)->H'.loads b o n=some l
 |0,_,_,hl,_=>hl
 |n+1,o,l,hl,hh=>by
  simp only [Hp.loads] at hl ⊢;cases hc:H.cell b o with
  |none=>simp [hc] at hl
  |some c=>
   simp only [hc] at hl;simp only [hh o c (by omega) (by omega) hc];cases hr:H.loads b (o+1) n with
   |none=>simp [hr] at hl
   |some r=>simp only [hr] at hl;simp only [KP hr fun i x h1 h2=>hh i x (by omega) (by omega)];exact hl
theorem Kh{Z:Nat->Prop}{β:qq}{H:Hp}{F:T V}(hS:SR p Z β H S nk)(hE:ER Z β H E F){agg:Bool}{n:Nat}{a:Opd}{d:DV}(hd:jd p E S agg n a=some d):
 ∃v,qA F H (.load agg n a)=some v/\xK Z H β d v/\WR Z β H (rW E a agg n) fun H'=>qA F H' (.load agg n a)=some v:=by
 unfold jd at hd;split at hd
 ·rename_i e he;have hwt:rW E a agg n=M3 e (fP agg n):=by simp only [rW,he]
  rw [hwt];obtain⟨x,hx,hr⟩:=xj hE he;cases agg with
  |true=>
   simp only [fP] at hd ⊢;split at hd
   ·rename_i l hl;obtain rfl:=zsi hd;obtain⟨b,o,cs,rfl,h1,h2,h3⟩:=tC hS hr hl;refine⟨.agg cs,by simp [qA,hx,h1],⟨cs,rfl,h2⟩,h3 _ fun H' hh=>?_⟩;simp [qA,hx,KP h1 hh]
   ·cases hd
  |false=>
   simp only [fP] at hd ⊢;split at hd
   ·rename_i x' l hl;obtain rfl:=zsi hd;obtain⟨b,o,cs,rfl,h1,h2,h3⟩:=tC hS hr hl;cases cs with
    |nil=>exact h2.elim
    |cons y cs=>
     have hcell:=rB h1;refine⟨.one y,by simp [qA,hx,hcell],⟨y,rfl,h2.1⟩,h3 _ fun H' hh=>?_⟩;simp [qA,hx,hh o y (by omega) (by omega) hcell]
   ·cases hd
 ·cases hd
theorem jF{agg:Bool}{n:Nat}{a:Opd}{d:DV}(hd:jd p E S agg n a=some d)(h:DPW p base rs Q r W A (qX E dst d) S nk):DPW p base rs Q (⟨id,dst,.l (.load agg n a),none,aid,ws,false⟩::r) W A E S nk:=.mk fun Z β H F c QP hS hE hC hA=>by
 obtain⟨v,hv,hr,_⟩:=Kh hS hE hd;simp only [qv,qs,if_true,hv,Bool.false_eq_true,if_false];exact h.run Z β H _ c QP hS (hE.set dst (xc.of1 hr)) hC hA
theorem jt{agg:Bool}{n:Nat}{a:Opd}{d:DV}(hd:jd p E S agg n a=some d)(h:DPW p base rs Q r ((id,rW E a agg n)::W) A (qX E dst d) S nk):DPW p base rs Q (⟨id,dst,.l (.load agg n a),none,aid,ws,true⟩::r) W A E S nk:=.mk fun Z β H F c QP hS hE hC hA=>by
 obtain⟨v,hv,hr,hw⟩:=Kh hS hE hd;simp only [qv,qs,if_true,hv];refine h.run Z β H _ _ QP hS (hE.set dst (xc.of1 hr)) (fun x hx=>?_) hA;rcases List.mem_cons.1 hx with rfl|hx
 ·exact⟨(id,rW E a agg n),List.mem_cons_self,hw⟩
 ·obtain⟨y,hy,hr⟩:=hC x hx;exact⟨y,by simp [hy],hr⟩
theorem cY{agg:Bool}{n:Nat}{a:Opd}{d:DV}{g:Nat}{t want:Bool}(hg:lk E g=some (.bool t))(hd:t=want->jd p E S agg n a=some d)(h:DPW p base rs Q r W A (qX E dst (if t=want then d else .undef)) S nk):DPW p base rs Q (⟨id,dst,.l (.load agg n a),some (g,want),aid,ws,false⟩::r) W A E S nk:=
 GB hg (fun ht=>jF (hd ht) (by rw [if_pos ht] at h;exact h)) (fun ht=>by rw [if_neg (by rw [ht];cases want<;>decide)] at h;exact h)
theorem ja{agg:Bool}{n k o:Nat}{a:Opd}{l q:List FD}(ha:ro E a=some (.one (.ptr k o)))(hk:lk S k=some (.data l))(hl:qT l o (fP agg n)=some q){d:DV}(hd:(match agg,q with|true,q=>some (.agg (q.map .f))|false,x::_=>some (.one (.f x))|false,[]=>none)=some d):jd p E S agg n a=some d:=by
 cases agg with
 |true=>simp only [fP] at hl hd;simp only [jd,ha,Zy,hk,hl];exact hd
 |false=>
  simp only [fP] at hl;cases q with
  |nil=>cases hd
  |cons x q=>simp only at hd;simp only [jd,ha,Zy,hk,hl,List.map_cons];exact hd
theorem y8{n k o:Nat}{a:Opd}{rows:List (List FD)}{r:List FD}(ha:ro E a=some (.one (.ptr k o)))(hk:lk S k=some (.tree rows))(hl:rows[o]?=some r):jd p E S false n a=some (.one (.trow k o 0 r.length)):=by
 have h1:o<rows.length:=(zgs hl).1;have h2:qT (zd k 0 rows) o 1=some [.trow k o 0 r.length]:=by
  rw [zw (by rw [Y2];omega)];congr 1;refine List.ext_getElem? fun j=>?_;rw [List.getElem?_take];split
  ·rename_i hj;obtain rfl:j=0:=by omega
   rw [List.getElem?_drop,WS,Nat.add_zero,hl];simp
  ·rename_i hj;rw [List.getElem?_eq_none (by simp;omega)]
 simp only [jd,ha,Zy,hk,h2]
theorem y9{n k i o:Nat}{a:Opd}{rows:List (List FD)}{r:List FD}{x:FD}(ha:ro E a=some (.one (.tptr k i o)))(hk:lk S k=some (.tree rows))(hi:rows[i]?=some r)(ho:r[o]?=some x):jd p E S false n a=some (.one (.f x)):=by
 have h1:o<r.length:=(zgs ho).1;have h2:qT r o 1=some [x]:=by
  rw [zw (by omega)];congr 1;refine List.ext_getElem? fun j=>?_;rw [List.getElem?_take];split
  ·rename_i hj;obtain rfl:j=0:=by omega
   rw [List.getElem?_drop,Nat.add_zero,ho];simp
  ·rename_i hj;rw [List.getElem?_eq_none (by simp;omega)]
 simp only [jd,ha,Zy,hk,hi,h2,List.map_cons]
theorem Cm{x i:Opd}{k t o n:Nat}{kd:IntKind}{j:Int}(hx:ro E x=some (.one (.trow k t o n)))(hi:ro E i=some (.one (.f (.c (.int kd j)))))(h0:0<=j)(h1:j<n)(h:DPW p base rs Q r W A (qX E dst (.one (.tptr k t (o+j.toNat*1)))) S nk):DPW p base rs Q (⟨id,dst,.p (.iaddr 1 x i),none,aid,ws,keep⟩::r) W A E S nk:=by
 refine js (fun {Z β H F} hE=>?_) h;obtain⟨c,hc,hr⟩:=xj hE hx;rcases hr with⟨_,h2,_⟩|⟨b,N,cap,ex,h2,rfl,_⟩
 ·omega
 ·exact⟨.one (.ptr b (o+j.toNat*1)),by simp only [qn,hc,xA hE hi,Jr];rw [if_pos ⟨trivial,h0,h1⟩],_,rfl,b,N,h2,rfl⟩
theorem Vg{x i:Opd}{k t n:Nat}{kd:IntKind}{j:Int}(hx:ro E x=some (.one (.trow k t 0 n)))(hi:ro E i=some (.one (.f (.c (.int kd j)))))(h0:0<=j)(h1:j<n)(h:DPW p base rs Q r W A (qX E dst (.one (.tptr k t j.toNat))) S nk):DPW p base rs Q (⟨id,dst,.p (.iaddr 1 x i),none,aid,ws,keep⟩::r) W A E S nk:=
 Cm hx hi h0 h1 (by rw [Nat.zero_add,Nat.mul_one];exact h)
theorem Vh{x i:Opd}{k n:Nat}{kd:IntKind}{j:Int}(hx:ro E x=some (.one (.own k 0 n 1)))(hi:ro E i=some (.one (.f (.c (.int kd j)))))(h0:0<=j)(h1:j<n)(h:DPW p base rs Q r W A (qX E dst (.one (.ptr k j.toNat))) S nk):DPW p base rs Q (⟨id,dst,.p (.iaddr 1 x i),none,aid,ws,keep⟩::r) W A E S nk:=
 Vj hx hi h0 h1 (by rw [Nat.zero_add,Nat.mul_one];exact h)
end
def iP:List DC->Option (List FD)
 |[]=>some []
 |.f d::l=>match iP l with
  |some r=>some (d::r)
  |none=>none
 |_::_=>none
def fH(l:List DC):Bk:=match iP l with
 |some r=>.data r
 |none=>.cells l
section
variable{Z:Nat->Prop}{H:Hp}{β:qq}
theorem V4:∀{l:List DC} {r:List FD} {cs:List C},iP l=some r->qe (RD Z H β) l cs->qe (RF Z H) r cs
 |[],r,[],h,_=>by obtain rfl:=zsi h;trivial
 |.f d::l,r,c::cs,h,hr=>by
  simp only [iP] at h;split at h
  ·rename_i q hq;obtain rfl:=zsi h;exact⟨hr.1,V4 hq hr.2⟩
  ·cases h
 |[],_,_::_,_,hr=>hr.elim
 |_::_,_,[],_,hr=>hr.elim
 |.g _ _::_,_,_::_,h,_=>by cases h
 |.ptr _ _::_,_,_::_,h,_=>by cases h
 |.own _ _ _ _::_,_,_::_,h,_=>by cases h
 |.fptr _::_,_,_::_,h,_=>by cases h
 |.fn _ _::_,_,_::_,h,_=>by cases h
 |.any::_,_,_::_,h,_=>by cases h
 |.om _::_,_,_::_,h,_=>by cases h
 |.yl _::_,_,_::_,h,_=>by cases h
 |.fz _ _::_,_,_::_,h,_=>by cases h
 |.trow _ _ _ _::_,_,_::_,h,_=>by cases h
 |.tptr _ _ _::_,_,_::_,h,_=>by cases h
theorem HO{l:List DC}{cs:List C}(h:qe (RD Z H β) l cs):(fH l).rel Z H β cs:=by
 unfold fH;split
 ·rename_i r hr;exact V4 hr h
 ·exact h
end
theorem o8(l:List DC):(fH l).shape=none:=by
 unfold fH;split<;>rfl
theorem bQ{F:T V}:∀{ps:List (Nat × Nat × Opd)} {z l:List C},zI F z ps=some l->l.length=z.length
 |[],z,l,h=>by rw [zsi h]
 |(off,size,x)::r,z,l,h=>by
  simp only [zI] at h;split at h
  ·cases h
  ·rename_i cs _;split at h
   ·rename_i e;rw [bQ h];simp only [List.length_append,List.length_take,List.length_drop];omega
   ·cases h
def Qt(E:qo)(nk:Nat):AllocOp->Option (Bk × DV)
 |.alloc z=>some (.cells (z.map kY),.one (.ptr nk 0))
 |.box x=>match ro E x with
  |some d=>match JI d with
   |some l=>some (.cells l,.one (.ptr nk 0))
   |none=>none
  |none=>none
 |.bslice esz len z ps=>match Wd E ((z7 z (len*esz)).map kY) ps with
  |some l=>some (fH l,.one (.own nk 0 len esz))
  |none=>none
 |_=>none
theorem JF{E:qo}{nk:Nat}{op:AllocOp}{x:Bk}{d:DV}(h:Qt E nk op=some (x,d)):x.shape=none:=by
 cases op with
 |alloc z=>obtain⟨rfl,rfl⟩:=Prod.mk.inj (zsi h);rfl
 |box o=>
  simp only [Qt] at h;split at h
  ·split at h
   ·obtain⟨rfl,rfl⟩:=Prod.mk.inj (zsi h);rfl
   ·cases h
  ·cases h
 |bslice esz len z ps=>
  simp only [Qt] at h;split at h
  ·obtain⟨rfl,rfl⟩:=Prod.mk.inj (zsi h);exact o8 _
  ·cases h
 |_=>cases h
section
variable{p:Par}{Z:Nat->Prop}{H:Hp}{β:qq}{E:qo}{F:T V}{nk:Nat}
theorem b5(hE:ER Z β H E F){op:AllocOp}{x:Bk}{d:DV}(h:Qt E nk op=some (x,d)):∃cs g,xw F op=some (.row cs.length cs .lf true,g)/\x.rel Z H β cs/\∀b H' Z' β',β' (nk,0)=some (.blk b cs.length)->xc Z' H' β' d (g b):=by
 cases op with
 |alloc z=>
  obtain⟨rfl,rfl⟩:=Prod.mk.inj (zsi h);exact⟨z,_,rfl,vL z,fun b H' Z' β' hb=>⟨_,rfl,b,_,hb,rfl⟩⟩
 |box o=>
  simp only [Qt] at h;split at h
  ·rename_i d' hd';split at h
   ·rename_i l hl;obtain⟨rfl,rfl⟩:=Prod.mk.inj (zsi h);obtain⟨cs,h1,h2⟩:=JH (xj hE hd') hl;exact⟨cs,fun b=>.one (.ptr b 0),by simp only [xw,h1],h2,fun b H' Z' β' hb=>⟨_,rfl,b,_,hb,rfl⟩⟩
   ·cases h
  ·cases h
 |bslice esz len z ps=>
  simp only [Qt] at h;split at h
  ·rename_i l hl;obtain⟨rfl,rfl⟩:=Prod.mk.inj (zsi h);obtain⟨cs,h1,h2⟩:=Ka hE (vL _) hl;have hlen:=bQ h1;refine⟨cs,fun b=>.one (.slc b 0 len len esz true),by simp only [xw,h1],HO h2,fun b H' Z' β' hb=>⟨_,rfl,.inr ⟨b,cs.length,len,true,hb,rfl,Nat.le_refl _,?_⟩⟩⟩;rw [hlen];simp [z7]
  ·cases h
 |_=>cases h
end
section
variable{p:Par}{base rs:Nat}{Q:qo->Bx->Nat->Prop}{r:List SOper}{W:Wt}{A:List Nat}{E:qo}{S:Bx}{nk:Nat}{id:Nat}{dst:Option Nat}{aid:Option Nat}{ws:List Nat}{keep:Bool}
theorem AR.new{Z:Nat->Prop}{β:qq}{H H':Hp}{b N:Nat}(hA:AR p base rs A Z β H)(hnx:H.nx<=H'.nx)(hg:∀b',b'≠b->H'.get b'=H.get b')(hb:∀j,j<rs->j∉A->base+j≠b):AR p base rs A Z (ju β nk (.blk b N)) H':=by
 refine⟨hA.1,fun j hj hjA=>?_⟩;obtain⟨h1,h2,h3,h4⟩:=hA.2 j hj hjA;refine⟨by omega,by rw [hg _ (hb j hj hjA)];exact h2,h3,fun k M=>?_⟩;by_cases e:k=(nk,0)
 ·subst e;rw [qW];intro h;exact hb j hj hjA (Slot.blk.inj (zsi h)).1.symm
 ·rw [zu _ _ e];exact h4 k M
theorem CR.new{Z:Nat->Prop}{β β':qq}{H H':Hp}{b:Nat}{c:za}(hC:CR W Z β H c)(hZ:xd Z H Z H')(hB:xD β β')(hg:∀b',b'≠b->H'.get b'=H.get b')(hb:H.get b=none):CR W Z β' H' c:=hC.step hZ hB fun y _ k o n _ b' N i x _ _ _ hx=>by
 unfold Hp.cell at hx ⊢;by_cases e:b'=b
 ·subst e;rw [hb] at hx;cases hx
 ·rw [hg b' e];exact hx
theorem nH {op:AllocOp} {x:Bk} {d:DV} (hsh:x.shape=none) (hd:∀{Z:Nat->Prop} {β:qq} {H:Hp} {F:T V},ER Z β H E F->∃bk g cs rest,xw F op=some (bk,g)/\(∀b H',H'.get b=some bk->zM H' b (cs++rest))/\x.rel Z H β cs/\∀b (H':Hp) (Z':Nat->Prop) β',β' (nk,0)=some (.blk b (cs++rest).length)->xc Z' H' β' d (g b))
 (h:DPW p base rs Q r W A (qX E dst d) ((nk,x)::S) (nk+1)):DPW p base rs Q (⟨id,dst,.a op,none,none,ws,keep⟩::r) W A E S nk:=.mk fun Z β H F c QP hS hE hC hA=>by
 obtain⟨bk,g,cs,rest,h1,h2,h3,h4⟩:=hd hE;simp only [qv,qs,if_true,h1];have hfr:H.get H.nx=none:=hS.wf.fresh (Nat.le_refl _);have hg:∀b',b'≠H.nx->(H.push bk).get b'=H.get b':=fun b' hb'=>by rw [Hp.get_push,if_neg hb']
 obtain⟨hS',hZ,hB⟩:=hS.new (x:=x) (b:=H.nx) (H':=H.push bk) (cs:=cs) (rest:=rest) hsh h3 (fun hz=>absurd (hS.z _ hz) (by omega)) (fun k N hk=>absurd (hS.bd k _ N hk) (by omega)) hS.lo (by simp) (by simp) (hS.wf.push _) hg (h2 _ _ (by rw [Hp.get_push,if_pos rfl]));exact h.run Z _ _ _ c QP hS' ((hE.mono hZ hB).set dst (h4 _ _ _ _ (qW _ _ _))) (hC.new hZ hB hg hfr) (hA.new (by simp) hg fun j hj hjA e=>by have:=(hA.2 j hj hjA).1;omega)
theorem C9 {op:AllocOp} {x:Bk} {d:DV} {i:Nat} (hi:Nat.blt i rs=true) (hA':A.elem i=false) (hsh:x.shape=none) (hd:∀{Z:Nat->Prop} {β:qq} {H:Hp} {F:T V},ER Z β H E F->∃bk g cs rest,xw F op=some (bk,g)/\(∀b H',H'.get b=some bk->zM H' b (cs++rest))/\x.rel Z H β cs/\∀b (H':Hp) (Z':Nat->Prop) β',β' (nk,0)=some (.blk b (cs++rest).length)->xc Z' H' β' d (g b))
 (h:DPW p base rs Q r W (i::A) (qX E dst d) ((nk,x)::S) (nk+1)):DPW p base rs Q (⟨id,dst,.a op,none,some i,ws,keep⟩::r) W A E S nk:=.mk fun Z β H F c QP hS hE hC hA=>by
 obtain⟨bk,g,cs,rest,h1,h2,h3,h4⟩:=hd hE;simp only [qv,qs,if_true,h1];have hi':i<rs:=Nat.le_of_ble_eq_true hi;have hiA:i∉A:=fun h=>by rw [List.elem_eq_true_of_mem h] at hA';cases hA'
 obtain⟨g1,g2,g3,g4⟩:=hA.2 i hi' hiA;have hg:∀b',b'≠base+i->(H.add (base+i) bk).get b'=H.get b':=fun b' hb'=>Hp.get_add_ne _ _ hb';have hw:WF (H.add (base+i) bk):=fun b k hb=>by
  rw [Hp.get_add] at hb;split at hb
  ·simp;omega
  ·exact hS.wf b k hb
 obtain⟨hS',hZ,hB⟩:=hS.new (x:=x) (b:=base+i) (H':=H.add (base+i) bk) (cs:=cs) (rest:=rest) hsh h3 g3 g4 (by have:=hA.1;omega) (by simpa using g1) (by simp) hw hg (h2 _ _ (by simp));refine h.run Z _ _ _ c QP hS' ((hE.mono hZ hB).set dst (h4 _ _ _ _ (qW _ _ _))) (hC.new hZ hB hg g2) ?_;have hA2:AR p base rs (i::A) Z β H:=⟨hA.1,fun j hj hjA=>hA.2 j hj fun h=>hjA (by simp [h])⟩;exact hA2.new (by simp) hg fun j hj hjA e=>hjA (by simp;omega)
theorem s6{cs:List C}(b:Nat)(H':Hp)(h:H'.get b=some (.row cs.length cs .lf true)):zM H' b (cs++[]):=by
 rw [List.append_nil];exact⟨⟨cs,.lf,h⟩,Jk (rw:=true) h⟩
theorem Qz{op:AllocOp}{x:Bk}{d:DV}(hd:Qt E nk op=some (x,d))(h:DPW p base rs Q r W A (qX E dst d) ((nk,x)::S) (nk+1)):DPW p base rs Q (⟨id,dst,.a op,none,none,ws,keep⟩::r) W A E S nk:=
 nH (JF hd) (fun hE=>by
  obtain⟨cs,g,h1,h2,h3⟩:=b5 hE hd;exact⟨_,g,cs,[],h1,s6,h2,fun b H' Z' β' hb=>h3 b H' Z' β' (by simpa using hb)⟩) h
theorem cZ{op:AllocOp}{x:Bk}{d:DV}{i:Nat}(hi:Nat.blt i rs=true)(hA':A.elem i=false)(hd:Qt E nk op=some (x,d))(h:DPW p base rs Q r W (i::A) (qX E dst d) ((nk,x)::S) (nk+1)):DPW p base rs Q (⟨id,dst,.a op,none,some i,ws,keep⟩::r) W A E S nk:=
 C9 hi hA' (JF hd) (fun hE=>by
  obtain⟨cs,g,h1,h2,h3⟩:=b5 hE hd;exact⟨_,g,cs,[],h1,s6,h2,fun b H' Z' β' hb=>h3 b H' Z' β' (by simpa using hb)⟩) h
def Dm:List FD->List C->Bool
 |[],[]=>true
 |.c _::l,x::m=>x.closed&&Dm l m
 |.sl _ 0 []::l,.nils::m=>Dm l m
 |_,_=>false
def aA:List FD->List C->Prop
 |[],[]=>True
 |.c y::l,x::m=>y=x/\x.closed=true/\aA l m
 |.sl _ n q::l,x::m=>n=0/\q=[]/\x=.nils/\aA l m
 |_,_=>False
theorem Ko{Z:Nat->Prop}{H:Hp}:∀{l:List FD} {m:List C},aA l m->qe (RF Z H) l m
 |[],[],_=>trivial
 |.c y::l,x::m,h=>by obtain⟨rfl,h1,h2⟩:=h;exact⟨.c _ h1,Ko h2⟩
 |.sl e n q::l,x::m,h=>by obtain⟨rfl,rfl,rfl,h2⟩:=h;exact⟨.nil e,Ko h2⟩
 |[],_::_,h=>h.elim
 |.c _::_,[],h=>h.elim
 |.sl _ _ _::_,[],h=>h.elim
def yF(z:List FD):Nat->List FD
 |0=>[]
 |n+1=>z++yF z n
theorem Qn(z:List FD):∀n,(yF z n).length=n*z.length
 |0=>by simp [yF]
 |n+1=>by simp [yF,Qn z n,Nat.add_mul];omega
theorem eH(z:List FD):∀(n i:Nat),i<n*z.length->(yF z n)[i]?=z[i % z.length]?
 |0,i,h=>by simp at h
 |n+1,i,h=>by
  simp only [yF];by_cases hi:i<z.length
  ·rw [List.getElem?_append_left hi,Nat.mod_eq_of_lt hi]
  ·rw [List.getElem?_append_right (by omega),eH z n (i-z.length) (by rw [Nat.add_mul,Nat.one_mul] at h;omega)];congr 1;exact (Nat.mod_eq_sub_mod (by omega)).symm
theorem aS(x:FD):∀n,yF [x] n=List.replicate n x
 |0=>rfl
 |n+1=>by simp [yF,aS x n,List.replicate_succ]
theorem HC{z:List C}{M:Nat}(hz:0<z.length)(b:Nat)(H':Hp)(h:H'.get b=some (.row M z .lf true)):zM H' b ((List.range M).map fun i=>z.getD (i % z.length) .nilp):=by
 refine⟨⟨z,.lf,by simpa using h⟩,?_⟩;have key:∀(m o:Nat),o+m=M->H'.loads b o m=some ((List.range' o m).map fun i=>z.getD (i % z.length) .nilp):=by
  intro m;induction m with
  |zero=>intro o _;rfl
  |succ m ih=>
   intro o ho;have hc:H'.cell b o=some (z.getD (o % z.length) .nilp):=by simp [Hp.cell,h,B.cell,show o<M by omega]
   simp only [Hp.loads,hc,ih (o+1) (by omega),List.range'_succ,List.map_cons]
 have:=key M 0 (by omega);simpa [List.range_eq_range'] using this
theorem tR{Z:Nat->Prop}{H:Hp}{zf:List FD}{z:List C}(hz:aA zf z)(hp:0<z.length){n M:Nat}(hn:n*z.length<=M):∃cs rest,(List.range M).map (fun i=>z.getD (i % z.length) .nilp)=cs++rest/\qe (RF Z H) (yF zf n) cs:=by
 have ha:=Ko (Z:=Z) (H:=H) hz;have hl:=ha.len;refine⟨((List.range M).map (fun i=>z.getD (i % z.length) .nilp)).take (n*z.length),_,(List.take_append_drop _ _).symm,qe.mk ?_ fun i d c hd hc=>?_⟩
 ·rw [Qn,hl];simp;omega
 ·have hi:i<n*zf.length:=by rw [<-Qn];exact (zgs hd).1
  rw [eH zf n i hi] at hd;obtain⟨x,hx,hr⟩:=ha.at _ d hd;rw [List.getElem?_take,if_pos (by rw [<-hl];exact hi),List.getElem?_map,List.getElem?_range (by rw [hl] at hi;omega)] at hc;simp only [Option.map_some,zoi] at hc;rw [<-hl] at hc;rw [List.getD_eq_getElem?_getD,hx] at hc;simp only [Option.getD_some] at hc;exact hc▸hr
theorem Ak {esz bytes n m:Nat} {z:List C} {zf:List FD} {lo co:Opd} {k k':IntKind} (hl:ro E lo=some (.one (.f (.c (.int k (n:Nat)))))) (hc:ro E co=some (.one (.f (.c (.int k' (m:Nat)))))) (hz:aA zf z) (hze:z.length=esz) (hp:0<esz) (hnm:n<=m) (hb:bytes*m<=281474976710656) (hm:m<4611686018427387904)
 {Z:Nat->Prop} {β:qq} {H:Hp} {F:T V} (hE:ER Z β H E F):∃bk g cs rest,xw F (.mkslice esz bytes z lo co)=some (bk,g)/\(∀b H',H'.get b=some bk->zM H' b (cs++rest))/\(Bk.data (yF zf n)).rel Z H β cs/\∀b (H':Hp) (Z':Nat->Prop) β',β' (nk,0)=some (.blk b (cs++rest).length)->xc Z' H' β' (.one (.own nk 0 n esz)) (g b):=by
 obtain⟨cs,rest,h1,h2⟩:=tR (Z:=Z) (H:=H) hz (by omega) (n:=n) (M:=m*esz) (by rw [hze];exact Nat.mul_le_mul_right _ hnm);refine⟨.row (m*esz) z .lf true,fun b=>.one (.slc b 0 n m esz true),cs,rest,?_,fun b H' hb=>?_,h2,fun b H' Z' β' hb=>⟨_,rfl,.inr ⟨b,_,m,true,hb,rfl,hnm,?_⟩⟩⟩
 ·simp only [xw,xA hE hl,xA hE hc];rw [if_pos ⟨by omega,by omega,by omega,by omega⟩];simp
 ·rw [<-h1];exact HC (by omega) b H' hb
 ·rw [<-h1];simp
theorem pR {esz bytes n m:Nat} {z:List C} (zf:List FD) {lo co:Opd} {k k':IntKind} (hl:ro E lo=some (.one (.f (.c (.int k (n:Nat)))))) (hc:ro E co=some (.one (.f (.c (.int k' (m:Nat)))))) (hz:aA zf z) (hze:z.length=esz) (hp:0<esz) (hnm:n<=m) (hb:bytes*m<=281474976710656) (hm:m<4611686018427387904)
 (h:DPW p base rs Q r W A (qX E dst (.one (.own nk 0 n esz))) ((nk,.data (yF zf n))::S) (nk+1)):DPW p base rs Q (⟨id,dst,.a (.mkslice esz bytes z lo co),none,none,ws,keep⟩::r) W A E S nk:=
 nH (x:=.data (yF zf n)) rfl (fun hE=>Ak hl hc hz hze hp hnm hb hm hE) h
end
end Go.Ab
