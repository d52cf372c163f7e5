/- -/
import Derived.Test.YtdlelodnhjacgaaGreatDoorAb10
set_option linter.unusedSimpArgs false
set_option linter.unusedVariables false
set_option maxRecDepth 8000
namespace Go.Ab
def wm(β:qt)(k:Nat)(s:Slot):qt:=fun j=>if j=(k,0) then some s else β j
theorem xk(β:qt)(k:Nat)(s:Slot):wm β k s (k,0)=some s:=by simp [wm]
theorem z8(β:qt){k:Nat}{j:zP}(s:Slot)(h:j≠(k,0)):wm β k s j=β j:=by simp [wm,h]
theorem vY(β:qt){k:Nat}{j:zP}(s:Slot)(h:j.1≠k):wm β k s j=β j:=z8 β s fun e=>h (by rw [e])
theorem cP{k:Nat}{x:Bk}(hx:x.flat=true)(S:Bx)(κ:zP):qR ((k,x)::S) κ=if κ.1=k then (if κ.2=0 then some x else none) else qR S κ:=by
 obtain⟨j,i⟩:=κ;by_cases h:j=k
 ·subst h;have hl:lk ((j,x)::S) j=some x:=by rw [qw,if_pos rfl]
  simp only [if_true];cases i with
  |zero=>rw [zN hl hx,if_pos rfl]
  |succ i=>
   rw [if_neg (by simp)];cases h2:qR ((j,x)::S) (j,i+1) with
   |none=>rfl
   |some y=>exact absurd (uJ hl hx h2).1 (by simp)
 ·simp only [if_neg h];exact yK (by rw [qw,if_neg (fun e=>h e.symm)])
theorem Xz(k:Nat)(S:Bx)(κ:zP):qR (xP k S) κ=if κ.1=k then none else qR S κ:=by
 by_cases h:κ.1=k
 ·rw [if_pos h];exact TN (by rw [yB,if_pos h])
 ·rw [if_neg h];exact yK (by rw [yB,if_neg h])
theorem aA{k:Nat}{x x':Bk}{S:Bx}(hk:lk S k=some x)(hx':x'.flat=true)(κ:zP):qR (put k x' S) κ=if κ.1=k then (if κ.2=0 then some x' else none) else qR S κ:=by
 obtain⟨j,i⟩:=κ;by_cases h:j=k
 ·subst h;have hl:lk (put j x' S) j=some x':=by rw [yu,if_pos rfl,hk];rfl
  simp only [if_true];cases i with
  |zero=>rw [zN hl hx',if_pos rfl]
  |succ i=>
   rw [if_neg (by simp)];cases h2:qR (put j x' S) (j,i+1) with
   |none=>rfl
   |some y=>exact absurd (uJ hl hx' h2).1 (by simp)
 ·simp only [if_neg h];exact yK (by rw [yu,if_neg h])
theorem Yf{κ:zP}{k:Nat}(h1:κ.1=k)(h2:κ.2=0):κ=(k,0):=by obtain⟨a,b⟩:=κ;simp only at h1 h2;rw [h1,h2]
section
variable{p:Par}{Z:Nat->Prop}{β:qt}{H H':Hp}{S:Bx}{nk:Nat}
theorem SR.ble(h:SR p Z β H S nk)(s:Slot):xL β (wm β nk s):=fun k t hk=>by
 by_cases e:k.1=nk
 ·rw [h.nk k (by omega)] at hk;cases hk
 ·rw [vY _ _ e];exact hk
theorem SR.lt(h:SR p Z β H S nk){k:Nat}{x:Bk}(hk:lk S k=some x):k<nk:=by
 have:∃y,qR S (k,0)=some y:=by
  simp only [qR,hk];cases x with
  |tree rows=>exact⟨_,O⟩
  |mp ks l=>exact⟨_,O⟩
  |mt es=>exact⟨_,O⟩
  |cells l=>exact⟨_,O⟩
  |data l=>exact⟨_,O⟩
 obtain⟨y,hy⟩:=this;obtain⟨s,hs,_⟩:=h.box (k,0) y hy;by_cases e:nk<=k
 ·rw [h.nk (k,0) e] at hs;cases hs
 ·omega
theorem SR.lt1(h:SR p Z β H S nk){κ:zP}{s:Slot}(hk:β κ=some s):κ.1<nk:=by
 by_cases e:nk<=κ.1
 ·rw [h.nk κ e] at hk;cases hk
 ·omega
theorem vD.mono{x:Bk}{s:Slot}{β':qt}(hb:xL β β')(hnx:H.nx<=H'.nx)(hg:∀b,(Z b\/∃N,s=.blk b N)->H'.get b=H.get b)(h:vD p Z H β x s):vD p Z H' β' x s:=by
 cases s with
 |nil=>exact h
 |blk b N=>
  obtain⟨h1,h2,h3,cs,rest,h4,h5,h6⟩:=h;exact⟨h1,h2,by omega,cs,rest,h4.same (hg b (.inr ⟨N,rfl⟩)),h5,Bk.rel_mono (xb.of_get (fun _ h=>h) fun b hb=>hg b (.inl hb)) hb h6⟩
theorem SR.newB(h:SR p Z β H S nk){x:Bk}{b N0:Nat}(hfl:x.flat=true)(hbx:∀β',xL β β'->xb Z H Z H'->vD p Z H' β' x (.blk b N0))(hz:¬Z b)(hβ:∀κ N,β κ≠some (.blk b N))(hlo:p.lo<=b)(hb:b<H'.nx)(hnx:H.nx<=H'.nx)(hw:WF H')(hg:∀b',b'≠b->H'.get b'=H.get b'):
 SR p Z (wm β nk (.blk b N0)) H' ((nk,x)::S) (nk+1)/\xb Z H Z H'/\xL β (wm β nk (.blk b N0)):=by
 have hzg:∀b',Z b'->H'.get b'=H.get b':=fun b' hb'=>hg b' fun e=>hz (e▸hb');have hZ:xb Z H Z H':=xb.of_get (fun _ h=>h) hzg;have hB:=h.ble (.blk b N0);refine⟨⟨hw,aZ h.lo hnx,fun b' hb'=>Qg (h.z b' hb') hnx,h.zlo,h.zz,fun b' bk hb'=>?_,fun k hk=>?_,fun k b' N hk=>?_,fun k y hk=>?_,fun k k' y y' b' N N' hk hk' hs hs'=>?_,fun k b' N hk=>?_,fun κ hκ h0=>by rw [vY _ _ (by have:=h.ancn;omega)];exact h.anch κ hκ h0,Nat.le_succ_of_le h.ancn⟩,hZ,hB⟩
 ·obtain⟨h1,h2⟩:=h.glob b' bk hb';exact⟨h1,by rw [hzg b' h1];exact h2⟩
 ·rw [vY _ _ (by omega)];exact h.nk k (by omega)
 ·by_cases e:k=(nk,0)
  ·subst e;rw [xk] at hk;obtain⟨rfl,rfl⟩:=Slot.blk.inj (zsi hk);exact hb
  ·rw [z8 _ _ e] at hk;exact Qg (h.bd k b' N hk) hnx
 ·rw [cP hfl] at hk;split at hk
  ·rename_i e;split at hk
   ·rename_i e2;obtain rfl:=Yf e e2;obtain rfl:=zsi hk;exact⟨_,xk _ _ _,hbx _ hB hZ⟩
   ·cases hk
  ·obtain⟨s,hs,hbx⟩:=h.box k y hk;refine⟨s,hB k s hs,hbx.mono hB hnx fun b' hb'=>?_⟩;rcases hb' with hb'|⟨N,rfl⟩
   ·exact hzg b' hb'
   ·exact hg b' fun e=>hβ k N (by rw [hs,e])
 ·by_cases e1:k=(nk,0)
  ·by_cases e2:k'=(nk,0)
   ·rw [e1,e2]
   ·rw [z8 _ _ e2] at hs';rw [e1,xk] at hs;obtain⟨rfl,rfl⟩:=Slot.blk.inj (zsi hs);exact absurd hs' (hβ _ _)
  ·rw [z8 _ _ e1] at hs;by_cases e2:k'=(nk,0)
   ·rw [e2,xk] at hs';obtain⟨rfl,rfl⟩:=Slot.blk.inj (zsi hs');exact absurd hs (hβ _ _)
   ·rw [z8 _ _ e2] at hs';have n1:=h.lt1 hs;have n2:=h.lt1 hs';rw [qw,if_neg (by omega)] at hk hk';exact h.inj k k' y y' b' N N' hk hk' hs hs'
 ·by_cases e:k=(nk,0)
  ·subst e;rw [xk] at hk;obtain⟨rfl,rfl⟩:=Slot.blk.inj (zsi hk);exact hlo
  ·rw [z8 _ _ e] at hk;exact h.blo k b' N hk
theorem SR.new(h:SR p Z β H S nk){x:Bk}{b:Nat}{cs rest:List C}(hsh:x.shape=none)(hx:x.rel Z H β cs)(hz:¬Z b)(hβ:∀κ N,β κ≠some (.blk b N))(hlo:p.lo<=b)(hb:b<H'.nx)(hnx:H.nx<=H'.nx)(hw:WF H')(hg:∀b',b'≠b->H'.get b'=H.get b')(hr:yM H' b (cs++rest)):
 SR p Z (wm β nk (.blk b (cs++rest).length)) H' ((nk,x)::S) (nk+1)/\xb Z H Z H'/\xL β (wm β nk (.blk b (cs++rest).length)):=
 h.newB (Bk.rel_flat hx) (fun β' hB hZ=>⟨hz,hlo,hb,cs,rest,by rw [hsh];exact hr,Y6.of hsh O,Bk.rel_mono hZ hB hx⟩) hz hβ hlo hb hnx hw hg
theorem SR.updK(h:SR p Z β H S nk){k b N:Nat}{x x':Bk}{cs rest:List C}(hk:lk S k=some x)(hfl:x.flat=true)(hs:β (k,0)=some (.blk b N))(hx:x'.rel Z H β cs)(hg:∀b',b'≠b->H'.get b'=H.get b')(hnx:H'.nx=H.nx)(hr:CT x'.shape H' b (cs++rest))(hN:Y6 x'.shape (cs++rest).length N rest):
 SR p Z β H' (put k x' S) nk/\xb Z H Z H':=by
 obtain⟨s,hs',hbx⟩:=h.box (k,0) x (zN hk hfl);rw [hs] at hs';obtain rfl:=zsi hs';obtain⟨hz,hlo,hlt,_⟩:=hbx;have hzg:∀b',Z b'->H'.get b'=H.get b':=fun b' hb'=>hg b' fun e=>hz (e▸hb');have hZ:xb Z H Z H':=xb.of_get (fun _ h=>h) hzg;refine⟨⟨fun b' bk hb'=>?_,by rw [hnx];exact h.lo,fun b' hb'=>by rw [hnx];exact h.z b' hb',h.zlo,h.zz,fun b' bk hb'=>?_,h.nk,fun k b' N hk=>by rw [hnx];exact h.bd k b' N hk,fun j y hj=>?_,fun j j' y y' b' M M' hj hj' hsj hsj'=>?_,h.blo,h.anch,h.ancn⟩,hZ⟩
 ·rw [hnx];by_cases e:b'=b
  ·omega
  ·rw [hg b' e] at hb';exact h.wf b' bk hb'
 ·obtain⟨h1,h2⟩:=h.glob b' bk hb';exact⟨h1,by rw [hzg b' h1];exact h2⟩
 ·rw [aA hk (Bk.rel_flat hx)] at hj;split at hj
  ·rename_i e;split at hj
   ·rename_i e2;obtain rfl:=Yf e e2;obtain rfl:=zsi hj;exact⟨_,hs,hz,hlo,by omega,cs,rest,hr,hN,Bk.rel_mono hZ (xL.refl _) hx⟩
   ·cases hj
  ·rename_i e;obtain⟨s,hsj,hbj⟩:=h.box j y hj;obtain⟨z,hz⟩:=ju hj;refine⟨s,hsj,hbj.mono (xL.refl _) (by omega) fun b' hb'=>?_⟩;rcases hb' with hb'|⟨M,rfl⟩
   ·exact hzg b' hb'
   ·exact hg b' fun e'=>e (by rw [h.inj j (k,0) z x b M N hz hk (e'▸hsj) hs])
 ·rw [yu] at hj hj';have f:∀i z,(if i=k then Option.map (fun _=>x') (lk S i) else lk S i)=some z->∃z',lk S i=some z':=fun i z hz=>by
   split at hz
   ·cases hl:lk S i with
    |none=>rw [hl] at hz;cases hz
    |some q=>exact⟨q,O⟩
   ·exact⟨z,hz⟩
  obtain⟨z1,e1⟩:=f j.1 y hj;obtain⟨z2,e2⟩:=f j'.1 y' hj';exact h.inj j j' z1 z2 b' M M' e1 e2 hsj hsj'
theorem SR.upd(h:SR p Z β H S nk){k b N:Nat}{x x':Bk}{cs rest:List C}(hk:lk S k=some x)(hfl:x.flat=true)(hs:β (k,0)=some (.blk b N))(hx:x'.rel Z H β cs)(hg:∀b',b'≠b->H'.get b'=H.get b')(hnx:H'.nx=H.nx)(hsh:x'.shape=none)(hr:yM H' b (cs++rest))(hN:(cs++rest).length=N):
 SR p Z β H' (put k x' S) nk/\xb Z H Z H':=h.updK hk hfl hs hx hg hnx (by rw [hsh];exact hr) (Y6.of hsh hN)
theorem SR.replace(h:SR p Z β H S nk){k:Nat}{x x':Bk}{b:Nat}{cs rest:List C}(hk:lk S k=some x)(hfl:x.flat=true)(hx:x'.rel Z H β cs)(hb:(∃N,β (k,0)=some (.blk b N))\/(¬Z b/\(∀κ N,β κ≠some (.blk b N))/\p.lo<=b))(hbl:b<H'.nx)(hnx:H.nx<=H'.nx)(hw:WF H')(hg:∀b',b'≠b->(∀N,β (k,0)≠some (.blk b' N))->H'.get b'=H.get b')(hsh:x'.shape=none)(hr:yM H' b (cs++rest)):
 SR p Z (wm β nk (.blk b (cs++rest).length)) H' ((nk,x')::xP k S) (nk+1)/\xb Z H Z H'/\xL β (wm β nk (.blk b (cs++rest).length)):=by
 have hkn:=h.lt hk;obtain⟨sk,hsk,hbk⟩:=h.box (k,0) x (zN hk hfl);have hzk:∀b' N,Z b'->β (k,0)≠some (.blk b' N):=fun b' N hz e=>by
  rw [hsk] at e;obtain rfl:=zsi e;exact hbk.1 hz
 have hzb:¬Z b:=by
  rcases hb with⟨N,hN⟩|⟨hz,_⟩
  ·exact fun hz=>hzk b N hz hN
  ·exact hz
 have hlob:p.lo<=b:=by
  rcases hb with⟨N,hN⟩|⟨_,_,hlo⟩
  ·rw [hsk] at hN;obtain rfl:=zsi hN;exact hbk.2.1
  ·exact hlo
 have hzg:∀b',Z b'->H'.get b'=H.get b':=fun b' hb'=>hg b' (fun e=>hzb (e▸hb')) fun N=>hzk b' N hb';have hZ:xb Z H Z H':=xb.of_get (fun _ h=>h) hzg;have hB:=h.ble (.blk b (cs++rest).length);have hoth:∀(j:zP) y N,lk S j.1=some y->j.1≠k->β j≠some (.blk b N):=fun j y N hj hjk e=>by
  rcases hb with⟨M,hM⟩|⟨_,hno,_⟩
  ·exact hjk (by rw [h.inj j (k,0) y x b N M hj hk e hM])
  ·exact hno j N e
 refine⟨⟨hw,aZ h.lo hnx,fun b' hb'=>Qg (h.z b' hb') hnx,h.zlo,h.zz,fun b' bk hb'=>?_,fun k hk=>?_,fun k b' N hk=>?_,fun j y hj=>?_,fun j j' y y' b' N N' hj hj' hs hs'=>?_,fun k b' N hk=>?_,fun κ hκ h0=>by rw [vY _ _ (by have:=h.ancn;omega)];exact h.anch κ hκ h0,Nat.le_succ_of_le h.ancn⟩,hZ,hB⟩
 ·obtain⟨h1,h2⟩:=h.glob b' bk hb';exact⟨h1,by rw [hzg b' h1];exact h2⟩
 ·rw [vY _ _ (by omega)];exact h.nk k (by omega)
 ·by_cases e:k=(nk,0)
  ·subst e;rw [xk] at hk;obtain⟨rfl,rfl⟩:=Slot.blk.inj (zsi hk);exact hbl
  ·rw [z8 _ _ e] at hk;exact Qg (h.bd k b' N hk) hnx
 ·rw [cP (Bk.rel_flat hx),Xz] at hj;split at hj
  ·rename_i e;split at hj
   ·rename_i e2;obtain rfl:=Yf e e2;obtain rfl:=zsi hj;exact⟨_,xk _ _ _,hzb,hlob,hbl,cs,rest,by rw [hsh];exact hr,Y6.of hsh rfl,Bk.rel_mono hZ hB hx⟩
   ·cases hj
  ·split at hj
   ·cases hj
   ·rename_i e e2;obtain⟨s,hs,hbx⟩:=h.box j y hj;obtain⟨z,hz⟩:=ju hj;refine⟨s,hB j s hs,hbx.mono hB hnx fun b' hb'=>?_⟩;rcases hb' with hb'|⟨N,rfl⟩
    ·exact hzg b' hb'
    ·exact hg b' (fun e'=>hoth j z N hz e2 (e'▸hs)) fun M eM=>e2 (by rw [h.inj j (k,0) z x b' N M hz hk hs eM])
 ·have live:∀(κ:zP) w s,lk ((nk,x')::xP k S) κ.1=some w->κ≠(nk,0)->β κ=some s->lk S κ.1=some w/\κ.1≠k:=fun κ w s hl hne hs=>by
   have:=h.lt1 hs;rw [qw,if_neg (by omega),yB] at hl;split at hl
   ·cases hl
   ·exact⟨hl,by assumption⟩
  by_cases e1:j=(nk,0)
  ·by_cases e2:j'=(nk,0)
   ·rw [e1,e2]
   ·rw [z8 _ _ e2] at hs';rw [e1,xk] at hs;obtain⟨rfl,rfl⟩:=Slot.blk.inj (zsi hs);obtain⟨l1,l2⟩:=live j' y' _ hj' e2 hs';exact absurd hs' (hoth j' y' N' l1 l2)
  ·rw [z8 _ _ e1] at hs;obtain⟨l1,l2⟩:=live j y _ hj e1 hs;by_cases e2:j'=(nk,0)
   ·rw [e2,xk] at hs';obtain⟨rfl,rfl⟩:=Slot.blk.inj (zsi hs');exact absurd hs (hoth j y N l1 l2)
   ·rw [z8 _ _ e2] at hs';obtain⟨l3,l4⟩:=live j' y' _ hj' e2 hs';exact h.inj j j' y y' b' N N' l1 l3 hs hs'
 ·by_cases e:k=(nk,0)
  ·subst e;rw [xk] at hk;obtain⟨rfl,rfl⟩:=Slot.blk.inj (zsi hk);exact hlob
  ·rw [z8 _ _ e] at hk;exact h.blo k b' N hk
end
theorem xc.monoP{P:Program}{G:Nat}{f:FuncId}{args:List V}{H:Hp}{R R':V->Hp->Prop}{S:Hp->Prop}(h:xc P G f args H R)(hr:∀v H',R v H'->R' v H'):jm P G f args H R' S:=(h.mono hr).toP
abbrev Wt:=List (Nat × Option (zP × Nat × Nat))
def WR(Z:Nat->Prop)(β:qt)(H:Hp):Option (zP × Nat × Nat)->(Hp->Prop)->Prop
 |none,q=>∃b,Z b/\∀H':Hp,(∀i c,H.cell b i=some c->H'.cell b i=some c)->q H'
 |some (k,o,n),q=>∃b N,β k=some (.blk b N)/\∀H':Hp,(∀i c,o<=i->i<o+n->H.cell b i=some c->H'.cell b i=some c)->q H'
def CR(W:Wt)(Z:Nat->Prop)(β:qt)(H:Hp)(c:z7):Prop:=∀x∈c,∃y∈W,WR Z β H y.2 x.2
def AR(p:Par)(base rs:Nat)(A:List Nat)(Z:Nat->Prop)(β:qt)(H:Hp):Prop:=p.lo<=base/\∀j,j<rs->j∉A->base+j<H.nx/\H.get (base+j)=none/\¬Z (base+j)/\∀k N,β k≠some (.blk (base+j) N)
structure DPW (p:Par) (base rs:Nat) (Q:qk->Bx->Nat->Prop) (l:List SOper) (W:Wt) (A:List Nat) (E:qk) (S:Bx) (nk:Nat):Prop where
 run:∀Z β H F c QP,SR p Z β H S nk->ER Z β H E F->CR W Z β H c->AR p base rs A Z β H->
  qC p.P p.G base QP (fun F' H'=>∃E' S' nk' Z' β',SR p Z' β' H' S' nk'/\ER Z' β' H' E' F'/\Q E' S' nk') l c F H
section
variable{Z Z':Nat->Prop}{β β':qt}{H H':Hp}{W:Wt}{c:z7}
theorem CR.watch(h:CR W Z β H c)(ws:List Nat):yi ws c H:=MA fun x hx=>by
 obtain⟨y,_,hy⟩:=h x hx;obtain⟨_,y2⟩:=y
 match y2,hy with
 |none,⟨b,_,hq⟩=>exact hq H fun _ _ h=>h
 |some (k,o,n),⟨b,N,_,hq⟩=>exact hq H fun _ _ _ _ h=>h
theorem CR.step(h:CR W Z β H c)(hZ:xb Z H Z' H')(hB:xL β β')(hk:∀y∈W,∀k o n,y.2=some (k,o,n)->∀b N i x,β k=some (.blk b N)->o<=i->i<o+n->H.cell b i=some x->H'.cell b i=some x):CR W Z' β' H' c:=fun x hx=>by
 obtain⟨y,hy,hw⟩:=h x hx;refine⟨y,hy,?_⟩;obtain⟨y1,y2⟩:=y
 match y2,hw,hy with
 |none,⟨b,hb,hq⟩,_=>exact⟨b,(hZ b hb).1,fun H'' hh=>hq H'' fun i c hc=>hh i c ((hZ b hb).2 i c hc)⟩
 |some (k,o,n),⟨b,N,hb,hq⟩,hy=>exact⟨b,N,hB k _ hb,fun H'' hh=>hq H'' fun i c h1 h2 hc=>hh i c h1 h2 (hk _ hy k o n O b N i c hb h1 h2 hc)⟩
theorem CR.same(h:CR W Z β H c)(hZ:xb Z H Z' H')(hB:xL β β')(hg:∀b,b<H.nx->H'.get b=H.get b)(hw:WF H):CR W Z' β' H' c:=h.step hZ hB fun y hy k o n e b N i x hb _ _ hx=>by
 unfold Hp.cell at hx ⊢;cases hgb:H.get b with
 |none=>simp [hgb] at hx
 |some bk=>rw [hg b (hw b bk hgb)];exact hx
end
def QF(S:Bx)(k:Nat):Wt->Bool
 |[]=>true
 |(_,none)::r=>QF S k r
 |(_,some ((j,_),_,_))::r=>match lk S j with
  |none=>false
  |some _=>match Nat.beq j k with
   |true=>false
   |false=>QF S k r
def Fx:Option Bk->Bool
 |some (.tree _)=>false
 |some (.mp _ _)=>false
 |some (.mt _)=>false
 |_=>true
def X4(S:Bx)(k:Nat)(W:Wt):Bool:=match Fx (lk S k) with
 |true=>QF S k W
 |false=>false
theorem sX{S:Bx}{k:Nat}{W:Wt}{x:Bk}(h:X4 S k W=true)(hk:lk S k=some x):x.flat=true:=by
 unfold X4 at h;rw [hk] at h;cases x with
 |tree rows=>cases h
 |mp ks l=>cases h
 |mt es=>cases h
 |cells l=>rfl
 |data l=>rfl
theorem DU{S:Bx}{k:Nat}{W:Wt}{x:Bk}(h:X4 S k W=true)(hk:lk S k=some x):x.shape=none:=by
 unfold X4 at h;rw [hk] at h;cases x with
 |tree rows=>cases h
 |mp ks l=>cases h
 |mt es=>cases h
 |cells l=>rfl
 |data l=>rfl
theorem ZW{S:Bx}{k:Nat}:∀{W:Wt},QF S k W=true->∀y∈W,∀(j:zP) o n,y.2=some (j,o,n)->(∃x,lk S j.1=some x)/\j.1≠k
 |[],_,y,hy=>by cases hy
 |(i,none)::r,h,y,hy=>by
  rcases zd.1 hy with rfl|hy
  ·intro j o n e;cases e
  ·exact ZW (W:=r) h y hy
 |(i,some ((j',j2),o',n'))::r,h,y,hy=>by
  simp only [QF] at h;split at h
  ·cases h
  ·rename_i x hx;split at h
   ·cases h
   ·rename_i e;rcases zd.1 hy with rfl|hy
    ·intro j o n e';obtain⟨rfl,_⟩:=Prod.mk.inj (zsi e');exact⟨⟨x,hx⟩,fun h=>by simp only at h;subst h;simp at e⟩
    ·exact ZW (W:=r) h y hy
theorem Eg{S:Bx}{k:Nat}{W:Wt}(h:X4 S k W=true):∀y∈W,∀(j:zP) o n,y.2=some (j,o,n)->(∃x,lk S j.1=some x)/\j.1≠k:=by
 unfold X4 at h;split at h
 ·exact ZW h
 ·cases h
section
variable{p:Par}{base rs:Nat}{Q:qk->Bx->Nat->Prop}{r:List SOper}{W:Wt}{A:List Nat}{E:qk}{S:Bx}{nk:Nat}{id:Nat}{dst:Option Nat}{aid:Option Nat}{ws:List Nat}{keep:Bool}
theorem jd(h:Q E S nk):DPW p base rs Q [] W A E S nk:=.mk fun Z β H F c QP hS hE _ _=>⟨E,S,nk,Z,β,hS,hE,h⟩
theorem zi{op:PureOp}{d:DV}(hd:zj E op=some d)(h:DPW p base rs Q r W A (qI E dst d) S nk):DPW p base rs Q (⟨id,dst,.p op,none,aid,ws,keep⟩::r) W A E S nk:=.mk fun Z β H F c QP hS hE hC hA=>by
 obtain⟨v,hv,hr⟩:=Au hE hd;simp only [qC,qH,if_true,hv];exact h.run Z β H _ c QP hS (hE.set dst hr) hC hA
theorem yP{op:PureOp}{d:DV}(hd:∀{Z β H F},ER Z β H E F->∃v,qp F op=some v/\xi Z H β d v)(h:DPW p base rs Q r W A (qI E dst d) S nk):DPW p base rs Q (⟨id,dst,.p op,none,aid,ws,keep⟩::r) W A E S nk:=.mk fun Z β H F c QP hS hE hC hA=>by
 obtain⟨v,hv,hr⟩:=hd hE;simp only [qC,qH,if_true,hv];exact h.run Z β H _ c QP hS (hE.set dst hr) hC hA
theorem yg{Z:Nat->Prop}{β:qt}{H:Hp}{c:C}(hc:c.closed=true):xi Z H β (.one (.f (.c c))) (.one c):=⟨c,rfl,.c c hc⟩
theorem xj{Z:Nat->Prop}{β:qt}{H:Hp}{F:T V}(hE:ER Z β H E F){o:Opd}{c:C}(h:ro E o=some (.one (.f (.c c)))):o.ev F=.one c:=by
 obtain⟨x,hx,hr⟩:=xz hE h;cases hr;exact hx
theorem vK{x y:Opd}{k:IntKind}{a b:Int}(hx:ro E x=some (.one (.f (.c (.int k a)))))(hy:ro E y=some (.one (.f (.c (.int k b)))))(h:DPW p base rs Q r W A (qI E dst (.one (.f (.c (.int k (max a b)))))) S nk):DPW p base rs Q (⟨id,dst,.p (.mm true x y),none,aid,ws,keep⟩::r) W A E S nk:=by
 refine yP (fun {Z β H F} hE=>⟨.one (.int k (max a b)),?_,yg O⟩) h;simp only [qp,xj hE hx,xj hE hy,if_true];congr 3;split<;>omega
theorem vJ{x y:Opd}{k:IntKind}{a b:Int}(hx:ro E x=some (.one (.f (.c (.int k a)))))(hy:ro E y=some (.one (.f (.c (.int k b)))))(h:DPW p base rs Q r W A (qI E dst (.one (.f (.c (.int k (min a b)))))) S nk):DPW p base rs Q (⟨id,dst,.p (.mm false x y),none,aid,ws,keep⟩::r) W A E S nk:=by
 refine yP (fun {Z β H F} hE=>⟨.one (.int k (min a b)),?_,yg O⟩) h;simp only [qp,xj hE hx,xj hE hy,if_true,yz,if_false];congr 3;split<;>omega
theorem Wd{x y:Opd}{k:IntKind}{a b:Int}(hx:ro E x=some (.one (.f (.c (.int k a)))))(hy:ro E y=some (.one (.f (.c (.int k b)))))(hb:b≠0)(h:DPW p base rs Q r W A (qI E dst (.one (.f (.c (.int k (a.tmod b)))))) S nk):DPW p base rs Q (⟨id,dst,.p (.bin .rem x y),none,aid,ws,keep⟩::r) W A E S nk:=
 yP (fun {Z β H F} hE=>⟨.one (.int k (a.tmod b)),by simp [qp,xj hE hx,xj hE hy,Zt,hb],yg rfl⟩) h
theorem O5{x y:Opd}{k:IntKind}{a b:Int}(hx:ro E x=some (.one (.f (.c (.int k a)))))(hy:ro E y=some (.one (.f (.c (.int k b)))))(hb:b≠0)(h:DPW p base rs Q r W A (qI E dst (.one (.f (.c (.int k (k.wrap (a.tdiv b))))))) S nk):DPW p base rs Q (⟨id,dst,.p (.bin .quo x y),none,aid,ws,keep⟩::r) W A E S nk:=
 yP (fun {Z β H F} hE=>⟨.one (.int k (k.wrap (a.tdiv b))),by simp [qp,xj hE hx,xj hE hy,Zt,hb],yg rfl⟩) h
theorem Qu{o a b:Opd}{t x y:Bool}(hc:ro E o=some (.bool t))(ha:t=true->ro E a=some (.bool x))(hb:t=false->ro E b=some (.bool y))(h:DPW p base rs Q r W A (qI E dst (.bool (if t=true then x else y))) S nk):DPW p base rs Q (⟨id,dst,.p (.pick o a b),none,aid,ws,keep⟩::r) W A E S nk:=by
 refine yP (fun {Z β H F} hE=>⟨.one (.bool (if t=true then x else y)),?_,yg O⟩) h
 simp only [qp,xj hE hc];cases t with
 |true=>simp [xj hE (ha rfl)]
 |false=>simp [xj hE (hb rfl)]
theorem wr{o a b:Opd}{d:DV}(hc:ro E o=some (.bool true))(ha:ro E a=some d)(h:DPW p base rs Q r W A (qI E dst d) S nk):DPW p base rs Q (⟨id,dst,.p (.pick o a b),none,aid,ws,keep⟩::r) W A E S nk:=
 yP (fun {Z β H F} hE=>⟨_,by simp only [qp,xj hE hc,if_true],xz hE ha⟩) h
theorem wu{o a b:Opd}{d:DV}(hc:ro E o=some (.bool false))(hb:ro E b=some d)(h:DPW p base rs Q r W A (qI E dst d) S nk):DPW p base rs Q (⟨id,dst,.p (.pick o a b),none,aid,ws,keep⟩::r) W A E S nk:=
 yP (fun {Z β H F} hE=>⟨_,by simp only [qp,xj hE hc,yz,if_false],xz hE hb⟩) h
theorem Do{esz:Nat}{x i:Opd}{k o n:Nat}{kd:IntKind}{j:Int}(hx:ro E x=some (.one (.own k o n esz)))(hi:ro E i=some (.one (.f (.c (.int kd j)))))(h0:0<=j)(h1:j<n)(h:DPW p base rs Q r W A (qI E dst (.one (.ptr k (o+j.toNat*esz)))) S nk):DPW p base rs Q (⟨id,dst,.p (.iaddr esz x i),none,aid,ws,keep⟩::r) W A E S nk:=by
 refine yP (fun {Z β H F} hE=>?_) h;obtain⟨c,hc,hr⟩:=xz hE hx;rcases hr with⟨_,h2,_⟩|⟨b,N,cap,ex,h2,rfl,_⟩
 ·omega
 ·exact⟨.one (.ptr b (o+j.toNat*esz)),by simp only [qp,hc,xj hE hi,Vm];rw [if_pos ⟨trivial,h0,h1⟩],_,rfl,b,N,h2,rfl⟩
theorem kY{esz:Nat}{x i:Opd}{k n:Nat}{kd:IntKind}{j:Int}(hx:ro E x=some (.one (.own k 0 n esz)))(hi:ro E i=some (.one (.f (.c (.int kd j)))))(h0:0<=j)(h1:j<n)(h:DPW p base rs Q r W A (qI E dst (.one (.ptr k (j.toNat*esz)))) S nk):DPW p base rs Q (⟨id,dst,.p (.iaddr esz x i),none,aid,ws,keep⟩::r) W A E S nk:=
 Do hx hi h0 h1 (by rw [ym];exact h)
theorem Rn{Z:Nat->Prop}{H:Hp}{esz n:Nat}{l q:List FD}{c:C}(hr:RF Z H (.sl esz n l) c){j:Nat}(hj:j<n)(he:0<esz)(hq:xd l (j*esz) esz=some q):∃b o cap ex cs,c=.slc b o n cap esz ex/\Z b/\H.loads b (o+j*esz) q.length=some cs/\qe (RF Z H) q cs:=by
 obtain⟨hle,rfl⟩:=zT hq;cases hr with
 |nil=>omega
 |sl hz hl hn hld hel=>
  rename_i b o cap ex cs;refine⟨b,o,cap,ex,(cs.drop (j*esz)).take esz,O,hz (Nat.mul_pos (by omega) he),?_,?_⟩
  ·rw [xS,zS,show min esz (l.length-j*esz)=esz by omega];exact Xy hld (by omega)
  ·have hlen:l.length=cs.length:=by rw [hl,zW hld]
   exact ((qe.mk hlen hel).drop _).take _
theorem yE{esz:Nat}{x i:Opd}{n:Nat}{l q:List FD}{kd:IntKind}{j:Nat}(hx:ro E x=some (.one (.f (.sl esz n l))))(hi:ro E i=some (.one (.f (.c (.int kd (j:Nat))))))(h1:j<n)(he:0<esz)(hq:xd l (j*esz) esz=some q)(h:DPW p base rs Q r W A (qI E dst (.one (.fptr q))) S nk):DPW p base rs Q (⟨id,dst,.p (.iaddr esz x i),none,aid,ws,keep⟩::r) W A E S nk:=by
 refine yP (fun {Z β H F} hE=>?_) h;obtain⟨c,hc,hr⟩:=xz hE hx;obtain⟨b,o,cap,ex,cs,rfl,hz,hl,ha⟩:=Rn hr h1 he hq;refine⟨.one (.ptr b (o+j*esz)),?_,_,O,b,_,cs,O,hz,hl,ha⟩;simp only [qp,hc,xj hE hi,Vm];rw [if_pos ⟨trivial,by omega,by omega⟩,jW]
theorem Yr{esz:Nat}{x i:Opd}{n:Nat}{l q:List FD}{kd:IntKind}(hx:ro E x=some (.one (.f (.sl esz n l))))(hi:ro E i=some (.one (.f (.c (.int kd 0)))))(h1:0<n)(he:0<esz)(hq:xd l (0*esz) esz=some q)(h:DPW p base rs Q r W A (qI E dst (.one (.fptr q))) S nk):DPW p base rs Q (⟨id,dst,.p (.iaddr esz x i),none,aid,ws,keep⟩::r) W A E S nk:=yE (j:=0) hx hi h1 he hq h
theorem kP{Z:Nat->Prop}{β:qt}{H:Hp}:xi Z H β .undef V.undef:=⟨[],rfl,trivial⟩
theorem jO{op:SOp}{g:Nat}{t want:Bool}(hg:lk E g=some (.bool t))(ht:t=want)(h:DPW p base rs Q (⟨id,dst,op,none,aid,ws,keep⟩::r) W A E S nk):DPW p base rs Q (⟨id,dst,op,some (g,want),aid,ws,keep⟩::r) W A E S nk:=.mk fun Z β H F c QP hS hE hC hA=>by
 have h':=h.run Z β H F c QP hS hE hC hA;obtain⟨v,hv,x,rfl,hr⟩:=hE g _ hg;cases hr;have hw:qH (some (g,want)) F=true:=by simp [qH,hv,ht]
 rw [qC] at h' ⊢;simp only [qH,if_true] at h';simp only [hw,if_true];exact h'
theorem wO{op:SOp}{g:Nat}{t want:Bool}(hg:lk E g=some (.bool t))(ht:t=!want)(h:DPW p base rs Q r W A (qI E dst .undef) S nk):DPW p base rs Q (⟨id,dst,op,some (g,want),aid,ws,keep⟩::r) W A E S nk:=.mk fun Z β H F c QP hS hE hC hA=>by
 obtain⟨v,hv,x,rfl,hr⟩:=hE g _ hg;cases hr;have hw:qH (some (g,want)) F=false:=by simp [qH,hv,ht]
 rw [qC];simp only [hw,yz,if_false];exact h.run Z β H _ c QP hS (hE.set dst kP) hC hA
theorem wq{op:SOp}{g:Nat}{want:Bool}(hg:lk E g=some .undef)(h:DPW p base rs Q r W A (qI E dst .undef) S nk):DPW p base rs Q (⟨id,dst,op,some (g,want),aid,ws,keep⟩::r) W A E S nk:=.mk fun Z β H F c QP hS hE hC hA=>by
 obtain⟨v,hv,x,rfl,hr⟩:=hE g _ hg;have hw:qH (some (g,want)) F=false:=by simp [qH,hv]
 rw [qC];simp only [hw,yz,if_false];exact h.run Z β H _ c QP hS (hE.set dst kP) hC hA
theorem Dp{op:SOp}{g:Nat}{t want:Bool}(hg:lk E g=some (.bool t))(h1:t=want->DPW p base rs Q (⟨id,dst,op,none,aid,ws,keep⟩::r) W A E S nk)(h2:t=!want->DPW p base rs Q r W A (qI E dst .undef) S nk):DPW p base rs Q (⟨id,dst,op,some (g,want),aid,ws,keep⟩::r) W A E S nk:=by
 by_cases ht:t=want
 ·exact jO hg ht (h1 ht)
 ·have hb:∀a b:Bool,¬a=b->a=!b:=by decide
  have ht':=hb t want ht;exact wO hg ht' (h2 ht')
theorem Jf{op:PureOp}{d:DV}{g:Nat}{t want:Bool}(hg:lk E g=some (.bool t))(hd:t=want->zj E op=some d)(h:DPW p base rs Q r W A (qI E dst (if t=want then d else .undef)) S nk):DPW p base rs Q (⟨id,dst,.p op,some (g,want),aid,ws,keep⟩::r) W A E S nk:=
 Dp hg (fun ht=>zi (hd ht) (by rw [if_pos ht] at h;exact h)) (fun ht=>by rw [if_neg (by rw [ht];cases want<;>decide)] at h;exact h)
def KE(p:Par)(S:Bx):DC->Nat->Option (List DC)
 |.ptr k o,n=>match lk S k with
  |some (.cells l)=>xd l o n
  |some (.data l)=>match xd l o n with
   |some q=>some (q.map .f)
   |none=>none
  |some (.tree rows)=>xd (za k 0 rows) o n
  |_=>none
 |.tptr k i o,n=>match lk S k with
  |some (.tree rows)=>match rows[i]? with
   |some r=>match xd r o n with
    |some q=>some (q.map .f)
    |none=>none
   |none=>none
  |_=>none
 |.fptr l,n=>match xd l 0 n with
  |some q=>some (q.map .f)
  |none=>none
 |.g b o,n=>match p.GH.get b,p.GH.loads b o n with
  |some _,some q=>some (q.map Qj)
  |_,_=>none
 |_,_=>none
def Ld:DC->Nat->Option (zP × Nat × Nat)
 |.ptr k o,n=>some ((k,0),o,n)
 |.tptr k i o,n=>some ((k,i+1),o,n)
 |_,_=>none
theorem vt{Z:Nat->Prop}{H:Hp}{β:qt}:∀{l:List FD} {cs:List C},qe (RF Z H) l cs->qe (RD Z H β) (l.map .f) cs
 |[],[],_=>trivial
 |_::_,_::_,h=>⟨h.1,vt h.2⟩
 |[],_::_,h=>h.elim
 |_::_,[],h=>h.elim
theorem NK{Z:Nat->Prop}{β:qt}{H:Hp}(hS:SR p Z β H S nk){d:DC}{c:C}(hr:RD Z H β d c){n:Nat}{l:List DC}(hl:KE p S d n=some l):
 ∃b o cs,c=.ptr b o/\H.loads b o n=some cs/\qe (RD Z H β) l cs/\∀q:Hp->Prop,(∀H':Hp,(∀i x,o<=i->i<o+n->H.cell b i=some x->H'.cell b i=some x)->q H')->WR Z β H (Ld d n) q:=by
 have key:∀{κ:zP} {o:Nat} {x:Bk} {q:List DC},qR S κ=some x->x.shape=none->(∀cs,x.rel Z H β cs->qe (RD Z H β) q ((cs.drop o).take n))->o+n<=x.len->(∃b N,β κ=some (.blk b N)/\c=.ptr b o)->∃b o' cs,c=.ptr b o'/\H.loads b o' n=some cs/\qe (RD Z H β) q cs/\∀q:Hp->Prop,(∀H':Hp,(∀i x,o'<=i->i<o'+n->H.cell b i=some x->H'.cell b i=some x)->q H')->WR Z β H (some (κ,o,n)) q:=by
  intro κ o x q hk hsh hq hle hr;obtain⟨b,N,hb,rfl⟩:=hr;obtain⟨s,hs,hbx⟩:=hS.box κ x hk;rw [hb] at hs;obtain rfl:=zsi hs;obtain⟨_,_,_,cs,rest,hrow,hN,hrel⟩:=hbx;rw [hsh] at hrow;have hrow:yM H b (cs++rest):=hrow;have hlen:=Bk.rel_len hrel;refine⟨b,o,(cs.drop o).take n,O,?_,hq cs hrel,fun q hq=>⟨b,N,hb,hq⟩⟩;have h1:H.loads b (0+o) n=some (((cs++rest).drop o).take n):=Xy hrow.2 (by simp;omega);rw [ym] at h1;rw [h1,DQ (by omega),Kt (by simp;omega)]
 cases d with
 |ptr k o=>
  simp only [KE] at hl;split at hl
  ·rename_i l0 hk;obtain⟨h1,rfl⟩:=zT hl;exact key (zN hk O) O (fun cs hrel=>(qe.drop hrel o).take n) h1 hr
  ·rename_i l0 hk;split at hl
   ·rename_i q hq;obtain rfl:=zsi hl;obtain⟨h1,rfl⟩:=zT hq;exact key (zN hk O) O (fun cs hrel=>vt ((qe.drop hrel o).take n)) h1 hr
   ·cases hl
  ·rename_i rows hk;obtain⟨h1,rfl⟩:=zT hl;exact key (κ:=(k,0)) (x:=.cells (za k 0 rows)) (by simp only [qR,hk]) O (fun cs hrel=>(qe.drop hrel o).take n) h1 hr
  ·cases hl
 |tptr k i o=>
  simp only [KE] at hl;split at hl
  ·rename_i rows hk;split at hl
   ·rename_i r hri;split at hl
    ·rename_i q hq;obtain rfl:=zsi hl;obtain⟨h1,rfl⟩:=zT hq;exact key (κ:=(k,i+1)) (x:=.data r) (by simp only [qR,hk,hri];rfl) O (fun cs hrel=>vt ((qe.drop hrel o).take n)) h1 hr
    ·cases hl
   ·cases hl
  ·cases hl
 |fptr l0=>
  simp only [KE] at hl;split at hl
  ·rename_i q hq;obtain rfl:=zsi hl;obtain⟨h1,rfl⟩:=zT hq;obtain⟨b,o,cs,rfl,hz,hld,ha⟩:=hr;refine⟨b,o,cs.take n,O,y6 hld (by omega),vt (by simpa using ha.take n),fun q hq=>⟨b,hz,fun H' hh=>hq H' fun i x _ _ hx=>hh i x hx⟩⟩
  ·cases hl
 |g b o=>
  simp only [KE] at hl;split at hl
  ·rename_i bk q hn hq;obtain rfl:=zsi hl;obtain rfl:c=.ptr b o:=hr;obtain⟨h1,h2⟩:=hS.glob b bk (.inl hn);refine⟨b,o,q,O,by rw [Jw (H:=p.GH) (by rw [h2,hn])];exact hq,Xm q,fun q hq=>⟨b,h1,fun H' hh=>hq H' fun i x _ _ hx=>hh i x hx⟩⟩
  ·cases hl
 |_=>cases hl
def jB(p:Par)(E:qk)(S:Bx)(agg:Bool)(n:Nat)(a:Opd):Option DV:=match ro E a with
 |some (.one d)=>match agg with
  |true=>match KE p S d n with
   |some l=>some (.agg l)
   |none=>none
  |false=>match KE p S d 1 with
   |some (x::_)=>some (.one x)
   |_=>none
 |_=>none
def uL(agg:Bool)(n:Nat):Nat:=match agg with
 |true=>n
 |false=>1
def L8(E:qk)(a:Opd)(agg:Bool)(n:Nat):Option (zP × Nat × Nat):=match ro E a with
 |some (.one d)=>Ld d (uL agg n)
 |_=>none
theorem I3{H:Hp}{b o n:Nat}{x:C}{l:List C}(h:H.loads b o (n+1)=some (x::l)):H.cell b o=some x:=by
 have:=fV (i:=0) h (by omega);simpa using this
theorem fT{H H':Hp}{b:Nat}:∀{n o:Nat} {l:List C},H.loads b o n=some l->(∀i x,o<=i->i<o+n->H.cell b i=some x->H'.cell b i=some x)->H'.loads b o n=some l
 |0,_,_,hl,_=>hl
 |n+1,o,l,hl,hh=>by
  simp only [Hp.loads] at hl ⊢;cases hc:H.cell b o with
  |none=>simp [hc] at hl
  |some c=>
   simp only [hc] at hl;simp only [hh o c (by omega) (by omega) hc];cases hr:H.loads b (o+1) n with
   |none=>simp [hr] at hl
   |some r=>simp only [hr] at hl;simp only [fT hr fun i x h1 h2=>hh i x (by omega) (by omega)];exact hl
theorem dV{Z:Nat->Prop}{β:qt}{H:Hp}{F:T V}(hS:SR p Z β H S nk)(hE:ER Z β H E F){agg:Bool}{n:Nat}{a:Opd}{d:DV}(hd:jB p E S agg n a=some d):
 ∃v,qL F H (.load agg n a)=some v/\zC Z H β d v/\WR Z β H (L8 E a agg n) fun H'=>qL F H' (.load agg n a)=some v:=by
 unfold jB at hd;split at hd
 ·rename_i e he;have hwt:L8 E a agg n=Ld e (uL agg n):=by simp only [L8,he]
  rw [hwt];obtain⟨x,hx,hr⟩:=xz hE he;cases agg with
  |true=>
   simp only [uL] at hd ⊢;split at hd
   ·rename_i l hl;obtain rfl:=zsi hd;obtain⟨b,o,cs,rfl,h1,h2,h3⟩:=NK hS hr hl;refine⟨.agg cs,by simp [qL,hx,h1],⟨cs,rfl,h2⟩,h3 _ fun H' hh=>?_⟩;simp [qL,hx,fT h1 hh]
   ·cases hd
  |false=>
   simp only [uL] at hd ⊢;split at hd
   ·rename_i x' l hl;obtain rfl:=zsi hd;obtain⟨b,o,cs,rfl,h1,h2,h3⟩:=NK hS hr hl;cases cs with
    |nil=>exact h2.elim
    |cons y cs=>
     have hcell:=I3 h1;refine⟨.one y,by simp [qL,hx,hcell],⟨y,rfl,h2.1⟩,h3 _ fun H' hh=>?_⟩;simp [qL,hx,hh o y (by omega) (by omega) hcell]
   ·cases hd
 ·cases hd
theorem xZ{agg:Bool}{n:Nat}{a:Opd}{d:DV}(hd:jB p E S agg n a=some d)(h:DPW p base rs Q r W A (qI E dst d) S nk):DPW p base rs Q (⟨id,dst,.l (.load agg n a),none,aid,ws,false⟩::r) W A E S nk:=.mk fun Z β H F c QP hS hE hC hA=>by
 obtain⟨v,hv,hr,_⟩:=dV hS hE hd;simp only [qC,qH,if_true,hv,yz,if_false];exact h.run Z β H _ c QP hS (hE.set dst (xi.of1 hr)) hC hA
theorem xH{agg:Bool}{n:Nat}{a:Opd}{d:DV}(hd:jB p E S agg n a=some d)(h:DPW p base rs Q r ((id,L8 E a agg n)::W) A (qI E dst d) S nk):DPW p base rs Q (⟨id,dst,.l (.load agg n a),none,aid,ws,true⟩::r) W A E S nk:=.mk fun Z β H F c QP hS hE hC hA=>by
 obtain⟨v,hv,hr,hw⟩:=dV hS hE hd;simp only [qC,qH,if_true,hv];refine h.run Z β H _ _ QP hS (hE.set dst (xi.of1 hr)) (fun x hx=>?_) hA;rcases zd.1 hx with rfl|hx
 ·exact⟨(id,L8 E a agg n),QC,hw⟩
 ·obtain⟨y,hy,hr⟩:=hC x hx;exact⟨y,by simp [hy],hr⟩
theorem Jg{agg:Bool}{n:Nat}{a:Opd}{d:DV}{g:Nat}{t want:Bool}(hg:lk E g=some (.bool t))(hd:t=want->jB p E S agg n a=some d)(h:DPW p base rs Q r W A (qI E dst (if t=want then d else .undef)) S nk):DPW p base rs Q (⟨id,dst,.l (.load agg n a),some (g,want),aid,ws,false⟩::r) W A E S nk:=
 Dp hg (fun ht=>xZ (hd ht) (by rw [if_pos ht] at h;exact h)) (fun ht=>by rw [if_neg (by rw [ht];cases want<;>decide)] at h;exact h)
theorem xJ{agg:Bool}{n k o:Nat}{a:Opd}{l q:List FD}(ha:ro E a=some (.one (.ptr k o)))(hk:lk S k=some (.data l))(hl:xd l o (uL agg n)=some q){d:DV}(hd:(match agg,q with|true,q=>some (.agg (q.map .f))|false,x::_=>some (.one (.f x))|false,[]=>none)=some d):jB p E S agg n a=some d:=by
 cases agg with
 |true=>simp only [uL] at hl hd;simp only [jB,ha,KE,hk,hl];exact hd
 |false=>
  simp only [uL] at hl;cases q with
  |nil=>cases hd
  |cons x q=>simp only at hd;simp only [jB,ha,KE,hk,hl,jr];exact hd
theorem xE{n k o:Nat}{a:Opd}{rows:List (List FD)}{r:List FD}(ha:ro E a=some (.one (.ptr k o)))(hk:lk S k=some (.tree rows))(hl:rows[o]?=some r):jB p E S false n a=some (.one (.trow k o 0 r.length)):=by
 have h1:o<rows.length:=(zgs hl).1;have h2:xd (za k 0 rows) o 1=some [.trow k o 0 r.length]:=by
  rw [yj (by rw [kQ];omega)];congr 1;refine vF fun j=>?_;rw [Kw];split
  ·rename_i hj;obtain rfl:j=0:=by omega
   rw [nP,Xq,nS,hl];simp
  ·rename_i hj;rw [yJ (by simp;omega)]
 simp only [jB,ha,KE,hk,h2]
theorem xF{n k i o:Nat}{a:Opd}{rows:List (List FD)}{r:List FD}{x:FD}(ha:ro E a=some (.one (.tptr k i o)))(hk:lk S k=some (.tree rows))(hi:rows[i]?=some r)(ho:r[o]?=some x):jB p E S false n a=some (.one (.f x)):=by
 have h1:o<r.length:=(zgs ho).1;have h2:xd r o 1=some [x]:=by
  rw [yj (by omega)];congr 1;refine vF fun j=>?_;rw [Kw];split
  ·rename_i hj;obtain rfl:j=0:=by omega
   rw [nP,nS,ho];simp
  ·rename_i hj;rw [yJ (by simp;omega)]
 simp only [jB,ha,KE,hk,hi,h2,jr]
theorem Sc{x i:Opd}{k t o n:Nat}{kd:IntKind}{j:Int}(hx:ro E x=some (.one (.trow k t o n)))(hi:ro E i=some (.one (.f (.c (.int kd j)))))(h0:0<=j)(h1:j<n)(h:DPW p base rs Q r W A (qI E dst (.one (.tptr k t (o+j.toNat*1)))) S nk):DPW p base rs Q (⟨id,dst,.p (.iaddr 1 x i),none,aid,ws,keep⟩::r) W A E S nk:=by
 refine yP (fun {Z β H F} hE=>?_) h;obtain⟨c,hc,hr⟩:=xz hE hx;rcases hr with⟨_,h2,_⟩|⟨b,N,cap,ex,h2,rfl,_⟩
 ·omega
 ·exact⟨.one (.ptr b (o+j.toNat*1)),by simp only [qp,hc,xj hE hi,Vm];rw [if_pos ⟨trivial,h0,h1⟩],_,rfl,b,N,h2,rfl⟩
theorem kW{x i:Opd}{k t n:Nat}{kd:IntKind}{j:Int}(hx:ro E x=some (.one (.trow k t 0 n)))(hi:ro E i=some (.one (.f (.c (.int kd j)))))(h0:0<=j)(h1:j<n)(h:DPW p base rs Q r W A (qI E dst (.one (.tptr k t j.toNat))) S nk):DPW p base rs Q (⟨id,dst,.p (.iaddr 1 x i),none,aid,ws,keep⟩::r) W A E S nk:=
 Sc hx hi h0 h1 (by rw [ym,X2];exact h)
theorem kX{x i:Opd}{k n:Nat}{kd:IntKind}{j:Int}(hx:ro E x=some (.one (.own k 0 n 1)))(hi:ro E i=some (.one (.f (.c (.int kd j)))))(h0:0<=j)(h1:j<n)(h:DPW p base rs Q r W A (qI E dst (.one (.ptr k j.toNat))) S nk):DPW p base rs Q (⟨id,dst,.p (.iaddr 1 x i),none,aid,ws,keep⟩::r) W A E S nk:=
 Do hx hi h0 h1 (by rw [ym,X2];exact h)
end
def Yz:List DC->Option (List FD)
 |[]=>some []
 |.f d::l=>match Yz l with
  |some r=>some (d::r)
  |none=>none
 |_::_=>none
def uC(l:List DC):Bk:=match Yz l with
 |some r=>.data r
 |none=>.cells l
section
variable{Z:Nat->Prop}{H:Hp}{β:qt}
theorem aV:∀{l:List DC} {r:List FD} {cs:List C},Yz l=some r->qe (RD Z H β) l cs->qe (RF Z H) r cs
 |[],r,[],h,_=>by obtain rfl:=zsi h;trivial
 |.f d::l,r,c::cs,h,hr=>by
  simp only [Yz] at h;split at h
  ·rename_i q hq;obtain rfl:=zsi h;exact⟨hr.1,aV hq hr.2⟩
  ·cases h
 |[],_,_::_,_,hr=>hr.elim
 |_::_,_,[],_,hr=>hr.elim
 |.g _ _::_,_,_::_,h,_=>by cases h
 |.ptr _ _::_,_,_::_,h,_=>by cases h
 |.own _ _ _ _::_,_,_::_,h,_=>by cases h
 |.fptr _::_,_,_::_,h,_=>by cases h
 |.fn _ _::_,_,_::_,h,_=>by cases h
 |.any::_,_,_::_,h,_=>by cases h
 |.om _::_,_,_::_,h,_=>by cases h
 |.yl _::_,_,_::_,h,_=>by cases h
 |.fz _ _::_,_,_::_,h,_=>by cases h
 |.trow _ _ _ _::_,_,_::_,h,_=>by cases h
 |.tptr _ _ _::_,_,_::_,h,_=>by cases h
theorem Fk{l:List DC}{cs:List C}(h:qe (RD Z H β) l cs):(uC l).rel Z H β cs:=by
 unfold uC;split
 ·rename_i r hr;exact aV hr h
 ·exact h
end
theorem HR(l:List DC):(uC l).shape=none:=by
 unfold uC;split<;>rfl
theorem o7{F:T V}:∀{ps:List (Nat × Nat × Opd)} {z l:List C},yD F z ps=some l->l.length=z.length
 |[],z,l,h=>by rw [zsi h]
 |(off,size,x)::r,z,l,h=>by
  simp only [yD] at h;split at h
  ·cases h
  ·rename_i cs _;split at h
   ·rename_i e;rw [o7 h];simp only [qE,xS,zS];omega
   ·cases h
def Zf(E:qk)(nk:Nat):AllocOp->Option (Bk × DV)
 |.alloc z=>some (.cells (z.map Qj),.one (.ptr nk 0))
 |.box x=>match ro E x with
  |some d=>match qq d with
   |some l=>some (.cells l,.one (.ptr nk 0))
   |none=>none
  |none=>none
 |.bslice esz len z ps=>match gF E ((jy z (len*esz)).map Qj) ps with
  |some l=>some (uC l,.one (.own nk 0 len esz))
  |none=>none
 |_=>none
theorem VJ{E:qk}{nk:Nat}{op:AllocOp}{x:Bk}{d:DV}(h:Zf E nk op=some (x,d)):x.shape=none:=by
 cases op with
 |alloc z=>obtain⟨rfl,rfl⟩:=Prod.mk.inj (zsi h);rfl
 |box o=>
  simp only [Zf] at h;split at h
  ·split at h
   ·obtain⟨rfl,rfl⟩:=Prod.mk.inj (zsi h);rfl
   ·cases h
  ·cases h
 |bslice esz len z ps=>
  simp only [Zf] at h;split at h
  ·obtain⟨rfl,rfl⟩:=Prod.mk.inj (zsi h);exact HR _
  ·cases h
 |_=>cases h
section
variable{p:Par}{Z:Nat->Prop}{H:Hp}{β:qt}{E:qk}{F:T V}{nk:Nat}
theorem pO(hE:ER Z β H E F){op:AllocOp}{x:Bk}{d:DV}(h:Zf E nk op=some (x,d)):∃cs g,xK F op=some (.row cs.length cs .lf true,g)/\x.rel Z H β cs/\∀b H' Z' β',β' (nk,0)=some (.blk b cs.length)->xi Z' H' β' d (g b):=by
 cases op with
 |alloc z=>
  obtain⟨rfl,rfl⟩:=Prod.mk.inj (zsi h);exact⟨z,_,O,Xm z,fun b H' Z' β' hb=>⟨_,O,b,_,hb,O⟩⟩
 |box o=>
  simp only [Zf] at h;split at h
  ·rename_i d' hd';split at h
   ·rename_i l hl;obtain⟨rfl,rfl⟩:=Prod.mk.inj (zsi h);obtain⟨cs,h1,h2⟩:=VO (xz hE hd') hl;exact⟨cs,fun b=>.one (.ptr b 0),by simp only [xK,h1],h2,fun b H' Z' β' hb=>⟨_,rfl,b,_,hb,rfl⟩⟩
   ·cases h
  ·cases h
 |bslice esz len z ps=>
  simp only [Zf] at h;split at h
  ·rename_i l hl;obtain⟨rfl,rfl⟩:=Prod.mk.inj (zsi h);obtain⟨cs,h1,h2⟩:=dA hE (Xm _) hl;have hlen:=o7 h1;refine⟨cs,fun b=>.one (.slc b 0 len len esz true),by simp only [xK,h1],Fk h2,fun b H' Z' β' hb=>⟨_,rfl,.inr ⟨b,cs.length,len,true,hb,rfl,qz _,?_⟩⟩⟩;rw [hlen];simp [jy]
  ·cases h
 |_=>cases h
end
section
variable{p:Par}{base rs:Nat}{Q:qk->Bx->Nat->Prop}{r:List SOper}{W:Wt}{A:List Nat}{E:qk}{S:Bx}{nk:Nat}{id:Nat}{dst:Option Nat}{aid:Option Nat}{ws:List Nat}{keep:Bool}
theorem AR.new{Z:Nat->Prop}{β:qt}{H H':Hp}{b N:Nat}(hA:AR p base rs A Z β H)(hnx:H.nx<=H'.nx)(hg:∀b',b'≠b->H'.get b'=H.get b')(hb:∀j,j<rs->j∉A->base+j≠b):AR p base rs A Z (wm β nk (.blk b N)) H':=by
 refine⟨hA.1,fun j hj hjA=>?_⟩;obtain⟨h1,h2,h3,h4⟩:=hA.2 j hj hjA;refine⟨by omega,by rw [hg _ (hb j hj hjA)];exact h2,h3,fun k M=>?_⟩;by_cases e:k=(nk,0)
 ·subst e;rw [xk];intro h;exact hb j hj hjA (Slot.blk.inj (zsi h)).1.symm
 ·rw [z8 _ _ e];exact h4 k M
theorem CR.new{Z:Nat->Prop}{β β':qt}{H H':Hp}{b:Nat}{c:z7}(hC:CR W Z β H c)(hZ:xb Z H Z H')(hB:xL β β')(hg:∀b',b'≠b->H'.get b'=H.get b')(hb:H.get b=none):CR W Z β' H' c:=hC.step hZ hB fun y _ k o n _ b' N i x _ _ _ hx=>by
 unfold Hp.cell at hx ⊢;by_cases e:b'=b
 ·subst e;rw [hb] at hx;cases hx
 ·rw [hg b' e];exact hx
theorem FK {op:AllocOp} {x:Bk} {d:DV} (hsh:x.shape=none) (hd:∀{Z:Nat->Prop} {β:qt} {H:Hp} {F:T V},ER Z β H E F->∃bk g cs rest,xK F op=some (bk,g)/\(∀b H',H'.get b=some bk->yM H' b (cs++rest))/\x.rel Z H β cs/\∀b (H':Hp) (Z':Nat->Prop) β',β' (nk,0)=some (.blk b (cs++rest).length)->xi Z' H' β' d (g b))
 (h:DPW p base rs Q r W A (qI E dst d) ((nk,x)::S) (nk+1)):DPW p base rs Q (⟨id,dst,.a op,none,none,ws,keep⟩::r) W A E S nk:=.mk fun Z β H F c QP hS hE hC hA=>by
 obtain⟨bk,g,cs,rest,h1,h2,h3,h4⟩:=hd hE;simp only [qC,qH,if_true,h1];have hfr:H.get H.nx=none:=hS.wf.fresh (qz _);have hg:∀b',b'≠H.nx->(H.push bk).get b'=H.get b':=fun b' hb'=>by rw [Hp.get_push,if_neg hb']
 obtain⟨hS',hZ,hB⟩:=hS.new (x:=x) (b:=H.nx) (H':=H.push bk) (cs:=cs) (rest:=rest) hsh h3 (fun hz=>absurd (hS.z _ hz) (by omega)) (fun k N hk=>absurd (hS.bd k _ N hk) (by omega)) hS.lo (by simp) (by simp) (hS.wf.push _) hg (h2 _ _ (by rw [Hp.get_push,if_pos rfl]));exact h.run Z _ _ _ c QP hS' ((hE.mono hZ hB).set dst (h4 _ _ _ _ (xk _ _ _))) (hC.new hZ hB hg hfr) (hA.new (by simp) hg fun j hj hjA e=>by have:=(hA.2 j hj hjA).1;omega)
theorem A3 {op:AllocOp} {x:Bk} {d:DV} {i:Nat} (hi:Nat.blt i rs=true) (hA':A.elem i=false) (hsh:x.shape=none) (hd:∀{Z:Nat->Prop} {β:qt} {H:Hp} {F:T V},ER Z β H E F->∃bk g cs rest,xK F op=some (bk,g)/\(∀b H',H'.get b=some bk->yM H' b (cs++rest))/\x.rel Z H β cs/\∀b (H':Hp) (Z':Nat->Prop) β',β' (nk,0)=some (.blk b (cs++rest).length)->xi Z' H' β' d (g b))
 (h:DPW p base rs Q r W (i::A) (qI E dst d) ((nk,x)::S) (nk+1)):DPW p base rs Q (⟨id,dst,.a op,none,some i,ws,keep⟩::r) W A E S nk:=.mk fun Z β H F c QP hS hE hC hA=>by
 obtain⟨bk,g,cs,rest,h1,h2,h3,h4⟩:=hd hE;simp only [qC,qH,if_true,h1];have hi':i<rs:=jP hi;have hiA:i∉A:=fun h=>by rw [List.elem_eq_true_of_mem h] at hA';cases hA'
 obtain⟨g1,g2,g3,g4⟩:=hA.2 i hi' hiA;have hg:∀b',b'≠base+i->(H.add (base+i) bk).get b'=H.get b':=fun b' hb'=>Hp.get_add_ne _ _ hb';have hw:WF (H.add (base+i) bk):=fun b k hb=>by
  rw [Hp.get_add] at hb;split at hb
  ·simp;omega
  ·exact hS.wf b k hb
 obtain⟨hS',hZ,hB⟩:=hS.new (x:=x) (b:=base+i) (H':=H.add (base+i) bk) (cs:=cs) (rest:=rest) hsh h3 g3 g4 (by have:=hA.1;omega) (by simpa using g1) (by simp) hw hg (h2 _ _ (by simp));refine h.run Z _ _ _ c QP hS' ((hE.mono hZ hB).set dst (h4 _ _ _ _ (xk _ _ _))) (hC.new hZ hB hg g2) ?_;have hA2:AR p base rs (i::A) Z β H:=⟨hA.1,fun j hj hjA=>hA.2 j hj fun h=>hjA (by simp [h])⟩;exact hA2.new (by simp) hg fun j hj hjA e=>hjA (by simp;omega)
theorem ND{cs:List C}(b:Nat)(H':Hp)(h:H'.get b=some (.row cs.length cs .lf true)):yM H' b (cs++[]):=by
 rw [yI];exact⟨⟨cs,.lf,h⟩,Vg (rw:=true) h⟩
theorem Qf{op:AllocOp}{x:Bk}{d:DV}(hd:Zf E nk op=some (x,d))(h:DPW p base rs Q r W A (qI E dst d) ((nk,x)::S) (nk+1)):DPW p base rs Q (⟨id,dst,.a op,none,none,ws,keep⟩::r) W A E S nk:=
 FK (VJ hd) (fun hE=>by
  obtain⟨cs,g,h1,h2,h3⟩:=pO hE hd;exact⟨_,g,cs,[],h1,ND,h2,fun b H' Z' β' hb=>h3 b H' Z' β' (by simpa using hb)⟩) h
theorem XU{op:AllocOp}{x:Bk}{d:DV}{i:Nat}(hi:Nat.blt i rs=true)(hA':A.elem i=false)(hd:Zf E nk op=some (x,d))(h:DPW p base rs Q r W (i::A) (qI E dst d) ((nk,x)::S) (nk+1)):DPW p base rs Q (⟨id,dst,.a op,none,some i,ws,keep⟩::r) W A E S nk:=
 A3 hi hA' (VJ hd) (fun hE=>by
  obtain⟨cs,g,h1,h2,h3⟩:=pO hE hd;exact⟨_,g,cs,[],h1,ND,h2,fun b H' Z' β' hb=>h3 b H' Z' β' (by simpa using hb)⟩) h
def St:List FD->List C->Bool
 |[],[]=>true
 |.c _::l,x::m=>x.closed&&St l m
 |.sl _ 0 []::l,.nils::m=>St l m
 |_,_=>false
def eE:List FD->List C->Prop
 |[],[]=>True
 |.c y::l,x::m=>y=x/\x.closed=true/\eE l m
 |.sl _ n q::l,x::m=>n=0/\q=[]/\x=.nils/\eE l m
 |_,_=>False
theorem sJ{Z:Nat->Prop}{H:Hp}:∀{l:List FD} {m:List C},eE l m->qe (RF Z H) l m
 |[],[],_=>trivial
 |.c y::l,x::m,h=>by obtain⟨rfl,h1,h2⟩:=h;exact⟨.c _ h1,sJ h2⟩
 |.sl e n q::l,x::m,h=>by obtain⟨rfl,rfl,rfl,h2⟩:=h;exact⟨.nil e,sJ h2⟩
 |[],_::_,h=>h.elim
 |.c _::_,[],h=>h.elim
 |.sl _ _ _::_,[],h=>h.elim
def jx(z:List FD):Nat->List FD
 |0=>[]
 |n+1=>z++jx z n
theorem jI(z:List FD):∀n,(jx z n).length=n*z.length
 |0=>by simp [jx]
 |n+1=>by simp [jx,jI z n,wW];omega
theorem tR(z:List FD):∀(n i:Nat),i<n*z.length->(jx z n)[i]?=z[i % z.length]?
 |0,i,h=>by simp at h
 |n+1,i,h=>by
  simp only [jx];by_cases hi:i<z.length
  ·rw [Qz hi,kJ hi]
  ·rw [Q3 (by omega),tR z n (i-z.length) (by rw [wW,Nat.one_mul] at h;omega)];congr 1;exact (Nat.mod_eq_sub_mod (by omega)).symm
theorem YZ(x:FD):∀n,jx [x] n=List.replicate n x
 |0=>rfl
 |n+1=>by simp [jx,YZ x n,LZ]
theorem EC{z:List C}{M:Nat}(hz:0<z.length)(b:Nat)(H':Hp)(h:H'.get b=some (.row M z .lf true)):yM H' b ((List.range M).map fun i=>z.getD (i % z.length) .nilp):=by
 refine⟨⟨z,.lf,by simpa using h⟩,?_⟩;have key:∀(m o:Nat),o+m=M->H'.loads b o m=some ((List.range' o m).map fun i=>z.getD (i % z.length) .nilp):=by
  intro m;induction m with
  |zero=>intro o _;rfl
  |succ m ih=>
   intro o ho;have hc:H'.cell b o=some (z.getD (o % z.length) .nilp):=by simp [Hp.cell,h,B.cell,show o<M by omega]
   simp only [Hp.loads,hc,ih (o+1) (by omega),List.range'_succ,jr]
 have:=key M 0 (by omega);simpa [List.range_eq_range'] using this
theorem Mw{Z:Nat->Prop}{H:Hp}{zf:List FD}{z:List C}(hz:eE zf z)(hp:0<z.length){n M:Nat}(hn:n*z.length<=M):∃cs rest,(List.range M).map (fun i=>z.getD (i % z.length) .nilp)=cs++rest/\qe (RF Z H) (jx zf n) cs:=by
 have ha:=sJ (Z:=Z) (H:=H) hz;have hl:=ha.len;refine⟨((List.range M).map (fun i=>z.getD (i % z.length) .nilp)).take (n*z.length),_,(ZV _ _).symm,qe.mk ?_ fun i d c hd hc=>?_⟩
 ·rw [jI,hl];simp;omega
 ·have hi:i<n*zf.length:=by rw [<-jI];exact (zgs hd).1
  rw [tR zf n i hi] at hd;obtain⟨x,hx,hr⟩:=ha.at _ d hd;rw [Kw,if_pos (by rw [<-hl];exact hi),jH,Kx (by rw [hl] at hi;omega)] at hc;simp only [QA,zoi] at hc;rw [<-hl] at hc;rw [qT,hx] at hc;simp only [QB] at hc;exact hc▸hr
theorem Dj {esz bytes n m:Nat} {z:List C} {zf:List FD} {lo co:Opd} {k k':IntKind} (hl:ro E lo=some (.one (.f (.c (.int k (n:Nat)))))) (hc:ro E co=some (.one (.f (.c (.int k' (m:Nat)))))) (hz:eE zf z) (hze:z.length=esz) (hp:0<esz) (hnm:n<=m) (hb:bytes*m<=281474976710656) (hm:m<4611686018427387904)
 {Z:Nat->Prop} {β:qt} {H:Hp} {F:T V} (hE:ER Z β H E F):∃bk g cs rest,xK F (.mkslice esz bytes z lo co)=some (bk,g)/\(∀b H',H'.get b=some bk->yM H' b (cs++rest))/\(Bk.data (jx zf n)).rel Z H β cs/\∀b (H':Hp) (Z':Nat->Prop) β',β' (nk,0)=some (.blk b (cs++rest).length)->xi Z' H' β' (.one (.own nk 0 n esz)) (g b):=by
 obtain⟨cs,rest,h1,h2⟩:=Mw (Z:=Z) (H:=H) hz (by omega) (n:=n) (M:=m*esz) (by rw [hze];exact X1 _ hnm);refine⟨.row (m*esz) z .lf true,fun b=>.one (.slc b 0 n m esz true),cs,rest,?_,fun b H' hb=>?_,h2,fun b H' Z' β' hb=>⟨_,O,.inr ⟨b,_,m,true,hb,O,hnm,?_⟩⟩⟩
 ·simp only [xK,xj hE hl,xj hE hc];rw [if_pos ⟨by omega,by omega,by omega,by omega⟩];simp
 ·rw [<-h1];exact EC (by omega) b H' hb
 ·rw [<-h1];simp
theorem aJ {esz bytes n m:Nat} {z:List C} (zf:List FD) {lo co:Opd} {k k':IntKind} (hl:ro E lo=some (.one (.f (.c (.int k (n:Nat)))))) (hc:ro E co=some (.one (.f (.c (.int k' (m:Nat)))))) (hz:eE zf z) (hze:z.length=esz) (hp:0<esz) (hnm:n<=m) (hb:bytes*m<=281474976710656) (hm:m<4611686018427387904)
 (h:DPW p base rs Q r W A (qI E dst (.one (.own nk 0 n esz))) ((nk,.data (jx zf n))::S) (nk+1)):DPW p base rs Q (⟨id,dst,.a (.mkslice esz bytes z lo co),none,none,ws,keep⟩::r) W A E S nk:=
 FK (x:=.data (jx zf n)) rfl (fun hE=>Dj hl hc hz hze hp hnm hb hm hE) h
theorem A1 {esz bytes n m:Nat} {z:List C} (zf:List FD) {lo co:Opd} {k k':IntKind} {i:Nat} (hi:Nat.blt i rs=true) (hA':A.elem i=false) (hl:ro E lo=some (.one (.f (.c (.int k (n:Nat)))))) (hc:ro E co=some (.one (.f (.c (.int k' (m:Nat)))))) (hz:eE zf z) (hze:z.length=esz) (hp:0<esz) (hnm:n<=m) (hb:bytes*m<=281474976710656) (hm:m<4611686018427387904)
 (h:DPW p base rs Q r W (i::A) (qI E dst (.one (.own nk 0 n esz))) ((nk,.data (jx zf n))::S) (nk+1)):DPW p base rs Q (⟨id,dst,.a (.mkslice esz bytes z lo co),none,some i,ws,keep⟩::r) W A E S nk:=
 A3 (x:=.data (jx zf n)) hi hA' rfl (fun hE=>Dj hl hc hz hze hp hnm hb hm hE) h
end
end Go.Ab
