/- -/
import Derived.Test.YtdlelodnhjacgaaGreatDoorAb13
set_option linter.unusedSimpArgs false
set_option linter.unusedVariables false
set_option maxRecDepth 8000
namespace Go.Ab
def jz(β:qt)(k:Nat)(σ:Nat->Option Slot):qt:=fun κ=>if κ.1=k then σ κ.2 else β κ
theorem x9(β:qt)(k i:Nat)(σ:Nat->Option Slot):jz β k σ (k,i)=σ i:=by simp [jz]
theorem vn(β:qt){k:Nat}{κ:zP}(σ:Nat->Option Slot)(h:κ.1≠k):jz β k σ κ=β κ:=by simp [jz,h]
def tL(k j:Nat):DC->DC
 |.ptr a o=>match Nat.beq a k with
  |true=>.ptr j o
  |false=>.ptr a o
 |.own a o n e=>match Nat.beq a k with
  |true=>.own j o n e
  |false=>.own a o n e
 |d=>d
def Md(k j:Nat):DV->DV
 |.one d=>.one (tL k j d)
 |.agg l=>.agg (l.map (tL k j))
 |.tup l=>.tup l
def KD(k j:Nat):Bk->Bk
 |.cells l=>.cells (l.map (tL k j))
 |.data l=>.data l
 |.tree l=>.tree l
 |.mp ks l=>.mp ks l
 |.mt es=>.mt es
section
variable{p:Par}{Z:Nat->Prop}{β:qt}{H H':Hp}{S S0:Bx}{nk:Nat}
theorem SR.bleT(h:SR p Z β H S nk)(σ:Nat->Option Slot):xL β (jz β nk σ):=fun κ t hk=>by
 have:=h.lt1 hk;rw [vn _ _ (by omega)];exact hk
theorem SR.tree (h:SR p Z β H S nk) (hS0:∀k x,lk S0 k=some x->∃y,lk S k=some y) (hS1:∀κ x,qR S0 κ=some x->∃s,β κ=some s/\vD p Z H β x s) {rows:List (List FD)} {σ:Nat->Option Slot} (hnx:H.nx<=H'.nx) (hw:WF H')
 (hg:∀b,(Z b\/∃κ x N,qR S0 κ=some x/\β κ=some (.blk b N))->H'.get b=H.get b)
 (hlt:∀i b N,σ i=some (.blk b N)->b<H'.nx)
 (hlo:∀i b N,σ i=some (.blk b N)->p.lo<=b)
 (hinj:∀i j b N N',σ i=some (.blk b N)->σ j=some (.blk b N')->i=j)
 (hdis:∀i b N (κ:zP) x M,σ i=some (.blk b N)->lk S0 κ.1=some x->β κ≠some (.blk b M))
 (hbox0:∃s,σ 0=some s/\vD p Z H' (jz β nk σ) (.cells (za nk 0 rows)) s)
 (hbox:∀i r,rows[i]?=some r->∃s,σ (i+1)=some s/\vD p Z H' (jz β nk σ) (.data r) s):
 SR p Z (jz β nk σ) H' ((nk,.tree rows)::S0) (nk+1)/\xb Z H Z H'/\xL β (jz β nk σ):=by
 have hB:=h.bleT σ;have hzg:∀b',Z b'->H'.get b'=H.get b':=fun b' hb'=>hg b' (.inl hb');have hZ:xb Z H Z H':=xb.of_get (fun _ h=>h) hzg;refine⟨⟨hw,aZ h.lo hnx,fun b' hb'=>Qg (h.z b' hb') hnx,h.zlo,h.zz,fun b' bk hb'=>?_,fun κ hκ=>?_,fun κ b' N hκ=>?_,fun κ y hκ=>?_,fun κ κ' y y' b' N N' hj hj' hs hs'=>?_,fun κ b' N hκ=>?_,fun κ hκ h0=>by rw [vn _ _ (by have:=h.ancn;omega)];exact h.anch κ hκ h0,Nat.le_succ_of_le h.ancn⟩,hZ,hB⟩
 ·obtain⟨h1,h2⟩:=h.glob b' bk hb';exact⟨h1,by rw [hzg b' h1];exact h2⟩
 ·rw [vn _ _ (by omega)];exact h.nk κ (by omega)
 ·by_cases e:κ.1=nk
  ·simp only [jz,if_pos e] at hκ;exact hlt _ _ _ hκ
  ·rw [vn _ _ e] at hκ;exact Qg (h.bd κ b' N hκ) hnx
 ·obtain⟨j,i⟩:=κ;by_cases e:j=nk
  ·subst e;have hl:lk ((j,.tree rows)::S0) j=some (.tree rows):=by rw [qw,if_pos rfl]
   cases i with
   |zero=>
    simp only [qR,hl] at hκ;obtain rfl:=zsi hκ;obtain⟨s,h1,h2⟩:=hbox0;exact⟨s,by rw [x9];exact h1,h2⟩
   |succ i=>
    simp only [qR,hl] at hκ;cases hr:rows[i]? with
    |none=>rw [hr] at hκ;cases hκ
    |some r=>
     rw [hr] at hκ;obtain rfl:=zsi hκ;obtain⟨s,h1,h2⟩:=hbox i r hr;exact⟨s,by rw [x9];exact h1,h2⟩
  ·have hκ':qR S0 (j,i)=some y:=by
    rw [<-hκ];exact yK (by rw [qw,if_neg (fun h=>e h.symm)])
   obtain⟨s,hs,hbx⟩:=hS1 (j,i) y hκ';refine⟨s,hB _ s hs,hbx.mono hB hnx fun b' hb'=>?_⟩;rcases hb' with hb'|⟨N,rfl⟩
   ·exact hzg b' hb'
   ·exact hg b' (.inr ⟨(j,i),y,N,hκ',hs⟩)
 ·obtain⟨j,i⟩:=κ;obtain⟨j',i'⟩:=κ';simp only at hj hj';by_cases e1:j=nk
  ·subst e1;rw [x9] at hs;by_cases e2:j'=j
   ·subst e2;rw [x9] at hs';rw [hinj i i' b' N N' hs hs']
   ·rw [vn _ _ e2] at hs';rw [qw,if_neg (fun h=>e2 h.symm)] at hj';exact absurd hs' (hdis i b' N (j',i') y' N' hs hj')
  ·rw [vn _ _ e1] at hs;rw [qw,if_neg (fun h=>e1 h.symm)] at hj;by_cases e2:j'=nk
   ·subst e2;rw [x9] at hs';exact absurd hs (hdis i' b' N' (j,i) y N hs' hj)
   ·rw [vn _ _ e2] at hs';rw [qw,if_neg (fun h=>e2 h.symm)] at hj';obtain⟨z1,g1⟩:=hS0 j y hj;obtain⟨z2,g2⟩:=hS0 j' y' hj';exact h.inj _ _ z1 z2 b' N N' g1 g2 hs hs'
 ·by_cases e:κ.1=nk
  ·simp only [jz,if_pos e] at hκ;exact hlo _ _ _ hκ
  ·rw [vn _ _ e] at hκ;exact h.blo κ b' N hκ
theorem NA{k:Nat}{σ:Nat->Option Slot}(h:SR p Z β H S nk)(h0:σ 0=β (k,0))(hZ:xb Z H Z H'){d:DC}{c:C}(hr:RD Z H β d c):RD Z H' (jz β nk σ) (tL k nk d) c:=by
 have hB:=h.bleT σ;cases d with
 |ptr a o=>
  simp only [tL];by_cases e:a=k
  ·subst e;rw [vf];obtain⟨b,N,h1,h2⟩:=hr;exact⟨b,N,by rw [x9,h0];exact h1,h2⟩
  ·rw [wS e];exact hr.mono hZ hB
 |own a o n e'=>
  simp only [tL];by_cases e:a=k
  ·subst e;rw [vf];rcases hr with⟨h1,h2⟩|⟨b,N,cap,ex,h1,h2⟩
   ·exact .inl ⟨by rw [x9,h0];exact h1,h2⟩
   ·exact .inr ⟨b,N,cap,ex,by rw [x9,h0];exact h1,h2⟩
  ·rw [wS e];exact hr.mono hZ hB
 |f d=>exact RD.mono (d:=.f d) hZ hB hr
 |g b o=>exact hr
 |fptr l=>exact RD.mono (d:=.fptr l) hZ hB hr
 |fn f l=>exact RD.mono (d:=.fn f l) hZ hB hr
 |any=>trivial
 |om a=>exact RD.mono (d:=.om a) hZ (h.bleT σ) hr
 |yl a=>exact RD.mono (d:=.yl a) hZ (h.bleT σ) hr
 |fz f ls=>exact RD.mono (d:=.fz f ls) hZ hB hr
 |trow a i o n=>exact RD.mono (d:=.trow a i o n) hZ hB hr
 |tptr a i o=>exact RD.mono (d:=.tptr a i o) hZ hB hr
theorem tK{k:Nat}{σ:Nat->Option Slot}(h:SR p Z β H S nk)(h0:σ 0=β (k,0))(hZ:xb Z H Z H'):∀{l:List DC} {cs:List C},qe (RD Z H β) l cs->qe (RD Z H' (jz β nk σ)) (l.map (tL k nk)) cs
 |[],[],_=>trivial
 |_::_,_::_,hr=>⟨NA h h0 hZ hr.1,tK h h0 hZ hr.2⟩
 |[],_::_,hr=>hr.elim
 |_::_,[],hr=>hr.elim
theorem Me{k:Nat}{σ:Nat->Option Slot}{E:qk}{F:T V}(h:SR p Z β H S nk)(h0:σ 0=β (k,0))(hZ:xb Z H Z H')(hE:ER Z β H E F):ER Z (jz β nk σ) H' (zx (Md k nk) E) F:=fun n d hd=>by
 rw [kA] at hd;cases hl:lk E n with
 |none=>rw [hl] at hd;cases hd
 |some y=>
  rw [hl] at hd;obtain rfl:=zsi hd;obtain⟨v,hv,hr⟩:=hE n y hl;refine⟨v,hv,?_⟩;cases y with
  |one d=>obtain⟨c,rfl,hr⟩:=hr;exact⟨c,O,NA h h0 hZ hr⟩
  |agg m=>obtain⟨c,rfl,hr⟩:=hr;exact⟨c,O,tK h h0 hZ hr⟩
  |tup m=>exact xi.mono (d:=.tup m) hZ (h.bleT σ) hr
theorem Na{k j:Nat}{S:Bx}{κ:zP}{y:Bk}(hy:qR (zx (KD k j) S) κ=some y):∃x,qR S κ=some x/\(y=KD k j x\/y=x):=by
 obtain⟨z,hz⟩:=ju hy;rw [kA] at hz;cases hl:lk S κ.1 with
 |none=>rw [hl] at hz;cases hz
 |some x=>
  have hlk:lk (zx (KD k j) S) κ.1=some (KD k j x):=by rw [kA,hl];rfl
  obtain⟨a,i⟩:=κ;simp only at hl hlk;cases i with
  |zero=>
   simp only [qR,hl];simp only [qR,hlk] at hy;cases x with
   |cells m=>exact⟨_,O,.inl (zsi hy).symm⟩
   |data m=>exact⟨_,O,.inl (zsi hy).symm⟩
   |tree rows=>exact⟨_,O,.inr (zsi hy).symm⟩
   |mp ks l=>exact⟨_,O,.inr (zsi hy).symm⟩
   |mt es=>exact⟨_,O,.inr (zsi hy).symm⟩
  |succ i=>
   simp only [qR,hl];simp only [qR,hlk] at hy;cases x with
   |cells m=>cases hy
   |data m=>cases hy
   |tree rows=>
    cases hr:rows[i]? with
    |none=>simp only [KD,hr] at hy;cases hy
    |some r=>simp only [KD,hr] at hy;exact⟨.data r,by simp only [hr];rfl,.inr (zsi hy).symm⟩
   |mp ks l=>cases hy
   |mt es=>exact⟨_,hy,.inr O⟩
theorem SR.rtS{k:Nat}{σ:Nat->Option Slot}{rows:List (List FD)}(h:SR p Z β H S nk)(h0:σ 0=β (k,0))(hZ:xb Z H Z H')(hS0:∀κ x,qR S0 κ=some x->qR S κ=some x)(hne:∀κ x,qR S0 κ=some x->κ.1≠nk)(hT:SR p Z (jz β nk σ) H' ((nk,.tree rows)::S0) (nk+1))(hg:∀b,(∃κ x N,qR S0 κ=some x/\β κ=some (.blk b N))->H'.get b=H.get b)(hnx:H.nx<=H'.nx):SR p Z (jz β nk σ) H' ((nk,.tree rows)::zx (KD k nk) S0) (nk+1):=by
 refine⟨hT.wf,hT.lo,hT.z,hT.zlo,hT.zz,hT.glob,hT.nk,hT.bd,fun κ y hκ=>?_,fun κ κ' y y' b N N' hj hj' hs hs'=>?_,hT.blo,hT.anch,hT.ancn⟩
 ·by_cases e:κ.1=nk
  ·refine hT.box κ y ?_;rw [<-hκ];exact yK (by rw [qw,qw,if_pos e.symm,if_pos e.symm])
  ·have hκ':qR (zx (KD k nk) S0) κ=some y:=by
    rw [<-hκ];exact yK (by rw [qw,if_neg (fun h=>e h.symm)])
   obtain⟨x,hx,hyx⟩:=Na hκ';have hxT:qR ((nk,.tree rows)::S0) κ=some x:=by
    rw [<-hx];exact yK (by rw [qw,if_neg (fun h=>e h.symm)])
   obtain⟨s,hs,hbx⟩:=hT.box κ x hxT;rcases hyx with rfl|rfl
   ·refine⟨s,hs,?_⟩;cases s with
    |nil=>cases x<;>simpa [vD,KD,Bk.len] using hbx
    |blk b N=>
     cases x with
     |cells m=>
      obtain⟨s0,hs0,hb0⟩:=h.box κ _ (hS0 κ _ hx);have:=h.bleT σ κ s0 hs0;rw [hs] at this;obtain rfl:=zsi this;obtain⟨g1,g2,g3,cs,rest,g4,g5,g6⟩:=hb0;exact⟨g1,g2,oM,cs,rest,g4.same (hg b ⟨κ,_,N,hx,hs0⟩),g5,tK h h0 hZ g6⟩
     |data m=>exact hbx
     |tree m=>exact hbx
     |mp ks l=>exact hbx
     |mt es=>exact hbx
   ·exact⟨s,hs,hbx⟩
 ·have f:∀a w,lk ((nk,.tree rows)::zx (KD k nk) S0) a=some w->∃w',lk ((nk,.tree rows)::S0) a=some w':=fun a w hw=>by
   rw [qw] at hw ⊢;split at hw
   ·rename_i e;exact⟨_,by rw [if_pos e]⟩
   ·rename_i e;rw [kA] at hw;cases hl:lk S0 a with
    |none=>rw [hl] at hw;cases hw
    |some q=>exact⟨q,by rw [if_neg e]⟩
  obtain⟨z1,e1⟩:=f _ y hj;obtain⟨z2,e2⟩:=f _ y' hj';exact hT.inj κ κ' z1 z2 b N N' e1 e2 hs hs'
end
theorem oA(k:Nat):∀(i:Nat) (rows:List (List FD)) (j:Nat) (r r':List FD),rows[j]?=some r->r'.length=r.length->za k i (rows.set j r')=za k i rows
 |_,[],_,_,_,h,_=>by simp at h
 |i,q::rs,0,r,r',h,hl=>by simp at h;subst h;simp [za,hl]
 |i,q::rs,j+1,r,r',h,hl=>by
  simp only [DN,za];rw [oA k (i+1) rs j r r' (by simpa using h) hl]
theorem KZ{Z:Nat->Prop}{H H':Hp}{β β':qt}{k k':Nat}{rows rows':List (List FD)}{cs cs':List C}(hl:rows'.length=cs'.length)(h:∀i r c,rows'[i]?=some r->cs'[i]?=some c->RD Z H' β' (.trow k' i 0 r.length) c):qe (RD Z H' β') (za k' 0 rows') cs':=by
 refine qe.mk (by rw [kQ];exact hl) fun i d c hd hc=>?_;rw [Xq] at hd;cases hr:rows'[i]? with
 |none=>rw [hr] at hd;cases hd
 |some r=>
  rw [hr] at hd;simp only [QA,zoi,ym] at hd;subst hd;exact h i r c hr hc
section
variable{p:Par}{base rs:Nat}{Q:qk->Bx->Nat->Prop}{r:List SOper}{W:Wt}{A:List Nat}{E:qk}{S:Bx}{nk:Nat}{id:Nat}{dst:Option Nat}{aid:Option Nat}{ws:List Nat}{keep:Bool}
theorem AR.tree{Z:Nat->Prop}{β:qt}{H H':Hp}{σ:Nat->Option Slot}(hA:AR p base rs A Z β H)(hnx:H.nx<=H'.nx)(hg:∀j,j<rs->j∉A->H'.get (base+j)=H.get (base+j))(hb:∀j,j<rs->j∉A->∀i N,σ i≠some (.blk (base+j) N)):AR p base rs A Z (jz β nk σ) H':=by
 refine⟨hA.1,fun j hj hjA=>?_⟩;obtain⟨h1,h2,h3,h4⟩:=hA.2 j hj hjA;refine⟨by omega,by rw [hg j hj hjA];exact h2,h3,fun κ M=>?_⟩;by_cases e:κ.1=nk
 ·simp only [jz,if_pos e];exact hb j hj hjA _ M
 ·rw [vn _ _ e];exact h4 κ M
theorem TG{Z:Nat->Prop}{β:qt}{H H':Hp}{n b:Nat}(hS:SR p Z β H S nk)(hz:¬Z b)(hβ:∀κ N,β κ≠some (.blk b N))(hlo:p.lo<=b)(hb:b<H'.nx)(hnx:H.nx<=H'.nx)(hw:WF H')(hg:∀b',b'≠b->H'.get b'=H.get b')(hr:H'.get b=some (.row (n*1) [.nils] .lf true)):
 ∃σ,SR p Z (jz β nk σ) H' ((nk,.tree (List.replicate n []))::S) (nk+1)/\xb Z H Z H'/\xL β (jz β nk σ)/\σ 0=some (.blk b n)/\∀i c N,σ i=some (.blk c N)->c=b:=by
 have hs0:∀i c N,(fun i=>match i with|0=>some (Slot.blk b n)|i+1=>if i<n then some Slot.nil else none) i=some (Slot.blk c N)->c=b/\i=0:=fun i c N h=>by
  cases i with
  |zero=>exact⟨(Slot.blk.inj (zsi h)).1.symm,O⟩
  |succ i=>
   simp only at h;split at h<;>cases h
 refine⟨fun i=>match i with|0=>some (.blk b n)|i+1=>if i<n then some .nil else none,?_⟩
 obtain⟨g1,g2,g3⟩:=hS.tree (S0:=S) (H':=H') (rows:=List.replicate n []) (σ:=fun i=>match i with|0=>some (.blk b n)|i+1=>if i<n then some .nil else none) (fun k x h=>⟨x,h⟩) hS.box hnx hw
  (fun c hc=>hg c fun e=>by
   rcases hc with hc|⟨κ,x,N,_,hc⟩
   ·exact hz (e▸hc)
   ·exact hβ κ N (e▸hc))
  (fun i c N h=>by rw [(hs0 i c N h).1];exact hb)
  (fun i c N h=>by rw [(hs0 i c N h).1];exact hlo)
  (fun i j c N N' h h'=>by rw [(hs0 i c N h).2,(hs0 j c N' h').2])
  (fun i c N κ x M h _=>by rw [(hs0 i c N h).1];exact hβ κ M)
  ⟨_,rfl,hz,hlo,hb,List.replicate n .nils,[],by
   rw [yI];have:=EC (z:=[.nils]) (M:=n*1) (by simp) b H' hr;have e:(List.range (n*1)).map (fun i=>[C.nils].getD (i % [C.nils].length) .nilp)=List.replicate n C.nils:=by
    refine vF fun i=>?_;rw [jH];by_cases hi:i<n
    ·rw [Kx (by omega),Zu,if_pos hi];simp [Nat.mod_one]
    ·rw [yJ (by simp;omega),Zu,if_neg hi];rfl
   rw [e] at this;exact this,(by simp [Y6,Bk.shape]),by
   refine KZ (k:=0) (rows:=[]) (cs:=[]) (H:=H) (β:=β) (by simp) fun i r c h1 h2=>?_;rw [Zu] at h1 h2;split at h1
   ·rename_i hi;rw [if_pos hi] at h2;obtain rfl:=zsi h1;obtain rfl:=zsi h2;exact .inl ⟨by rw [x9];simp only [if_pos hi],rfl,rfl,rfl⟩
   ·cases h1⟩
  (fun i r h=>by
   rw [Zu] at h;split at h
   ·rename_i hi;obtain rfl:=zsi h;exact⟨.nil,by simp only [if_pos hi],rfl⟩
   ·cases h)
 exact⟨g1,g2,g3,O,fun i c N h=>(hs0 i c N h).1⟩
theorem NZ{bytes n:Nat}{lo co:Opd}{k k':IntKind}(hl:ro E lo=some (.one (.f (.c (.int k (n:Nat))))))(hc:ro E co=some (.one (.f (.c (.int k' (n:Nat))))))(hb:bytes*n<=281474976710656)(hm:n<4611686018427387904){Z:Nat->Prop}{β:qt}{H:Hp}{F:T V}(hE:ER Z β H E F):xK F (.mkslice 1 bytes [.nils] lo co)=some (.row (n*1) [.nils] .lf true,fun b=>.one (.slc b 0 n n 1 true)):=by
 simp only [xK,xj hE hl,xj hE hc];rw [if_pos ⟨by omega,by omega,by omega,by omega⟩];simp
theorem A0 {bytes n:Nat} {lo co:Opd} {k k':IntKind} (hl:ro E lo=some (.one (.f (.c (.int k (n:Nat)))))) (hc:ro E co=some (.one (.f (.c (.int k' (n:Nat)))))) (hb:bytes*n<=281474976710656) (hm:n<4611686018427387904)
 (h:DPW p base rs Q r W A (qI E dst (.one (.own nk 0 n 1))) ((nk,.tree (List.replicate n []))::S) (nk+1)):DPW p base rs Q (⟨id,dst,.a (.mkslice 1 bytes [.nils] lo co),none,none,ws,keep⟩::r) W A E S nk:=.mk fun Z β H F c QP hS hE hC hA=>by
 simp only [qC,qH,if_true,NZ hl hc hb hm hE];have hfr:H.get H.nx=none:=hS.wf.fresh (qz _);have hg:∀b',b'≠H.nx->(H.push (.row (n*1) [.nils] .lf true)).get b'=H.get b':=fun b' hb'=>by rw [Hp.get_push,if_neg hb']
 obtain⟨σ,hS',hZ,hB,s0,s1⟩:=TG (n:=n) (b:=H.nx) (H':=H.push (.row (n*1) [.nils] .lf true)) hS (fun hz=>absurd (hS.z _ hz) (by omega)) (fun k N hk=>absurd (hS.bd k _ N hk) (by omega)) hS.lo (by simp) (by simp) (hS.wf.push _) hg (by rw [Hp.get_push,if_pos rfl]);refine h.run Z _ _ _ c QP hS' ((hE.mono hZ hB).set dst ⟨_,O,.inr ⟨H.nx,n,n,true,by rw [x9];exact s0,rfl,qz _,by omega⟩⟩) (hC.new hZ hB hg hfr) (hA.tree (by simp) (fun j hj hjA=>hg _ ?_) fun j hj hjA i N e=>?_)
 ·have:=(hA.2 j hj hjA).1;omega
 ·have:=s1 i _ N e;have:=(hA.2 j hj hjA).1;omega
theorem SR.updT{Z:Nat->Prop}{β:qt}{H H':Hp}(h:SR p Z β H S nk){k i b N:Nat}{rows:List (List FD)}{q q':List FD}{cs rest:List C}(hk:lk S k=some (.tree rows))(hi:rows[i]?=some q)(hs:β (k,i+1)=some (.blk b N))(hl:q'.length=q.length)(hx:qe (RF Z H) q' cs)(hg:∀b',b'≠b->H'.get b'=H.get b')(hnx:H'.nx=H.nx)(hr:yM H' b (cs++rest))(hN:(cs++rest).length=N):
 SR p Z β H' (put k (.tree (rows.set i q')) S) nk/\xb Z H Z H':=by
 have hk2:=Qo hk hi;obtain⟨s,hs',hbx⟩:=h.box (k,i+1) _ hk2;rw [hs] at hs';obtain rfl:=zsi hs';obtain⟨hz,hlo,hlt,_⟩:=hbx;have hzg:∀b',Z b'->H'.get b'=H.get b':=fun b' hb'=>hg b' fun e=>hz (e▸hb');have hZ:xb Z H Z H':=xb.of_get (fun _ h=>h) hzg;have hil:i<rows.length:=(zgs hi).1;have hoth:∀(κ:zP) y,κ≠(k,i+1)->qR S κ=some y->∃s,β κ=some s/\vD p Z H' β y s:=fun κ y hne hy=>by
  obtain⟨s,hsj,hbj⟩:=h.box κ y hy;obtain⟨z,hz⟩:=ju hy;refine⟨s,hsj,hbj.mono (xL.refl _) oM fun b' hb'=>?_⟩;rcases hb' with hb'|⟨M,rfl⟩
  ·exact hzg b' hb'
  ·exact hg b' fun e'=>hne (h.inj κ (k,i+1) z _ b M N hz hk (e'▸hsj) hs)
 refine⟨⟨fun b' bk hb'=>?_,by rw [hnx];exact h.lo,fun b' hb'=>by rw [hnx];exact h.z b' hb',h.zlo,h.zz,fun b' bk hb'=>?_,h.nk,fun k b' N hk=>by rw [hnx];exact h.bd k b' N hk,fun κ y hκ=>?_,fun j j' y y' b' M M' hj hj' hsj hsj'=>?_,h.blo,h.anch,h.ancn⟩,hZ⟩
 ·rw [hnx];by_cases e:b'=b
  ·omega
  ·rw [hg b' e] at hb';exact h.wf b' bk hb'
 ·obtain⟨h1,h2⟩:=h.glob b' bk hb';exact⟨h1,by rw [hzg b' h1];exact h2⟩
 ·obtain⟨j,t⟩:=κ;by_cases e:j=k
  ·subst e;have hl':lk (put j (.tree (rows.set i q')) S) j=some (.tree (rows.set i q')):=by rw [yu,if_pos rfl,hk];rfl
   cases t with
   |zero=>
    simp only [qR,hl',oA j 0 rows i q q' hi hl] at hκ;exact hoth (j,0) y (by simp) (by simp only [qR,hk];exact hκ)
   |succ t=>
    simp only [qR,hl',Q4] at hκ;by_cases et:i=t
    ·subst et;rw [if_pos rfl,if_pos hil] at hκ;obtain rfl:=zsi hκ;exact⟨_,hs,hz,hlo,oM,cs,rest,hr,hN,qe.mono (fun _ _=>RF.mono hZ) hx⟩
    ·rw [if_neg et] at hκ;exact hoth (j,t+1) y (fun h=>et (by simp at h;omega)) (by simp only [qR,hk];exact hκ)
  ·have:qR S (j,t)=some y:=by rw [<-hκ];exact (yK (by rw [yu,if_neg e])).symm
   exact hoth (j,t) y (fun h=>e (Prod.mk.inj h).1) this
 ·rw [yu] at hj hj';have f:∀a z,(if a=k then Option.map (fun _=>Bk.tree (rows.set i q')) (lk S a) else lk S a)=some z->∃z',lk S a=some z':=fun a z hz=>by
   split at hz
   ·cases hl:lk S a with
    |none=>rw [hl] at hz;cases hz
    |some q=>exact⟨q,O⟩
   ·exact⟨z,hz⟩
  obtain⟨z1,e1⟩:=f j.1 y hj;obtain⟨z2,e2⟩:=f j'.1 y' hj';exact h.inj j j' z1 z2 b' M M' e1 e2 hsj hsj'
theorem Yq {a v:Opd} {k i o:Nat} {rows:List (List FD)} {q:List FD} {x:FD} (ha:ro E a=some (.one (.tptr k i o))) (hv:ro E v=some (.one (.f x))) (hk:lk S k=some (.tree rows)) (hi:rows[i]?=some q) (ho:o<q.length) (hw:QF S k W=true)
 (h:DPW p base rs Q r W A (qI E dst .undef) (put k (.tree (rows.set i (q.set o x))) S) nk):DPW p base rs Q (⟨id,dst,.e (.store 1 a v),none,aid,ws,keep⟩::r) W A E S nk:=.mk fun Z β H F c QP hS hE hC hA=>by
 obtain⟨ca,hca,b,N,hb,rfl⟩:=xz hE ha;obtain⟨cv,hcv,hrv⟩:=xz hE hv;obtain⟨s,hs,hbx⟩:=hS.box (k,i+1) _ (Qo hk hi);rw [hb] at hs;obtain rfl:=zsi hs;obtain⟨hz,hlo,hlt,cs,rest,hrow,hN,hrel⟩:=hbx;have hN:(cs++rest).length=_:=hN;have hlen:q.length=cs.length:=qe.len hrel;obtain⟨H',e1,e2,e3,e4⟩:=hrow.stores (cs:=[cv]) (i:=o) (by simp;omega);rw [Xp [cv] cs rest o (by simp;omega)] at e2;obtain⟨hS',hZ⟩:=hS.updT (q':=q.set o x) (cs:=wn cs o [cv]) (rest:=rest) hk hi hb (by simp) (qe.set hrel o hrv) e3 e4 e2 (by rw [qE,ka,<-qE];exact hN);simp only [qC,qH,if_true,xe,hca,hcv,wP];rw [if_pos (by simp),e1];have hC':=hC.upd (k:=(k,i+1)) hS hk hZ e3 hb hw;exact⟨hC'.watch ws,h.run Z β H' _ c QP hS' ((hE.mono hZ (xL.refl _)).set dst kP) hC' (hA.upd e4 e3 hb)⟩
theorem AS {a v:Opd} {k k' o n:Nat} {rows:List (List FD)} {q:List FD} (ha:ro E a=some (.one (.ptr k o))) (hv:ro E v=some (.one (.own k' 0 n 1))) (hk:lk S k=some (.tree rows)) (hk':lk S k'=some (.data q)) (hn:q.length=n) (ho:o<rows.length) (hw:QF S k W=true)
 (h:DPW p base rs Q r W A (qI (zx (Md k nk) E) dst .undef) ((nk,.tree (rows.set o q))::zx (KD k nk) (xP k' (xP k S))) (nk+1)):DPW p base rs Q (⟨id,dst,.e (.store 1 a v),none,aid,ws,keep⟩::r) W A E S nk:=.mk fun Z β H F c QP hS hE hC hA=>by
 obtain⟨ca,hca,b,N,hb,rfl⟩:=xz hE ha;obtain⟨cv,hcv,hrv⟩:=xz hE hv;have hk0:qR S (k,0)=some (.cells (za k 0 rows)):=by simp only [qR,hk]
 have hkk:k'≠k:=fun e=>by subst e;rw [hk] at hk';cases hk'
 obtain⟨s,hs,hbx⟩:=hS.box (k,0) _ hk0;rw [hb] at hs;obtain rfl:=zsi hs;obtain⟨hz,hlo,hlt,cs,rest,hrow,hN,hrel⟩:=hbx;have hN:(cs++rest).length=_:=hN;have hlen:(za k 0 rows).length=cs.length:=qe.len hrel;rw [kQ] at hlen;obtain⟨H',e1,e2,e3,e4⟩:=hrow.stores (cs:=[cv]) (i:=o) (by simp;omega);rw [Xp [cv] cs rest o (by simp;omega)] at e2;have hwf:WF H':=fun b' bk hb'=>by
  rw [e4];by_cases e:b'=b
  ·omega
  ·rw [e3 b' e] at hb';exact hS.wf b' bk hb'
 let κ:Nat->Option zP:=fun i=>match i with
  |0=>some (k,0)
  |i+1=>if i=o then some (k',0) else if i<rows.length then some (k,i+1) else none
 let σ:Nat->Option Slot:=fun i=>(κ i).bind β;have hσ:∀i s,σ i=some s->∃a,κ i=some a/\β a=some s:=fun i s h=>by
  simp only [σ,JJ] at h;exact h
 have hκlive:∀i a,κ i=some a->(a.1=k\/a.1=k')/\∃x,lk S a.1=some x:=fun i a h=>by
  cases i with
  |zero=>obtain rfl:=zsi h;exact⟨.inl O,_,hk⟩
  |succ i=>
   simp only [κ] at h;split at h
   ·obtain rfl:=zsi h;exact⟨.inr O,_,hk'⟩
   ·split at h
    ·obtain rfl:=zsi h;exact⟨.inl O,_,hk⟩
    ·cases h
 have hκinj:∀i j a,κ i=some a->κ j=some a->i=j:=fun i j a h1 h2=>by
  cases i with
  |zero=>
   obtain rfl:=zsi h1;cases j with
   |zero=>rfl
   |succ j=>
    simp only [κ] at h2;split at h2
    ·have:=zsi h2;simp at this;exact absurd this hkk
    ·split at h2
     ·have:=zsi h2;simp at this
     ·cases h2
  |succ i=>
   cases j with
   |zero=>
    obtain rfl:=zsi h2;simp only [κ] at h1;split at h1
    ·have:=zsi h1;simp at this;exact absurd this hkk
    ·split at h1
     ·have:=zsi h1;simp at this
     ·cases h1
   |succ j=>
    simp only [κ] at h1 h2;split at h1
    ·rename_i ei;obtain rfl:=zsi h1;split at h2
     ·omega
     ·split at h2
      ·have:=zsi h2;simp at this
      ·cases h2
    ·split at h1
     ·obtain rfl:=zsi h1;split at h2
      ·have:=zsi h2;simp at this
      ·split at h2
       ·have:=zsi h2;simp at this;omega
       ·cases h2
     ·cases h1
 have hσ0:σ 0=β (k,0):=by simp [σ,κ]
 have hera:∀j x,lk (xP k' (xP k S)) j=some x->lk S j=some x/\j≠k/\j≠k':=fun j x hj=>by
  rw [yB,yB] at hj;split at hj
  ·cases hj
  ·split at hj
   ·cases hj
   ·exact⟨hj,by assumption,by assumption⟩
 have hera2:∀a x,qR (xP k' (xP k S)) a=some x->qR S a=some x/\a.1≠k/\a.1≠k':=fun a x ha=>by
  rw [Xz,Xz] at ha;split at ha
  ·cases ha
  ·split at ha
   ·cases ha
   ·exact⟨ha,by assumption,by assumption⟩
 have hgL:∀b',(Z b'\/∃a x N,qR (xP k' (xP k S)) a=some x/\β a=some (.blk b' N))->H'.get b'=H.get b':=fun b' hb'=>e3 b' fun e=>by
  rcases hb' with hb'|⟨a,x,M,ha,hb'⟩
  ·exact hz (e▸hb')
  ·obtain⟨h1,h2,_⟩:=hera2 a x ha;obtain⟨y,hy⟩:=ju h1;exact h2 (by rw [hS.inj a (k,0) y _ b M N hy hk (e▸hb') hb])
 have hBe:=hS.bleT σ;have hZe:xb Z H Z H':=xb.of_get (fun _ h=>h) fun b' hb'=>hgL b' (.inl hb');obtain⟨hT,hZ,hB⟩:=hS.tree (S0:=xP k' (xP k S)) (H':=H') (rows:=rows.set o q) (σ:=σ) (fun j x hj=>⟨x,(hera j x hj).1⟩) (fun a x ha=>hS.box a x (hera2 a x ha).1) oM hwf hgL
  (fun i c M h=>by obtain⟨a,_,h2⟩:=hσ i _ h;rw [e4];exact hS.bd a c M h2)
  (fun i c M h=>by obtain⟨a,_,h2⟩:=hσ i _ h;exact hS.blo a c M h2)
  (fun i j c M M' h1 h2=>by
   obtain⟨a1,g1,g2⟩:=hσ i _ h1;obtain⟨a2,g3,g4⟩:=hσ j _ h2;obtain⟨_,x1,l1⟩:=hκlive i a1 g1;obtain⟨_,x2,l2⟩:=hκlive j a2 g3;have:=hS.inj a1 a2 x1 x2 c M M' l1 l2 g2 g4;subst this;exact hκinj i j a1 g1 g3)
  (fun i c M a x M' h1 ha hb'=>by
   obtain⟨a1,g1,g2⟩:=hσ i _ h1;obtain⟨w,x1,l1⟩:=hκlive i a1 g1;obtain⟨l2,n1,n2⟩:=hera a.1 x ha;have:=hS.inj a1 a x1 x c M M' l1 l2 g2 hb';subst this;exact w.elim n1 n2)
  ⟨_,hσ0.trans hb,hz,hlo,by omega,wn cs o [cv],rest,e2,by rw [qE,ka,<-qE];exact hN,by
   refine KZ (k:=0) (rows:=[]) (cs:=[]) (H:=H) (β:=β) (by rw [ka];simp;omega) fun i t d h1 h2=>?_;simp only [wn,Q4] at h1 h2;by_cases ei:o=i
   ·subst ei;rw [if_pos rfl,if_pos (by omega)] at h1 h2;obtain rfl:=zsi h1;obtain rfl:=zsi h2;have hs1:σ (o+1)=β (k',0):=by simp [σ,κ]
    rw [hn];rcases hrv with⟨w1,w2⟩|⟨b1,N1,cap,ex,w1,w2⟩
    ·exact .inl ⟨by rw [x9,hs1];exact w1,w2⟩
    ·exact .inr ⟨b1,N1,cap,ex,by rw [x9,hs1];exact w1,w2⟩
   ·rw [if_neg ei] at h1 h2;have hil:i<rows.length:=(zgs h1).1;have ei':¬i=o:=fun h=>ei h.symm;have hs1:σ (i+1)=β (k,i+1):=by simp only [σ,κ,if_neg ei',if_pos hil,JN]
    obtain⟨c',hc',hr'⟩:=hrel.at i (.trow k i 0 t.length) (by rw [Xq,h1];simp);rw [h2] at hc';obtain rfl:=zsi hc';rcases hr' with⟨w1,w2⟩|⟨b1,N1,cap,ex,w1,w2⟩
    ·exact .inl ⟨by rw [x9,hs1];exact w1,w2⟩
    ·exact .inr ⟨b1,N1,cap,ex,by rw [x9,hs1];exact w1,w2⟩⟩
  (fun i t h1=>by
   have fin:∀a x,qR S a=some x->a≠(k,0)->(∃y,lk S a.1=some y)->∃s,β a=some s/\vD p Z H' (jz β nk σ) x s:=fun a x ha hne ⟨y,hy⟩=>by
    obtain⟨s,hs,hbx⟩:=hS.box a x ha;refine⟨s,hs,hbx.mono hBe oM fun b' hb'=>?_⟩;rcases hb' with hb'|⟨M,rfl⟩
    ·exact hgL b' (.inl hb')
    ·exact e3 b' fun e=>hne (hS.inj a (k,0) y _ b M N hy hk (e▸hs) hb)
   simp only [Q4] at h1;by_cases ei:o=i
   ·subst ei;rw [if_pos rfl,if_pos ho] at h1;obtain rfl:=zsi h1;have hs1:σ (o+1)=β (k',0):=by simp [σ,κ]
    rw [hs1];exact fin (k',0) _ (zN hk' O) (fun h=>hkk (Prod.mk.inj h).1) ⟨_,hk'⟩
   ·rw [if_neg ei] at h1;have hil:i<rows.length:=(zgs h1).1;have ei':¬i=o:=fun h=>ei h.symm;have hs1:σ (i+1)=β (k,i+1):=by simp only [σ,κ,if_neg ei',if_pos hil,JN]
    rw [hs1];exact fin (k,i+1) _ (Qo hk h1) (by simp) ⟨_,hk⟩)
 have hT':=hS.rtS (k:=k) hσ0 hZ (fun a x ha=>(hera2 a x ha).1) (fun a x ha e=>by
  obtain⟨y,hy⟩:=ju (hera2 a x ha).1;have:=hS.lt hy;omega) hT (fun b' ⟨a,x,M,h1,h2⟩=>hgL b' (.inr ⟨a,x,M,h1,h2⟩)) oM
 simp only [qC,qH,if_true,xe,hca,hcv,wP];rw [if_pos (by simp),e1];have hC':=(hC.upd (k:=(k,0)) hS hk hZ e3 hb hw).step (xb.refl Z H') hB fun _ _ _ _ _ _ _ _ _ _ _ _ _ h=>h;refine⟨hC'.watch ws,h.run Z _ H' _ c QP hT' ((Me hS hσ0 hZ hE).set dst kP) hC' (hA.tree (by omega) (fun j hj hjA=>e3 _ fun e=>(hA.2 j hj hjA).2.2.2 (k,0) N (by rw [e];exact hb)) fun j hj hjA i M hM=>?_)⟩;obtain⟨a,_,g2⟩:=hσ i _ hM;exact (hA.2 j hj hjA).2.2.2 a M g2
end
section
variable{p:Par}{base rs:Nat}{Q:qk->Bx->Nat->Prop}{r:List SOper}{W:Wt}{A:List Nat}{E:qk}{S:Bx}{nk:Nat}{id:Nat}{dst:Option Nat}{aid:Option Nat}{ws:List Nat}{keep:Bool}
theorem CR.repl0{Z:Nat->Prop}{β β':qt}{H H':Hp}{b k:Nat}{c:z7}{x:Bk}(hS:SR p Z β H S nk)(hk:lk S k=some x)(hC:CR W Z β H c)(hZ:xb Z H Z H')(hB:xL β β')(hg:∀b',b'≠b->(∀N,β (k,0)≠some (.blk b' N))->H'.get b'=H.get b')(hb:(∃N,β (k,0)=some (.blk b N))\/H.nx<=b)(hw:QF S k W=true):CR W Z β' H' c:=hC.step hZ hB fun y hy j o n e b' N' i q hj _ _ hq=>by
 obtain⟨⟨z,hz⟩,hne⟩:=ZW hw y hy j o n e;have h2:∀N,β (k,0)≠some (.blk b' N):=fun N e'=>hne (by rw [hS.inj j (k,0) z x b' N' N hz hk hj e']);have h1:b'≠b:=fun e'=>by
  rcases hb with⟨M,hM⟩|hb
  ·exact h2 M (e'▸hM)
  ·have:=hS.bd j b' N' hj;omega
 unfold Hp.cell at hq ⊢;rw [hg b' h1 h2];exact hq
theorem m6 {bytes:Nat} {s v:Opd} {k kv k' n m:Nat} {rows:List (List FD)} {q:List FD} (hs:ro E s=some (.one (.own k 0 n 1))) (hv:ro E v=some (.one (.own kv 0 1 1))) (hk:lk S k=some (.tree rows)) (hn:rows.length=n) (hkv:lk S kv=some (.cells [.own k' 0 m 1])) (hk':lk S k'=some (.data q)) (hq:q.length=m) (hbb:(n+1)*bytes<=140737488355328) (h62:n+1<4611686018427387904) (hw:QF S k W=true)
 (h:DPW p base rs Q r W A (qI E dst (.one (.own nk 0 (n+1) 1))) ((nk,.tree (rows++[q]))::xP k' (xP kv (xP k S))) (nk+1)):DPW p base rs Q (⟨id,dst,.e (.append 1 bytes s v),none,aid,ws,keep⟩::r) W A E S nk:=.mk fun Z β H F c QP hS hE hC hA=>by
 obtain⟨cs',hcs',hrs⟩:=xz hE hs;obtain⟨cv',hcv',hrv⟩:=xz hE hv;have hk0:qR S (k,0)=some (.cells (za k 0 rows)):=by simp only [qR,hk]
 have hkk:k'≠k:=fun e=>by subst e;rw [hk] at hk';cases hk'
 obtain⟨cv,hsrc,hcv⟩:∃cv,zU H 1 (v.ev F)=some (1,[cv])/\RD Z H β (.own k' 0 m 1) cv:=by
  rcases hrv with⟨_,h0,_⟩|⟨b,N,cap,ex,hb,rfl,_,_⟩
  ·cases h0
  ·obtain⟨s,hs,hbx⟩:=hS.box (kv,0) _ (zN hkv rfl);rw [hb] at hs;obtain rfl:=zsi hs;obtain⟨_,_,_,cs,rest,hrow,hN,hrel⟩:=hbx;have hN:(cs++rest).length=_:=hN
   match cs,hrel with
   |[cv],hrel=>
    refine⟨cv,?_,hrel.1⟩;have:=y6 hrow.2 (m:=1) (by simp);rw [hcv'];simp only [zU,if_true,X2,this];rfl
 obtain⟨sk,hsk,hbx⟩:=hS.box (k,0) _ hk0;simp only [qC,qH,if_true,xe,hsrc,hcs'];let κ:Nat->Option zP:=fun i=>if i<n then some (k,i+1) else if i=n then some (k',0) else none
 have hκlive:∀i a,κ i=some a->(a.1=k\/a.1=k')/\a≠(k,0)/\∃x,lk S a.1=some x:=fun i a h=>by
  simp only [κ] at h;split at h
  ·obtain rfl:=zsi h;exact⟨.inl O,by simp,_,hk⟩
  ·split at h
   ·obtain rfl:=zsi h;exact⟨.inr O,fun h=>hkk (Prod.mk.inj h).1,_,hk'⟩
   ·cases h
 have hκinj:∀i j a,κ i=some a->κ j=some a->i=j:=fun i j a h1 h2=>by
  simp only [κ] at h1 h2;split at h1
  ·obtain rfl:=zsi h1;split at h2
   ·have:=zsi h2;simp at this;omega
   ·split at h2
    ·have:=zsi h2;simp at this
    ·cases h2
  ·split at h1
   ·obtain rfl:=zsi h1;split at h2
    ·have:=zsi h2;simp at this
    ·split at h2
     ·omega
     ·cases h2
   ·cases h1
 have hera:∀j x,lk (xP k' (xP kv (xP k S))) j=some x->lk S j=some x/\j≠k/\j≠k':=fun j x hj=>by
  rw [yB,yB,yB] at hj;split at hj
  ·cases hj
  ·split at hj
   ·cases hj
   ·split at hj
    ·cases hj
    ·exact⟨hj,by assumption,by assumption⟩
 have hera2:∀a x,qR (xP k' (xP kv (xP k S))) a=some x->qR S a=some x/\a.1≠k/\a.1≠k':=fun a x ha=>by
  rw [Xz,Xz,Xz] at ha;split at ha
  ·cases ha
  ·split at ha
   ·cases ha
   ·split at ha
    ·cases ha
    ·exact⟨ha,by assumption,by assumption⟩
 have hzk:∀b' N,Z b'->β (k,0)≠some (.blk b' N):=fun b' N hz e=>by
  rw [hsk] at e;obtain rfl:=zsi e;exact hbx.1 hz
 have hfin:∀(H':Hp) (b:Nat) (olds rest:List C) (cap:Nat) (ex:Bool),(qe (RD Z H β) (za k 0 rows) olds)->((∃N,β (k,0)=some (.blk b N))\/(b=H.nx))->b<H'.nx->H.nx<=H'.nx->WF H'->(∀b',b'≠b->(∀N,β (k,0)≠some (.blk b' N))->H'.get b'=H.get b')->yM H' b ((olds++[cv])++rest)->n+1<=cap->cap*1<=((olds++[cv])++rest).length->
  yi ws c H'/\qC p.P p.G base QP (fun F' H'=>∃E' S' nk' Z' β',SR p Z' β' H' S' nk'/\ER Z' β' H' E' F'/\Q E' S' nk') r c (xg F dst (.one (.slc b 0 (n+1) cap 1 ex))) H':=by
  intro H' b olds rest cap ex hol hb hbl hnx hwf hg hrow hcap hcl;have hb':(∃N,β (k,0)=some (.blk b N))\/H.nx<=b:=hb.imp (fun h=>h) fun e=>by omega
  have hlen:=hol.len;rw [kQ] at hlen;let σ:Nat->Option Slot:=fun i=>match i with
   |0=>some (.blk b ((olds++[cv])++rest).length)
   |i+1=>(κ i).bind β
  have hσ:∀i s,σ (i+1)=some s->∃a,κ i=some a/\β a=some s:=fun i s h=>by
   simp only [σ,JJ] at h;exact h
  have hrowne:∀i c' M,σ (i+1)=some (.blk c' M)->c'≠b/\c'<H.nx/\∀N,β (k,0)≠some (.blk c' N):=fun i c' M h=>by
   obtain⟨a,g1,g2⟩:=hσ i _ h;obtain⟨_,n1,x,l1⟩:=hκlive i a g1;have hb0:∀N,β (k,0)≠some (.blk c' N):=fun N e=>n1 (hS.inj a (k,0) x _ c' M N l1 hk g2 e);have:=hS.bd a c' M g2;refine⟨fun e=>?_,this,hb0⟩;rcases hb with⟨N,hN⟩|hN
   ·exact hb0 N (e▸hN)
   ·omega
  have hzb:¬Z b:=by
   rcases hb with⟨N,hN⟩|hN
   ·exact fun hz=>hzk b N hz hN
   ·exact fun hz=>absurd (hS.z _ hz) oM
  have hlob:p.lo<=b:=by
   rcases hb with⟨N,hN⟩|hN
   ·exact hS.lo2 hk0 hN
   ·have:=hS.lo;omega
  have hgL:∀b',(Z b'\/∃a x N,qR (xP k' (xP kv (xP k S))) a=some x/\β a=some (.blk b' N))->H'.get b'=H.get b':=fun b' hb1=>by
   rcases hb1 with hb1|⟨a,x,M,ha,hb1⟩
   ·exact hg b' (fun e=>hzb (e▸hb1)) fun N=>hzk b' N hb1
   ·obtain⟨h1,h2,_⟩:=hera2 a x ha;obtain⟨y,hy⟩:=ju h1;have h3:∀N,β (k,0)≠some (.blk b' N):=fun N e=>h2 (by rw [hS.inj a (k,0) y _ b' M N hy hk hb1 e]);refine hg b' (fun e=>?_) h3;rcases hb with⟨N,hN⟩|hN
    ·exact h3 N (e▸hN)
    ·have:=hS.bd a b' M hb1;omega
  have hBe:=hS.bleT σ;obtain⟨hT,hZ,hB⟩:=hS.tree (S0:=xP k' (xP kv (xP k S))) (H':=H') (rows:=rows++[q]) (σ:=σ) (fun j x hj=>⟨x,(hera j x hj).1⟩) (fun a x ha=>hS.box a x (hera2 a x ha).1) hnx hwf hgL
   (fun i c' M h=>by
    cases i with
    |zero=>obtain⟨rfl,_⟩:=Slot.blk.inj (zsi h);exact hbl
    |succ i=>have:=(hrowne i c' M h).2.1;omega)
   (fun i c' M h=>by
    cases i with
    |zero=>obtain⟨rfl,_⟩:=Slot.blk.inj (zsi h);exact hlob
    |succ i=>obtain⟨a,_,h2⟩:=hσ i _ h;exact hS.blo a c' M h2)
   (fun i j c' M M' h1 h2=>by
    cases i with
    |zero=>
     obtain⟨rfl,_⟩:=Slot.blk.inj (zsi h1);cases j with
     |zero=>rfl
     |succ j=>exact absurd O (hrowne j _ _ h2).1
    |succ i=>
     cases j with
     |zero=>obtain⟨rfl,_⟩:=Slot.blk.inj (zsi h2);exact absurd O (hrowne i _ _ h1).1
     |succ j=>
      obtain⟨a1,g1,g2⟩:=hσ i _ h1;obtain⟨a2,g3,g4⟩:=hσ j _ h2;obtain⟨_,_,x1,l1⟩:=hκlive i a1 g1;obtain⟨_,_,x2,l2⟩:=hκlive j a2 g3;have:=hS.inj a1 a2 x1 x2 c' M M' l1 l2 g2 g4;subst this;rw [hκinj i j a1 g1 g3])
   (fun i c' M a x M' h1 ha hb1=>by
    obtain⟨l2,n1,n2⟩:=hera a.1 x ha;cases i with
    |zero=>
     obtain⟨rfl,_⟩:=Slot.blk.inj (zsi h1);rcases hb with⟨N,hN⟩|hN
     ·exact n1 (by rw [hS.inj a (k,0) x _ _ M' N l2 hk hb1 hN])
     ·have:=hS.bd a _ M' hb1;omega
    |succ i=>
     obtain⟨a1,g1,g2⟩:=hσ i _ h1;obtain⟨w,_,x1,l1⟩:=hκlive i a1 g1;have:=hS.inj a1 a x1 x c' M M' l1 l2 g2 hb1;subst this;exact w.elim n1 n2)
   ⟨_,rfl,hzb,hlob,hbl,olds++[cv],rest,hrow,rfl,by
    refine KZ (k:=0) (rows:=[]) (cs:=[]) (H:=H) (β:=β) (by simp;omega) fun i t d h1 h2=>?_;by_cases ei:i<n
    ·rw [Qz (by omega)] at h1 h2;have hs1:σ (i+1)=β (k,i+1):=by simp only [σ,κ,if_pos ei,JN]
     obtain⟨c',hc',hr'⟩:=hol.at i (.trow k i 0 t.length) (by rw [Xq,h1];simp);rw [h2] at hc';obtain rfl:=zsi hc';rcases hr' with⟨w1,w2⟩|⟨b1,N1,cap,ex,w1,w2⟩
     ·exact .inl ⟨by rw [x9,hs1];exact w1,w2⟩
     ·exact .inr ⟨b1,N1,cap,ex,by rw [x9,hs1];exact w1,w2⟩
    ·have hi:i=n:=by
      have:=(zgs h1).1;simp at this;omega
     subst hi;rw [Q3 (by omega),hn] at h1;rw [Q3 (by omega),<-hlen,hn] at h2;simp at h1 h2;subst h1;subst h2;have hs1:σ (i+1)=β (k',0):=by simp [σ,κ]
     rw [hq];rcases hcv with⟨w1,w2⟩|⟨b1,N1,cap,ex,w1,w2⟩
     ·exact .inl ⟨by rw [x9,hs1];exact w1,w2⟩
     ·exact .inr ⟨b1,N1,cap,ex,by rw [x9,hs1];exact w1,w2⟩⟩
   (fun i t h1=>by
    have fin:∀a x,κ i=some a->qR S a=some x->∃s,σ (i+1)=some s/\vD p Z H' (jz β nk σ) x s:=fun a x hκ ha=>by
     obtain⟨s,hs,hbx⟩:=hS.box a x ha;have hσi:σ (i+1)=some s:=by simp only [σ,hκ,JN,hs]
     refine⟨s,hσi,hbx.mono hBe hnx fun b' hb'=>?_⟩;rcases hb' with hb'|⟨M,rfl⟩
     ·exact hgL b' (.inl hb')
     ·obtain⟨w1,_,w3⟩:=hrowne i b' M hσi;exact hg b' w1 w3
    by_cases ei:i<n
    ·rw [Qz (by omega)] at h1;exact fin (k,i+1) _ (by simp only [κ,if_pos ei]) (Qo hk h1)
    ·have hi:i=n:=by
      have:=(zgs h1).1;simp at this;omega
     subst hi;rw [Q3 (by omega),hn] at h1;simp at h1;subst h1;exact fin (k',0) _ (by simp [κ]) (zN hk' O))
  have hC':=hC.repl0 hS hk hZ hB hg hb' hw;refine⟨hC'.watch ws,h.run Z _ H' _ c QP hT ((hE.mono hZ hB).set dst ⟨_,O,.inr ⟨b,_,cap,ex,by rw [x9],rfl,hcap,by omega⟩⟩) hC' (hA.tree hnx (fun j hj hjA=>?_) fun j hj hjA i M hM=>?_)⟩
  ·obtain⟨h1,h2,h3,h4⟩:=hA.2 j hj hjA;refine hg _ (fun e=>?_) fun N=>h4 (k,0) N;rcases hb with⟨N,hN⟩|hN
   ·exact h4 (k,0) N (by rw [e];exact hN)
   ·omega
  ·obtain⟨h1,h2,h3,h4⟩:=hA.2 j hj hjA;cases i with
   |zero=>
    obtain⟨e,_⟩:=Slot.blk.inj (zsi hM);rcases hb with⟨N,hN⟩|hN
    ·exact h4 (k,0) N (by rw [<-e];exact hN)
    ·omega
   |succ i=>
    obtain⟨a,_,g2⟩:=hσ i _ hM;exact h4 a M g2
 rcases hrs with⟨hnil,h0,_,rfl⟩|⟨b,N,cap,ex,hb,rfl,hcap,hcN⟩
 ·have hr0:rows=[]:=vw oM;subst hr0;obtain rfl:n=0:=h0;simp only [yx];rw [if_neg (by decide),if_pos ⟨by omega,by omega⟩];exact hfin (H.push (.row 1 [cv] .lf true)) H.nx [] [] 1 false trivial (.inr O) (by simp) (by simp) (hS.wf.push _) (fun b' hb' _=>by rw [Hp.get_push,if_neg hb']) (by simpa using yM.new (H:=H) [cv]) (by omega) (by simp)
 ·rw [hb] at hsk;obtain rfl:=zsi hsk;obtain⟨hz,hlo,hlt,cells,rest,hrow,hN,hrel⟩:=hbx;have hN:(cells++rest).length=_:=hN;have hlen:(za k 0 rows).length=cells.length:=qe.len hrel;rw [kQ] at hlen;simp only [yx];rw [if_neg (by simp)];by_cases hfit:n+1<=cap
  ·rw [if_pos hfit,ym,X2];obtain⟨rest',x,hrest⟩:∃rest' x,rest=x::rest':=by
    cases rest with
    |nil=>simp at hN;omega
    |cons x rest'=>exact⟨rest',x,O⟩
   subst hrest;obtain⟨H',e1,e2,e3,e4⟩:=hrow.stores (cs:=[cv]) (i:=n) (by simp;omega);rw [e1];have hset:wn (cells++x::rest') n [cv]=(cells++[cv])++rest':=by
    have:=Jh cells [x] [cv] rest' rfl;rw [<-hlen,hn] at this;simpa using this
   rw [hset] at e2;refine hfin H' b cells rest' cap ex hrel (.inl ⟨N,hb⟩) oM oM (fun b' bk hb'=>?_) (fun b' hb' _=>e3 b' hb') e2 hfit ?_
   ·rw [e4];by_cases e:b'=b
    ·omega
    ·rw [e3 b' e] at hb';exact hS.wf b' bk hb'
   ·simp at hN ⊢;omega
  ·rw [if_neg hfit,if_pos ⟨hbb,h62⟩];have hld:H.loads b 0 (n*1)=some cells:=by
    have:=y6 hrow.2 (m:=n*1) (by simp;omega);rw [this,Kt (by omega),Q9 (by omega)]
   rw [hld];have hrow':=yM.new (H:=H) (cells++[cv]);cases ex with
   |true=>
    simp only [if_true];exact hfin _ H.nx cells [] (n+1) false hrel (.inr O) (by simp) (by simp) (hS.wf.push _) (fun b' hb' _=>by rw [Hp.get_push,if_neg hb']) (by rw [yI];exact hrow') (qz _) (by simp;omega)
   |false=>
    simp only [yz,if_false,hrow.mut,if_true];refine hfin _ H.nx cells [] (n+1) false hrel (.inr O) (by simp) (by simp) (fun b' bk hb'=>?_) (fun b' hb' hne=>?_) (by rw [yI];exact hrow'.same (by rw [Hp.get_del,if_neg (by omega)])) (qz _) (by simp;omega)
    ·rw [Hp.get_del] at hb';split at hb'
     ·cases hb'
     ·exact hS.wf.push _ b' bk hb'
    ·rw [Hp.get_del,if_neg (fun (e:b'=b)=>hne N (by rw [e];exact hb)),Hp.get_push,if_neg hb']
end
section
variable{p:Par}{n:Nat}{Q:Exit->qk->Bx->Nat->Prop}{E:qk}{S:Bx}{nk:Nat}
theorem SA{Z:Nat->Prop}{β:qt}{H:Hp}(hS:SR p Z β H S nk):∃σ,SR p Z (jz β nk σ) H ((nk,.tree [])::S) (nk+1)/\xL β (jz β nk σ)/\σ 0=some .nil:=by
 have hno:∀i c N,(fun i=>match i with|0=>some Slot.nil|_+1=>none) i=some (Slot.blk c N)->False:=fun i c N h=>by
  cases i<;>cases h
 obtain⟨g1,g2,g3⟩:=hS.tree (S0:=S) (H':=H) (rows:=[]) (σ:=fun i=>match i with|0=>some .nil|_+1=>none) (fun k x h=>⟨x,h⟩) hS.box (qz _) hS.wf (fun _ _=>rfl) (fun i c N h=>(hno i c N h).elim) (fun i c N h=>(hno i c N h).elim) (fun i j c N N' h=>(hno i c N h).elim) (fun i c N κ x M h=>(hno i c N h).elim) ⟨_,rfl,rfl⟩ (fun i r h=>by simp at h)
 exact⟨_,g1,g3,O⟩
theorem W7{s:SC}(kb i:Nat){l:List DC}(hk:lk S kb=some (.cells l))(hi:l[i]?=some (.f (.c .nils)))(h:DPS p n s Q E ((nk,.tree [])::put kb (.cells (l.set i (.own nk 0 0 1))) S) (nk+1)):DPS p n s Q E S nk:=.mk fun Z β H F hS hE=>by
 obtain⟨σ,hT,hB,h0⟩:=SA hS;have hkn:=hS.lt hk;have hkT:lk ((nk,.tree [])::S) kb=some (.cells l):=by rw [qw,if_neg (by omega)];exact hk
 refine h.run Z _ H F ?_ (hE.mono (xb.refl Z H) hB);have hput:∀j,lk ((nk,.tree [])::put kb (.cells (l.set i (.own nk 0 0 1))) S) j=lk (put kb (.cells (l.set i (.own nk 0 0 1))) ((nk,.tree [])::S)) j:=fun j=>by
  simp only [put,wS (show nk≠kb by omega)]
 refine⟨hT.wf,hT.lo,hT.z,hT.zlo,hT.zz,hT.glob,hT.nk,hT.bd,fun κ y hκ=>?_,fun κ κ' y y' b N N' hj hj'=>?_,hT.blo,hT.anch,hT.ancn⟩
 ·rw [yK (hput κ.1),aA hkT rfl] at hκ;split at hκ
  ·rename_i e;split at hκ
   ·rename_i e2;obtain rfl:=Yf e e2;obtain rfl:=zsi hκ;obtain⟨s,hs,hbx⟩:=hT.box (kb,0) _ (zN hkT rfl);refine⟨s,hs,?_⟩;cases s with
    |nil=>
     have:l=[]:=vw hbx;subst this;cases hi
    |blk b N=>
     obtain⟨g1,g2,g3,cs,rest,g4,g5,g6⟩:=hbx;refine⟨g1,g2,g3,cs,rest,g4,g5,?_⟩;obtain⟨c,hc,hr⟩:=qe.at g6 i _ hi;cases hr;have hset:cs.set i .nils=cs:=by
      refine vF fun j=>?_;rw [Q4];split
      ·rename_i ej;subst ej;rw [hc];first|rfl|rw [if_pos (zgs hc).1]
      ·rfl
     show qe _ _ _
     rw [<-hset];exact qe.set g6 i (.inl ⟨by rw [x9];exact h0,rfl,rfl,rfl⟩)
   ·cases hκ
  ·exact hT.box κ y hκ
 ·rw [hput] at hj hj';rw [yu] at hj hj';have f:∀a z,(if a=kb then Option.map (fun _=>Bk.cells (l.set i (.own nk 0 0 1))) (lk ((nk,.tree [])::S) a) else lk ((nk,.tree [])::S) a)=some z->∃z',lk ((nk,.tree [])::S) a=some z':=fun a z hz=>by
   split at hz
   ·cases hl:lk ((nk,.tree [])::S) a with
    |none=>rw [hl] at hz;cases hz
    |some q=>exact⟨q,O⟩
   ·exact⟨z,hz⟩
  obtain⟨z1,e1⟩:=f κ.1 y hj;obtain⟨z2,e2⟩:=f κ'.1 y' hj';exact hT.inj κ κ' z1 z2 b N N' e1 e2
end
def Ws(P:Program)(G:Nat)(GH:Hp)(f:FuncId)(ds:List DV)(R:DV->Bx->Nat->Prop):Prop:=∀(H:Hp) (Z:Nat->Prop) (args:List V),WF H->(∀b,Z b->b<H.nx)->(∀b bk,GH.get b=some bk->Z b/\H.get b=some bk)->qe (xi Z H kx) ds args->
 xc P G f args H fun v H'=>H.nx<=H'.nx/\(∀b,b<H.nx->H'.get b=H.get b)/\∃d S' nk' Z' β',SR (Par.base P G GH Z H.nx) Z' β' H' S' nk'/\xi Z' H' β' d v/\R d S' nk'
section
variable{p:Par}{E:qk}{S:Bx}{nk:Nat}
theorem Ms{Z:Nat->Prop}{β:qt}{H:Hp}{d:DV}{v:V}(hr:xi Z H β d v)(hd:Vk d=true):Y8 v=true/\zC Z H β d v:=by
 cases d with
 |one d=>obtain⟨c,rfl,hr⟩:=hr;exact⟨O,c,O,hr⟩
 |agg l=>obtain⟨c,rfl,hr⟩:=hr;exact⟨O,c,O,hr⟩
 |tup l=>cases hd
theorem K5{Z:Nat->Prop}{β:qt}{H:Hp}{F:T V}(hS:SR p Z β H S nk)(hE:ER Z β H E F):∀{l:List SRes} {ds:List DV},YY p E S l=some ds->xa Vk ds=true->∃vs,Q0 F H l=some vs/\qe (zC Z H β) ds vs
 |[],ds,h,_=>by obtain rfl:=zsi h;exact⟨[],O,trivial⟩
 |r::l,ds,h,hf=>by
  simp only [YY] at h;split at h
  ·rename_i d q h1 h2;obtain rfl:=zsi h;have f1:=yX hf d (by simp);have f2:xa Vk q=true:=by simp only [xa,f1] at hf;exact hf
   obtain⟨v,e1,e2⟩:=ED hS hE h1;obtain⟨vs,e3,e4⟩:=K5 hS hE h2 f2;obtain⟨o1,o2⟩:=Ms e2 f1;exact⟨v::vs,by simp only [Q0,e1,e3,o1,if_true],o2,e4⟩
  ·cases h
def V7:DV->Bool
 |.tup l=>xa Vk l
 |_=>true
theorem WJ{Z:Nat->Prop}{β:qt}{H:Hp}{F:T V}(hS:SR p Z β H S nk)(hE:ER Z β H E F){rs:List SRes}{d:DV}(h:j3 p E S rs=some d)(hf:V7 d=true):∃v,yk F H rs=some v/\xi Z H β d v:=by
 unfold j3 at h;have one:∀d',YY p E S rs=some [d']->Vk d'=true->∃v,yk F H rs=some v/\xi Z H β d' v:=fun d' hd' hf'=>by
  obtain⟨vs,h1,h2⟩:=K5 hS hE hd' (by simp [xa,hf'])
  match vs,h1,h2 with
  |[v],h1,h2=>exact⟨v,by simp only [yk,h1],xi.of1 h2.1⟩
 split at h
 ·rename_i c hd';obtain rfl:=zsi h;exact one _ hd' O
 ·rename_i l hd';obtain rfl:=zsi h;exact one _ hd' O
 ·cases h
 ·rename_i ds hn1 hn2 hn3 hds;obtain rfl:=zsi h;obtain⟨vs,h1,h2⟩:=K5 hS hE hds hf;refine⟨.tup vs,?_,vs,O,h2⟩;have hl:=h2.len;unfold yk;rw [h1]
  match vs,hl with
  |[],_=>rfl
  |[v],hl=>
   match ds,hl with
   |[.one d],_=>exact (hn1 d O).elim
   |[.agg d],_=>exact (hn2 d O).elim
   |[.tup d],_=>exact (hn3 d O).elim
  |_::_::_,_=>rfl
 ·cases h
end
def cG(p:Par)(rs:List SRes)(R:DV->Bx->Nat->Prop):Exit->qk->Bx->Nat->Prop
 |.normal,E,S,nk=>∃d,j3 p E S rs=some d/\V7 d=true/\∃S0,wV S0 S/\R d S0 nk
 |.ret,E,S,nk=>∃d,j3 p E S rs=some d/\V7 d=true/\∃S0,wV S0 S/\R d S0 nk
 |_,_,_,_=>False
theorem FQ{P:Program}{G:Nat}{GH:Hp}{f:FuncId}{sf:SFn}(hf:yr P G f=some sf){ds:List DV}{R:DV->Bx->Nat->Prop}(hn:Nat.ble ds.length sf.n=true)(hG:∀b bk,GH.get b=some bk->bk.ro=some bk)(h:∀Z0 lo,DPS (Par.base P G GH Z0 lo) sf.n sf.code (cG (Par.base P G GH Z0 lo) sf.res R) (jC ds 0) [] 0):Ws P G GH f ds R:=by
 intro H Z args hw hz hg ha;have hro:xc P G f args H.ro fun v H1=>∃d S' nk' Z' β',SR (Par.base P G GH Z H.nx) Z' β' H1 S' nk'/\xi Z' H1 β' d v/\R d S' nk':=by
  have hwr:WF H.ro:=fun b bk hb=>by
   rw [Hp.get_ro,JJ] at hb;obtain⟨x,hx,_⟩:=hb;exact hw b x hx
  refine (aH hf (by rw [<-ha.len];exact jP hn) ?_);have hS:SR (Par.base P G GH Z H.nx) Z kx H.ro [] 0:=⟨hwr,qz _,hz,fun b hb=>.inl hb,fun b hb=>hb,fun b bk hb=>(by rcases hb with hb|⟨_,hb⟩;exact⟨(hg b bk hb).1,by rw [Hp.get_ro,(hg b bk hb).2];exact hG b bk hb⟩;cases hb),fun _ _=>rfl,fun _ _ _ hk=>(by cases hk),fun κ x hk=>(by obtain⟨y,hy⟩:=ju hk;cases hy),fun _ _ _ _ _ _ _ hk=>(by cases hk),fun _ _ _ hk=>(by cases hk),fun _ _ _=>rfl,qz _⟩
  have hE:ER Z kx H.ro (jC ds 0) (ke args 0):=Yx 0 (ha.mono fun _ _ hr=>xi.mono (xb.of_le (fun _ h=>h) (Le.ro H)) (xL.refl kx) hr);refine jn ((h Z H.nx).run Z kx H.ro _ hS hE) fun e F' H' ⟨E',S',nk',Z',β',h1,h2,h3⟩=>?_;have fin:(∃d,j3 (Par.base P G GH Z H.nx) E' S' sf.res=some d/\V7 d=true/\∃S0,wV S0 S'/\R d S0 nk')->∃v,yk F' H' sf.res=some v/\∃d S' nk' Z' β',SR (Par.base P G GH Z H.nx) Z' β' H' S' nk'/\xi Z' H' β' d v/\R d S' nk':=fun⟨d,hd,hfr,S0,hsub,hR⟩=>by
   obtain⟨v,hv,hr⟩:=WJ h1 h2 hd hfr;exact⟨v,hv,d,S0,nk',Z',β',h1.keepS hsub,hr,hR⟩
  cases e with
  |normal=>obtain⟨v,hv,hr⟩:=fin h3;simp only [Z6,hv];exact hr
  |ret=>obtain⟨v,hv,hr⟩:=fin h3;simp only [Z6,hv];exact hr
  |_=>exact h3.elim
 refine (xc.none (xc.wf (xc.grow hro))).mono ?_;rintro v H' ⟨⟨⟨H1,⟨d,S',nk',Z',β',hS1,hr,hR⟩,e1,e2,e3,e4,e5⟩,hw'⟩,hno⟩;have hnx:H'.nx=H1.nx:=by rw [e1];rfl
 have hold:∀b,b<H.nx->H'.get b=H.get b:=fun b hb=>by
  cases hgb:H.get b with
  |none=>exact hno b hb hgb
  |some bk=>exact e3 b bk hgb
 have hZ:xb Z' H1 Z' H':=xb.of_le (fun _ h=>h) e5;refine⟨by omega,hold,d,S',nk',Z',β',⟨hw',by simp only;omega,fun b hb=>by rw [hnx];exact hS1.z b hb,hS1.zlo,hS1.zz,fun b bk hb=>⟨(hS1.glob b bk hb).1,?_⟩,hS1.nk,fun κ b N hκ=>by rw [hnx];exact hS1.bd κ b N hκ,fun κ x hκ=>?_,hS1.inj,hS1.blo,hS1.anch,hS1.ancn⟩,hr.mono hZ (xL.refl β'),hR⟩
 ·rcases hb with hb|⟨_,hb⟩
  ·rw [hold b (hz b (hg b bk hb).1)];exact (hg b bk hb).2
  ·cases hb
 ·obtain⟨s,hs,hbx⟩:=hS1.box κ x hκ;refine⟨s,hs,?_⟩;cases s with
  |nil=>exact hbx
  |blk b N=>
   obtain⟨h1,h2,h3,cs,rest,h4,h5,h6⟩:=hbx;exact⟨h1,h2,oM,cs,rest,h4.same (e4 b h2),h5,Bk.rel_mono hZ (xL.refl _) h6⟩
def Lx(n:Nat):List (Nat × Nat)->List (Nat × Nat)
 |[]=>[]
 |(k,o)::r=>(k+n,o)::Lx n r
def QI(n:Nat):DC->DC
 |.ptr k o=>.ptr (k+n) o
 |.own k o m e=>.own (k+n) o m e
 |.tptr k i o=>.tptr (k+n) i o
 |.trow k i o m=>.trow (k+n) i o m
 |.fn f l=>.fn f (Lx n l)
 |.om k=>.om (k+n)
 |.yl k=>.yl (k+n)
 |d=>d
def Lz:Nat->DV->DV
 |n,.one d=>.one (QI n d)
 |n,.agg l=>.agg (l.map (QI n))
 |_,.tup l=>.tup l
def Tf(n:Nat):DV->DV
 |.one d=>.one (QI n d)
 |.agg l=>.agg (l.map (QI n))
 |.tup l=>.tup (l.map (Lz n))
def eZ(n:Nat):Bk->Bk
 |.cells l=>.cells (l.map (QI n))
 |.data l=>.data l
 |.tree l=>.tree l
 |.mp ks l=>.mp ks (l.map (QI n))
 |.mt es=>.mt (vP (QI n) es)
theorem n5(n:Nat)(x:Bk):(eZ n x).shape=x.shape:=by cases x<;>rfl
def tE(n:Nat):Bx->Bx->Bx
 |[],T=>T
 |(k,x)::r,T=>(k+n,eZ n x)::tE n r T
section
variable{Z:Nat->Prop}{H:Hp}{β β':qt}{n:Nat}
theorem M3(hβ:∀k i,β' (k+n,i)=β (k,i)):∀{l l':List (Nat × Nat)},ki β l l'->ki β' (Lx n l) l'
 |[],[],_=>trivial
 |(_,_)::_,(_,_)::_,h=>⟨h.1,by obtain⟨N,hN⟩:=h.2.1;exact⟨N,by rw [hβ];exact hN⟩,M3 hβ h.2.2⟩
 |[],_::_,h=>h.elim
 |(_,_)::_,[],h=>h.elim
theorem tF(hβ:∀k i,β' (k+n,i)=β (k,i)){d:DC}{c:C}(h:RD Z H β d c):RD Z H β' (QI n d) c:=by
 cases d with
 |ptr k o=>obtain⟨b,N,h1,h2⟩:=h;exact⟨b,N,by rw [hβ];exact h1,h2⟩
 |tptr k i o=>obtain⟨b,N,h1,h2⟩:=h;exact⟨b,N,by rw [hβ];exact h1,h2⟩
 |own k o m e=>
  rcases h with⟨h1,h2⟩|⟨b,N,cap,ex,h1,h2⟩
  ·exact .inl ⟨by rw [hβ];exact h1,h2⟩
  ·exact .inr ⟨b,N,cap,ex,by rw [hβ];exact h1,h2⟩
 |trow k i o m=>
  rcases h with⟨h1,h2⟩|⟨b,N,cap,ex,h1,h2⟩
  ·exact .inl ⟨by rw [hβ];exact h1,h2⟩
  ·exact .inr ⟨b,N,cap,ex,by rw [hβ];exact h1,h2⟩
 |fn f l=>obtain⟨l',h1,h2⟩:=h;exact⟨l',h1,M3 hβ h2⟩
 |f d=>exact h
 |g b o=>exact h
 |fptr l=>exact h
 |any=>trivial
 |om k=>obtain⟨b,N,h1,h2⟩:=h;exact⟨b,N,by rw [hβ];exact h1,h2⟩
 |yl k=>obtain⟨b,N,h1,h2⟩:=h;exact⟨b,N,by rw [hβ];exact h1,h2⟩
 |fz f ls=>exact h
theorem KT(hβ:∀k i,β' (k+n,i)=β (k,i)):∀{l:List DC} {cs:List C},qe (RD Z H β) l cs->qe (RD Z H β') (l.map (QI n)) cs
 |[],[],_=>trivial
 |_::_,_::_,h=>⟨tF hβ h.1,KT hβ h.2⟩
 |[],_::_,h=>h.elim
 |_::_,[],h=>h.elim
theorem Ly(hβ:∀k i,β' (k+n,i)=β (k,i)){d:DV}{v:V}(h:zC Z H β d v):zC Z H β' (Lz n d) v:=by
 cases d with
 |one d=>obtain⟨c,rfl,h⟩:=h;exact⟨c,O,tF hβ h⟩
 |agg l=>obtain⟨c,rfl,h⟩:=h;exact⟨c,O,KT hβ h⟩
 |tup l=>exact h.elim
theorem Lw(hβ:∀k i,β' (k+n,i)=β (k,i)){d:DV}{v:V}(h:xi Z H β d v):xi Z H β' (Tf n d) v:=by
 cases d with
 |one d=>obtain⟨c,rfl,h⟩:=h;exact⟨c,O,tF hβ h⟩
 |agg l=>obtain⟨c,rfl,h⟩:=h;exact⟨c,O,KT hβ h⟩
 |tup l=>
  obtain⟨c,rfl,h⟩:=h;refine⟨c,O,?_⟩;have key:∀{l:List DV} {cs:List V},qe (zC Z H β) l cs->qe (zC Z H β') (l.map (Lz n)) cs:=by
   intro l;induction l with
   |nil=>intro cs h;cases cs with
    |nil=>trivial
    |cons _ _=>exact h.elim
   |cons d l ih=>intro cs h;cases cs with
    |nil=>exact h.elim
    |cons c cs=>exact⟨Ly hβ h.1,ih h.2⟩
  exact key h
theorem M2(k:Nat):∀(i:Nat) (rows:List (List FD)),(za k i rows).map (QI n)=za (k+n) i rows
 |_,[]=>rfl
 |i,r::rs=>by simp only [za,jr,M2 k (i+1) rs,QI]
end
theorem uI(n:Nat)(T:Bx)(hT:∀k x,lk T k=some x->k<n):∀(S:Bx) (k:Nat),lk (tE n S T) k=if k<n then lk T k else (lk S (k-n)).map (eZ n)
 |[],k=>by
  simp only [tE,lk];split
  ·rfl
  ·rename_i hk;cases hl:lk T k with
   |none=>rfl
   |some x=>exact absurd (hT k x hl) hk
 |(j,x)::S,k=>by
  simp only [tE,qw];rw [uI n T hT S k];by_cases hk:k<n
  ·rw [if_pos hk,if_pos hk,if_neg (by omega)]
  ·rw [if_neg hk,if_neg hk];by_cases e:j+n=k
   ·rw [if_pos e,if_pos (by omega)];rfl
   ·rw [if_neg e,if_neg (by omega)]
theorem Fs(n:Nat)(T:Bx)(hT:∀k x,lk T k=some x->k<n)(S:Bx)(κ:zP):qR (tE n S T) κ=if κ.1<n then qR T κ else (qR S (κ.1-n,κ.2)).map (eZ n):=by
 obtain⟨k,i⟩:=κ;have hl:=uI n T hT S k;by_cases hk:k<n
 ·rw [if_pos hk] at hl ⊢;exact yK hl
 ·rw [if_neg hk] at hl;simp only [if_neg hk];cases i with
  |zero=>
   simp only [qR,hl];cases hs:lk S (k-n) with
   |none=>rfl
   |some x=>
    cases x with
    |tree rows=>simp only [QA,eZ,M2];rw [Nat.sub_add_cancel (by omega)]
    |cells l=>rfl
    |data l=>rfl
    |mp ks l=>rfl
    |mt es=>
     simp only [QA,eZ];rw [JY (QI n) (k-n) k (fun _=>rfl) (fun i m=>by simp only [QI];rw [Nat.sub_add_cancel (by omega)])]
  |succ i=>
   simp only [qR,hl];cases hs:lk S (k-n) with
   |none=>rfl
   |some x=>
    cases x with
    |tree rows=>
     simp only [QA,eZ];cases rows[i]?<;>rfl
    |cells l=>rfl
    |data l=>rfl
    |mp ks l=>rfl
    |mt es=>
     show XR (vP (QI n) es)[i]?=(XR es[i]?).map (eZ n)
     rw [Vc];cases hm:XR es[i]? with
     |none=>rfl
     |some x=>obtain⟨_,r,_,rfl⟩:=Ya hm;rfl
section
variable{p:Par}{base rs:Nat}{Q:qk->Bx->Nat->Prop}{r:List SOper}{W:Wt}{A:List Nat}{E:qk}{S:Bx}{nk:Nat}{id:Nat}{dst:Option Nat}{aid:Option Nat}{ws:List Nat}{keep:Bool}
theorem zw{f:FuncId}{args:List Opd}{ds:List DV}{R:DV->Bx->Nat->Prop}(hvs:Zx E args=some ds)(hf:xa ZB ds=true)(hc:Ws p.P p.G p.GH f ds R)(h:∀d S' nk',R d S' nk'->DPW p base rs Q r W A (qI E dst (Tf nk d)) (tE nk S' S) (nk'+nk)):DPW p base rs Q (⟨id,dst,.cf f args,none,aid,ws,keep⟩::r) W A E S nk:=.mk fun Z β H F c QP hS hE hC hA=>by
 simp only [qC,qH,if_true];refine (hc H Z _ hS.wf hS.z (fun b bk hb=>hS.glob b bk (.inl hb)) (lV hf (Z5 hE hvs))).monoP ?_;rintro v H' ⟨hnx,hg,d,S',nk',Z',β',hS',hr,hR⟩;have hz1:∀b,Z b->Z' b:=hS'.zz;have hz2:∀b,Z' b->b<H.nx->Z b:=fun b hb hl=>(hS'.zlo b hb).elim (fun h=>h) fun h=>by simp only at h;omega
 have hZ:xb Z H Z' H':=xb.of_get hz1 fun b hb=>hg b (hS.z b hb);let β'':qt:=fun κ=>if κ.1<nk then β κ else β' (κ.1-nk,κ.2)
 have hβ:∀k i,β'' (k+nk,i)=β' (k,i):=fun k i=>by simp only [β'',if_neg (show¬k+nk<nk by omega),bB]
 have hlo:∀κ,κ.1<nk->β'' κ=β κ:=fun κ h=>by simp [β'',h]
 have hhi:∀κ:zP,¬κ.1<nk->β'' κ=β' (κ.1-nk,κ.2):=fun κ h=>by simp [β'',h]
 have hB:xL β β'':=fun κ s hκ=>by rw [hlo κ (hS.lt1 hκ)];exact hκ
 have hT:∀k x,lk S k=some x->k<nk:=fun k x hk=>hS.lt hk;have hnew:∀(κ:zP) x b N,lk S' κ.1=some x->β' κ=some (.blk b N)->(∃y,qR S' κ=some y)->H.nx<=b:=fun κ x b N _ hb ⟨y,hy⟩=>hS'.lo2 hy hb;have hSS:SR p Z' β'' H' (tE nk S' S) (nk'+nk):=by
  refine⟨hS'.wf,aZ hS.lo hnx,hS'.z,fun b hb=>?_,fun b hb=>hz1 b (hS.zz b hb),fun b bk hb=>?_,fun κ hκ=>?_,fun κ b N hκ=>?_,fun κ x hκ=>?_,fun κ κ' x x' b N N' hκ hκ' h1 h2=>?_,fun κ b N hκ=>?_,fun κ hκ h0=>by rw [hlo κ (Qg hκ hS.ancn)];exact hS.anch κ hκ h0,by have:=hS.ancn;omega⟩
  ·rcases hS'.zlo b hb with h|h
   ·exact hS.zlo b h
   ·exact .inr (aZ hS.lo h)
  ·obtain⟨h1,h2⟩:=hS.glob b bk hb;exact⟨hz1 b h1,by rw [hg b (hS.z b h1)];exact h2⟩
  ·rw [hhi κ (by omega)];exact hS'.nk _ (by simp only;omega)
  ·by_cases hk:κ.1<nk
   ·rw [hlo κ hk] at hκ;exact Qg (hS.bd κ b N hκ) hnx
   ·rw [hhi κ hk] at hκ;exact hS'.bd _ b N hκ
  ·rw [Fs nk S hT] at hκ;by_cases hk:κ.1<nk
   ·rw [if_pos hk] at hκ;obtain⟨s,hs,hbx⟩:=hS.box κ x hκ;refine⟨s,hB κ s hs,?_⟩;cases s with
    |nil=>exact hbx
    |blk b N=>
     obtain⟨g1,g2,g3,cs,rest,g4,g5,g6⟩:=hbx;exact⟨fun h=>g1 (hz2 b h g3),g2,oM,cs,rest,g4.same (hg b g3),g5,Bk.rel_mono hZ hB g6⟩
   ·rw [if_neg hk] at hκ;cases hs:qR S' (κ.1-nk,κ.2) with
    |none=>rw [hs] at hκ;cases hκ
    |some y=>
     rw [hs] at hκ;obtain rfl:=zsi hκ;obtain⟨s,hs',hbx⟩:=hS'.box _ y hs;refine⟨s,by rw [hhi κ hk];exact hs',?_⟩;cases s with
     |nil=>cases y<;>simpa [vD,eZ,Bk.len,vP] using hbx
     |blk b N=>
      obtain⟨g1,g2,g3,cs,rest,g4,g5,g6⟩:=hbx;refine⟨g1,aZ hS.lo g2,g3,cs,rest,by rw [n5];exact g4,by rw [n5];exact g5,?_⟩;cases y with
      |cells l=>exact KT hβ g6
      |data l=>exact g6
      |tree l=>exact g6.elim
      |mp ks l=>exact KT hβ g6
      |mt es=>exact g6.elim
  ·rw [uI nk S hT] at hκ hκ';by_cases hk:κ.1<nk
   ·rw [if_pos hk] at hκ;rw [hlo κ hk] at h1;by_cases hk':κ'.1<nk
    ·rw [if_pos hk'] at hκ';rw [hlo κ' hk'] at h2;exact hS.inj κ κ' x x' b N N' hκ hκ' h1 h2
    ·rw [hhi κ' hk'] at h2;exact absurd (hS'.blo _ _ _ h2) fun hge=>by have:=hS.bd κ b N h1;simp only at hge;omega
   ·rw [if_neg hk] at hκ;rw [hhi κ hk] at h1;by_cases hk':κ'.1<nk
    ·rw [hlo κ' hk'] at h2;exact absurd (hS'.blo _ _ _ h1) fun hge=>by have:=hS.bd κ' b N' h2;simp only at hge;omega
    ·rw [if_neg hk'] at hκ';rw [hhi κ' hk'] at h2;cases e1:lk S' (κ.1-nk) with
     |none=>rw [e1] at hκ;cases hκ
     |some z1=>
      cases e2:lk S' (κ'.1-nk) with
      |none=>rw [e2] at hκ';cases hκ'
      |some z2=>
       have:=hS'.inj (κ.1-nk,κ.2) (κ'.1-nk,κ'.2) z1 z2 b N N' e1 e2 h1 h2;obtain⟨q1,q2⟩:=Prod.mk.inj this;obtain⟨a,i⟩:=κ;obtain⟨a',i'⟩:=κ';simp only at hk hk' q1 q2;rw [q2,show a=a' by omega]
  ·by_cases hk:κ.1<nk
   ·rw [hlo κ hk] at hκ;exact hS.blo κ b N hκ
   ·rw [hhi κ hk] at hκ;exact aZ hS.lo (hS'.blo _ b N hκ)
 have hC':=hC.same hZ hB hg hS.wf;refine⟨hC'.watch ws,(h d S' nk' hR).run _ β'' H' _ c QP hSS ((hE.mono hZ hB).set dst (Lw hβ hr)) hC' ⟨hA.1,fun j hj hjA=>?_⟩⟩;obtain⟨h1,h2,h3,h4⟩:=hA.2 j hj hjA;refine⟨by omega,by rw [hg _ h1];exact h2,fun h=>h3 (hz2 _ h h1),fun κ N hκ=>?_⟩;by_cases hk:κ.1<nk
 ·rw [hlo κ hk] at hκ;exact h4 κ N hκ
 ·rw [hhi κ hk] at hκ;have:=hS'.blo _ _ _ hκ;simp only at this;omega
end
end Go.Ab
