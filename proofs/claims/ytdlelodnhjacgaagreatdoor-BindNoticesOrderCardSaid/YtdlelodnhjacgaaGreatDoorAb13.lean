/- -/
import Derived.Test.YtdlelodnhjacgaaGreatDoorAb12
import Derived.Test.YtdlelodnhjacgaaGreatDoorProg
import Derived.KernelRfl
set_option linter.unusedSimpArgs false
set_option linter.unusedVariables false
set_option maxRecDepth 8000
namespace Go.Ab
structure DPS (p:Par) (n:Nat) (s:SC) (Q:Exit->qk->Bx->Nat->Prop) (E:qk) (S:Bx) (nk:Nat):Prop where
 run:∀Z β H F,SR p Z β H S nk->ER Z β H E F->jD p.ρ p.P p.G n s (fun e F' H'=>∃E' S' nk' Z' β',SR p Z' β' H' S' nk'/\ER Z' β' H' E' F'/\Q e E' S' nk') F H
def eV(next:qk->Bx->Nat->Prop)(Q:Exit->qk->Bx->Nat->Prop):Exit->qk->Bx->Nat->Prop
 |.normal,E,S,nk=>next E S nk
 |e,E,S,nk=>Q e E S nk
def CG(id:Nat)(Q:Exit->qk->Bx->Nat->Prop):Exit->qk->Bx->Nat->Prop
 |.exit id',E,S,nk=>match Nat.beq id' id with
  |true=>Q .normal E S nk
  |false=>Q (.exit id') E S nk
 |e,E,S,nk=>Q e E S nk
def rn(ρ:List (Nat × Nat))(k:Nat):Nat:=match lk ρ k with
 |some j=>j
 |none=>k
def Mh(ρ:List (Nat × Nat)):List (Nat × Nat)->List (Nat × Nat)
 |[]=>[]
 |(k,o)::r=>(rn ρ k,o)::Mh ρ r
def oC(ρ:List (Nat × Nat)):DC->DC
 |.ptr k o=>.ptr (rn ρ k) o
 |.tptr k i o=>.tptr (rn ρ k) i o
 |.trow k i o n=>.trow (rn ρ k) i o n
 |.own k o n e=>.own (rn ρ k) o n e
 |.om k=>.om (rn ρ k)
 |.yl k=>.yl (rn ρ k)
 |.fn f caps=>.fn f (Mh ρ caps)
 |d=>d
def fH(ρ:List (Nat × Nat)):List DC->List DC
 |[]=>[]
 |d::l=>oC ρ d::fH ρ l
def Th(ρ:List (Nat × Nat)):DV->DV
 |.one d=>.one (oC ρ d)
 |.agg l=>.agg (fH ρ l)
 |.tup l=>.tup l
def fI(ρ:List (Nat × Nat)):Bk->Bk
 |.cells l=>.cells (fH ρ l)
 |.data l=>.data l
 |.tree l=>.tree l
 |.mp ks l=>.mp ks (fH ρ l)
 |.mt es=>.mt (vP (oC ρ) es)
theorem lL(ρ:List (Nat × Nat)):∀l:List DC,fH ρ l=l.map (oC ρ)
 |[]=>rfl
 |d::l=>by simp only [fH,jr,lL ρ l]
theorem oD(ρ:List (Nat × Nat))(x:Bk):(fI ρ x).shape=x.shape:=by cases x<;>rfl
def Cu(n:Nat):List (Nat × Nat)->Bool
 |[]=>true
 |(k,_)::r=>match Nat.blt k n with
  |true=>Cu n r
  |false=>false
def YS(n:Nat):DC->Bool
 |.ptr k _=>Nat.blt k n
 |.tptr k _ _=>Nat.blt k n
 |.trow k _ _ _=>Nat.blt k n
 |.own k _ _ _=>Nat.blt k n
 |.om k=>Nat.blt k n
 |.yl k=>Nat.blt k n
 |.fn _ caps=>Cu n caps
 |_=>true
def Te(n:Nat):DV->Bool
 |.one d=>YS n d
 |.agg l=>xa (YS n) l
 |.tup l=>xa gB l
def MZ(n:Nat):List (Int × ME)->Bool
 |[]=>true
 |(_,.row _)::es=>MZ n es
 |(_,.out c)::es=>match YS n c with
  |true=>MZ n es
  |false=>false
def Cv(n:Nat):Bk->Bool
 |.cells l=>xa (YS n) l
 |.data _=>true
 |.tree _=>true
 |.mp _ l=>xa (YS n) l
 |.mt es=>MZ n es
def R6(ρ:List (Nat × Nat))(n0:Nat)(E:qk):qk->Prop
 |[]=>True
 |(t,v)::r=>lk E t=some (Th ρ v)/\Te n0 v=true/\R6 ρ n0 E r
def R5(ρ:List (Nat × Nat))(n0:Nat)(S:Bx):Bx->Prop
 |[]=>True
 |(k,x)::r=>lk S (rn ρ k)=some (fI ρ x)/\Cv n0 x=true/\Nat.blt k n0=true/\R5 ρ n0 S r
def lR(ρ:List (Nat × Nat)):Bx->List Nat->Bool
 |[],_=>true
 |(k,_)::r,seen=>match seen.elem (rn ρ k) with
  |true=>false
  |false=>lR ρ r (rn ρ k::seen)
def wF(ρ:List (Nat × Nat))(n0:Nat)(β:qt):qt:=fun κ=>if κ.1<n0 then β (rn ρ κ.1,κ.2) else none
def lE(n0:Nat)(ρ:List (Nat × Nat)):Nat->Bool
 |0=>true
 |a+1=>match Nat.ble (a+1) n0 with
  |true=>xa (fun q=>Nat.ble (a+1) q.1) ρ
  |false=>false
theorem GM{n0:Nat}{ρ:List (Nat × Nat)}{a:Nat}(h:lE n0 ρ a=true):a<=n0:=by
 cases a with
 |zero=>omega
 |succ a=>
  simp only [lE] at h;split at h
  ·rename_i e;exact jP e
  ·cases h
theorem Bq{n0 k:Nat}{ρ:List (Nat × Nat)}{a:Nat}(h:lE n0 ρ a=true)(hk:k<a):rn ρ k=k:=by
 cases a with
 |zero=>omega
 |succ a=>
  simp only [lE] at h;split at h
  ·unfold rn;cases hl:lk ρ k with
   |none=>rfl
   |some j=>
    exfalso;have key:∀l:List (Nat × Nat),xa (fun q=>Nat.ble (a+1) q.1) l=true->lk l k=some j->False:=by
     intro l;induction l with
     |nil=>intro _ h;cases h
     |cons q l ih=>
      intro ha hl;have h1:=yX ha q (by simp);have h1':=jP h1;have h2:xa (fun q:Nat × Nat=>Nat.ble (a+1) q.1) l=true:=by simp only [xa,h1] at ha;exact ha
      obtain⟨q1,q2⟩:=q;rw [qw] at hl;split at hl
      ·simp only at h1';omega
      ·exact ih h2 hl
    exact key ρ h hl
  ·cases h
structure Wk (p:Par) (ρ:List (Nat × Nat)) (n0:Nat) (E0:qk) (S0:Bx) (E:qk) (S:Bx):Prop where
 e:R6 ρ n0 E E0
 s:R5 ρ n0 S S0
 i:lR ρ S0 []=true
 a:lE n0 ρ p.anc=true
theorem R6.at{ρ:List (Nat × Nat)}{n0:Nat}{E:qk}{t:Nat}{v:DV}:∀{E0:qk},R6 ρ n0 E E0->lk E0 t=some v->lk E t=some (Th ρ v)/\Te n0 v=true
 |[],_,h=>by cases h
 |(t',v')::r,hw,h=>by
  rw [qw] at h;split at h
  ·rename_i e;subst e;obtain rfl:=zsi h;exact⟨hw.1,hw.2.1⟩
  ·exact R6.at hw.2.2 h
theorem R5.at{ρ:List (Nat × Nat)}{n0:Nat}{S:Bx}{k:Nat}{x:Bk}:∀{S0:Bx},R5 ρ n0 S S0->lk S0 k=some x->lk S (rn ρ k)=some (fI ρ x)/\Cv n0 x=true/\k<n0
 |[],_,h=>by cases h
 |(t',v')::r,hw,h=>by
  rw [qw] at h;split at h
  ·rename_i e;subst e;obtain rfl:=zsi h;exact⟨hw.1,hw.2.1,jP hw.2.2.1⟩
  ·exact R5.at hw.2.2.2 h
theorem cW{ρ:List (Nat × Nat)}{k:Nat}{x:Bk}:∀{S0:Bx} {seen:List Nat},lR ρ S0 seen=true->lk S0 k=some x->rn ρ k∉seen
 |[],_,_,h=>by cases h
 |(j,y)::r,seen,hi,h=>by
  simp only [lR] at hi;split at hi
  ·cases hi
  ·rename_i e;rw [qw] at h;split at h
   ·rename_i ej;subst ej;exact fun hm=>by rw [List.elem_eq_true_of_mem hm] at e;cases e
   ·exact fun hm=>cW hi h (by simp [hm])
theorem OH{ρ:List (Nat × Nat)}{k k':Nat}{x x':Bk}:∀{S0:Bx} {seen:List Nat},lR ρ S0 seen=true->lk S0 k=some x->lk S0 k'=some x'->rn ρ k=rn ρ k'->k=k'
 |[],_,_,h,_,_=>by cases h
 |(j,y)::r,seen,hi,h,h',e=>by
  simp only [lR] at hi;split at hi
  ·cases hi
  ·rw [qw] at h h';split at h
   ·rename_i ej;subst ej;split at h'
    ·rename_i ej;exact ej
    ·exact absurd (by simp [e]) (cW hi h')
   ·split at h'
    ·rename_i ej;subst ej;exact absurd (by simp [e]) (cW hi h)
    ·exact OH hi h h' e
theorem tP(ρ:List (Nat × Nat))(k:Nat):∀(i:Nat) (rows:List (List FD)),fH ρ (za k i rows)=za (rn ρ k) i rows
 |_,[]=>rfl
 |i,r::rs=>by simp only [za,fH,oC,tP ρ k (i+1) rs]
theorem tC{n k:Nat}(h:k<n):∀(i:Nat) (rows:List (List FD)),xa (YS n) (za k i rows)=true
 |_,[]=>rfl
 |i,r::rs=>by
  have:Nat.blt k n=true:=Ci h;simp only [za,xa,YS,this,tC h (i+1) rs]
theorem tD{n k:Nat}(h:k<n):∀(i:Nat) (es:List (Int × ME)),MZ n es=true->xa (YS n) (Vb k i es)=true
 |_,[],_=>rfl
 |i,(_,.row r)::es,hs=>by
  have:Nat.blt k n=true:=Ci h;simp only [Vb,xa,YS,this,tD h (i+1) es hs]
 |i,(_,.out c)::es,hs=>by
  simp only [MZ] at hs;split at hs
  ·rename_i hc;have e0:∀y:Int,YS n (.f (.c (.int .i64 y)))=true:=fun _=>rfl;simp only [Vb,xa,e0,hc,tD h (i+1) es hs]
  ·cases hs
section
variable{p:Par}{E E0:qk}{S S0:Bx}{nk n0:Nat}{ρ:List (Nat × Nat)}
theorem eR{Z:Nat->Prop}{β:qt}{H:Hp}{F:T V}(hS:SR p Z β H S nk)(hE:ER Z β H E F)(hw:Wk p ρ n0 E0 S0 E S):SR p Z (wF ρ n0 β) H S0 n0/\ER Z (wF ρ n0 β) H E0 F:=by
 have hb0:∀k i,k<n0->wF ρ n0 β (k,i)=β (rn ρ k,i):=fun k i hk=>by simp [wF,hk]
 have hP:∀{l l':List (Nat × Nat)},Cu n0 l=true->ki β (Mh ρ l) l'->ki (wF ρ n0 β) l l':=by
  intro l;induction l with
  |nil=>intro l' _ h;cases l' with
   |nil=>trivial
   |cons _ _=>exact h.elim
  |cons q l ih=>
   obtain⟨k,o⟩:=q;intro l' hs h;simp only [Cu] at hs;split at hs
   ·rename_i hk;cases l' with
    |nil=>exact h.elim
    |cons q' l'=>
     obtain⟨b,o'⟩:=q';exact⟨h.1,by obtain⟨N,hN⟩:=h.2.1;exact⟨N,by rw [hb0 k 0 (jP hk)];exact hN⟩,ih hs h.2.2⟩
   ·cases hs
 have hC:∀d c,YS n0 d=true->RD Z H β (oC ρ d) c->RD Z H (wF ρ n0 β) d c:=fun d c hs hr=>by
  cases d with
  |ptr k o=>obtain⟨b,N,h1,h2⟩:=hr;exact⟨b,N,by rw [hb0 k 0 (jP hs)];exact h1,h2⟩
  |tptr k i o=>obtain⟨b,N,h1,h2⟩:=hr;exact⟨b,N,by rw [hb0 k (i+1) (jP hs)];exact h1,h2⟩
  |trow k i o n=>
   have hk:=jP hs;rcases hr with⟨h1,h2⟩|⟨b,N,cap,ex,h1,h2⟩
   ·exact .inl ⟨by rw [hb0 k (i+1) hk];exact h1,h2⟩
   ·exact .inr ⟨b,N,cap,ex,by rw [hb0 k (i+1) hk];exact h1,h2⟩
  |own k o n e=>
   have hk:=jP hs;rcases hr with⟨h1,h2⟩|⟨b,N,cap,ex,h1,h2⟩
   ·exact .inl ⟨by rw [hb0 k 0 hk];exact h1,h2⟩
   ·exact .inr ⟨b,N,cap,ex,by rw [hb0 k 0 hk];exact h1,h2⟩
  |om k=>obtain⟨b,N,h1,h2⟩:=hr;exact⟨b,N,by rw [hb0 k 0 (jP hs)];exact h1,h2⟩
  |yl k=>obtain⟨b,N,h1,h2⟩:=hr;exact⟨b,N,by rw [hb0 k 0 (jP hs)];exact h1,h2⟩
  |fn f caps=>obtain⟨l',h1,h2⟩:=hr;exact⟨l',h1,hP hs h2⟩
  |_=>exact hr
 have hL:∀{l:List DC} {cs:List C},xa (YS n0) l=true->qe (RD Z H β) (fH ρ l) cs->qe (RD Z H (wF ρ n0 β)) l cs:=by
  intro l;induction l with
  |nil=>intro cs _ h;cases cs with
   |nil=>trivial
   |cons _ _=>exact h.elim
  |cons d l ih=>intro cs ho h;cases cs with
   |nil=>exact h.elim
   |cons c cs=>
    have h1:=yX ho d (by simp);have h2:xa (YS n0) l=true:=by simp only [xa,h1] at ho;exact ho
    exact⟨hC d c h1 h.1,ih h2 h.2⟩
 refine⟨⟨hS.wf,hS.lo,hS.z,hS.zlo,hS.zz,hS.glob,fun k hk=>by simp [wF];omega,fun k b N hk=>?_,fun k x hk=>?_,fun k k' x x' b N N' hk hk' h1 h2=>?_,fun k b N hk=>?_,fun κ hκ hz0=>by rw [hb0 κ.1 κ.2 (Qg hκ (GM hw.a)),Bq hw.a hκ];exact hS.anch κ hκ hz0,GM hw.a⟩,fun t v ht=>?_⟩
 ·by_cases hkn:k.1<n0
  ·rw [hb0 k.1 k.2 hkn] at hk;exact hS.bd _ b N hk
  ·simp [wF,hkn] at hk
 ·obtain⟨y,hy⟩:=ju hk;obtain⟨h1,h2,h3⟩:=hw.s.at hy;obtain⟨j,i⟩:=k;have hk2:qR S (rn ρ j,i)=some (fI ρ x):=by
   simp only at hy h1;cases i with
   |zero=>
    simp only [qR,hy] at hk;simp only [qR,h1];cases y with
    |tree rows=>obtain rfl:=zsi hk;simp only [fI,tP]
    |mp ks l=>obtain rfl:=zsi hk;rfl
    |mt es=>obtain rfl:=zsi hk;simp only [fI,lL];rw [JY (oC ρ) j (rn ρ j) (fun _=>rfl) (fun _ _=>rfl)]
    |cells l=>obtain rfl:=zsi hk;rfl
    |data l=>obtain rfl:=zsi hk;rfl
   |succ i=>
    simp only [qR,hy] at hk;simp only [qR,h1];cases y with
    |tree rows=>
     cases hr:rows[i]? with
     |none=>simp only [hr] at hk;cases hk
     |some r=>simp only [hr] at hk;obtain rfl:=zsi hk;simp only [fI,hr];rfl
    |mp ks l=>cases hk
    |mt es=>
     obtain⟨y',r,e1,rfl⟩:=Ya hk;show XR (vP (oC ρ) es)[i]?=_;rw [Vc,e1];rfl
    |cells l=>cases hk
    |data l=>cases hk
  have hsm:Cv n0 x=true:=by
   simp only at hy;cases i with
   |zero=>
    simp only [qR,hy] at hk;cases y with
    |tree rows=>obtain rfl:=zsi hk;exact tC h3 0 rows
    |mp ks l=>obtain rfl:=zsi hk;exact h2
    |mt es=>obtain rfl:=zsi hk;exact tD h3 0 es h2
    |cells l=>obtain rfl:=zsi hk;exact h2
    |data l=>obtain rfl:=zsi hk;exact h2
   |succ i=>
    simp only [qR,hy] at hk;cases y with
    |tree rows=>
     cases hr:rows[i]? with
     |none=>simp only [hr] at hk;cases hk
     |some r=>simp only [hr] at hk;obtain rfl:=zsi hk;rfl
    |mp ks l=>cases hk
    |mt es=>obtain⟨y',r,e1,rfl⟩:=Ya hk;rfl
    |cells l=>cases hk
    |data l=>cases hk
  obtain⟨s,hs,hbx⟩:=hS.box _ _ hk2;refine⟨s,by rw [hb0 j i h3];exact hs,?_⟩;cases s with
  |nil=>cases x with
   |cells l=>cases l with
    |nil=>rfl
    |cons _ _=>cases hbx
   |data l=>exact hbx
   |tree l=>exact hbx
   |mp ks l=>cases l with
    |nil=>rfl
    |cons _ _=>cases hbx
   |mt es=>cases es with
    |nil=>rfl
    |cons _ _=>cases hbx
  |blk b N=>
   obtain⟨g1,g2,g3,cs,rest,g4,g5,g6⟩:=hbx;refine⟨g1,g2,g3,cs,rest,by rw [oD] at g4;exact g4,by rw [oD] at g5;exact g5,?_⟩;cases x with
   |cells l=>exact hL hsm g6
   |data l=>exact g6
   |tree l=>exact g6
   |mp ks l=>exact hL hsm g6
   |mt es=>exact g6
 ·have k1:=(hw.s.at hk).2.2;have k2:=(hw.s.at hk').2.2;obtain⟨k,i⟩:=k;obtain⟨k',i'⟩:=k';simp only at k1 k2 hk hk';rw [hb0 k i k1] at h1;rw [hb0 k' i' k2] at h2;have:=hS.inj (rn ρ k,i) (rn ρ k',i') _ _ b N N' (hw.s.at hk).1 (hw.s.at hk').1 h1 h2;obtain⟨e1,rfl⟩:=Prod.mk.inj this;rw [OH hw.i hk hk' e1]
 ·by_cases hkn:k.1<n0
  ·rw [hb0 k.1 k.2 hkn] at hk;exact hS.blo _ b N hk
  ·simp [wF,hkn] at hk
 ·obtain⟨h1,h2⟩:=hw.e.at ht;obtain⟨v',hv',hr⟩:=hE t _ h1;refine⟨v',hv',?_⟩;cases v with
  |one d=>obtain⟨c,rfl,hr⟩:=hr;exact⟨c,O,hC d c h2 hr⟩
  |agg l=>obtain⟨c,rfl,hr⟩:=hr;exact⟨c,O,hL h2 hr⟩
  |tup l=>obtain⟨c,rfl,hr⟩:=hr;exact⟨c,O,aF h2 hr⟩
theorem GW{Z:Nat->Prop}{β:qt}{H:Hp}{F:T V}(hS:SR p Z β H S nk)(hE:ER Z β H E F)(hw:Wk p ρ n0 E0 S0 E S):∃β0,SR p Z β0 H S0 n0/\ER Z β0 H E0 F:=⟨_,eR hS hE hw⟩
end
section
variable{p:Par}{n:Nat}{Q:Exit->qk->Bx->Nat->Prop}{E:qk}{S:Bx}{nk:Nat}
theorem Gt{s:SC}{Q':Exit->qk->Bx->Nat->Prop}(h:DPS p n s Q E S nk)(hq:∀e E S nk,Q e E S nk->Q' e E S nk):DPS p n s Q' E S nk:=.mk fun Z β H F hS hE=>jn (h.run Z β H F hS hE) fun e _ _ ⟨E',S',nk',Z',β',h1,h2,h3⟩=>⟨E',S',nk',Z',β',h1,h2,hq e _ _ _ h3⟩
theorem W6{s:SC}{E0:qk}{S0:Bx}{n0:Nat}(ρ:List (Nat × Nat))(hw:Wk p ρ n0 E0 S0 E S)(h:DPS p n s Q E0 S0 n0):DPS p n s Q E S nk:=.mk fun Z β H F hS hE=>by
 obtain⟨β0,h1,h2⟩:=GW hS hE hw;exact h.run Z β0 H F h1 h2
theorem qF{s:SC}(k:Nat){m:List FD}(hk:lk S k=some (.data m))(hoE:y9 (tX k (oJ m)) E)(hoS:y9 (fS k (oJ m)) S)(h:DPS p n s Q (zx (Vq k m) E) (zx (vI k m) (xP k S)) nk):DPS p n s Q E S nk:=.mk fun Z β H F hS hE=>by
 obtain⟨Z',hS',hE',_,_⟩:=OP hS hE hk hoE hoS;exact h.run Z' β H F hS' hE'
theorem kC(h:Q .normal E S nk):DPS p n .skip Q E S nk:=.mk fun Z β H F hS hE=>s5 ⟨E,S,nk,Z,β,hS,hE,h⟩
theorem yW{id:Nat}(h:Q (.exit id) E S nk):DPS p n (.exit id) Q E S nk:=.mk fun Z β H F hS hE=>s7 ⟨E,S,nk,Z,β,hS,hE,h⟩
theorem qb(h:Q .ret E S nk):DPS p n .ret Q E S nk:=.mk fun Z β H F hS hE=>D0 ⟨E,S,nk,Z,β,hS,hE,h⟩
theorem yv(hm:p.P.follows .mixedOrders=true){l:List SOper}{rs:Nat}{st:Bool}(h:∀base,DPW p base rs (Q .normal) l [] [] E S nk):DPS p n (.ops l rs st) Q E S nk:=.mk fun Z β H F hS hE=>by
 refine D3 hm ((h H.nx).run Z β (H.skip rs) F [] _ ?_ (ER.mono (H:=H) (H':=H.skip rs) (xb.of_get (fun _ h=>h) fun _ _=>O) (xL.refl β) hE) (fun x hx=>by cases hx) ⟨hS.lo,fun j hj _=>⟨by simp;omega,hS.wf.fresh (by omega),fun hz=>absurd (hS.z _ hz) (by omega),fun k N hk=>absurd (hS.bd k _ N hk) (by omega)⟩⟩);exact⟨hS.wf.skip rs,by simp;have:=hS.lo;omega,fun b hb=>by simp;have:=hS.z b hb;omega,hS.zlo,hS.zz,hS.glob,hS.nk,fun k b N hk=>by simp;have:=hS.bd k b N hk;omega,fun k x hk=>by
  obtain⟨s,hs,hbx⟩:=hS.box k x hk;exact⟨s,hs,vD.mono (H:=H) (H':=H.skip rs) (xL.refl β) (by simp) (fun _ _=>rfl) hbx⟩,hS.inj,hS.blo,hS.anch,hS.ancn⟩
theorem Es{Z:Nat->Prop}{β:qt}{H:Hp}(hS:SR p Z β H S nk)(rs:Nat):SR p Z β (H.skip rs) S nk:=
 ⟨hS.wf.skip rs,by simp;have:=hS.lo;omega,fun b hb=>by simp;have:=hS.z b hb;omega,hS.zlo,hS.zz,hS.glob,hS.nk,fun k b N hk=>by simp;have:=hS.bd k b N hk;omega,fun k x hk=>by
  obtain⟨s,hs,hbx⟩:=hS.box k x hk;exact⟨s,hs,vD.mono (H:=H) (H':=H.skip rs) (xL.refl β) (by simp) (fun _ _=>O) hbx⟩,hS.inj,hS.blo,hS.anch,hS.ancn⟩
theorem pB{Z:Nat->Prop}{β:qt}{H:Hp}{F:T V}(hS:SR p Z β H S nk)(hE:ER Z β H E F){l:List SOper}{rs:Nat}{Q:qk->Bx->Nat->Prop}{QP:Hp->Prop}(h:DPW p H.nx rs Q l [] [] E S nk):
 qC p.P p.G H.nx QP (fun F' H'=>∃E' S' nk' Z' β',SR p Z' β' H' S' nk'/\ER Z' β' H' E' F'/\Q E' S' nk') l [] F (H.skip rs):=
 h.run Z β (H.skip rs) F [] _ (Es hS rs) (ER.mono (H:=H) (H':=H.skip rs) (xb.of_get (fun _ h=>h) fun _ _=>rfl) (xL.refl β) hE) (fun x hx=>by cases hx) ⟨hS.lo,fun j hj _=>⟨by simp;omega,hS.wf.fresh (by omega),fun hz=>absurd (hS.z _ hz) (by omega),fun k N hk=>absurd (hS.bd k _ N hk) (by omega)⟩⟩
theorem Ob(hm:p.P.follows .mixedOrders=true){a b:List SOper}{sa sb:Bool}{rs:Nat}(h1:∀base,DPW p base rs (Q .normal) a [] [] E S nk)(h2:∀base,DPW p base rs (Q .normal) b [] [] E S nk):DPS p n (.op2 a sa b sb rs) Q E S nk:=.mk fun Z β H F hS hE=>Eo hm (pB hS hE (h1 H.nx)) (pB hS hE (h2 H.nx))
theorem yn{a b:SC}(h:DPS p n a (eV (DPS p n b Q) Q) E S nk):DPS p n (.seq a b) Q E S nk:=.mk fun Z β H F hS hE=>DZ (jn (h.run Z β H F hS hE) fun e F' H' ⟨E',S',nk',Z',β',h1,h2,h3⟩=>by
 cases e with
 |normal=>exact h3.run Z' β' H' F' h1 h2
 |_=>exact⟨E',S',nk',Z',β',h1,h2,h3⟩)
theorem qd{d:Opd}{a b:SC}{t:Bool}(ht:ro E d=some (.bool t))(h1:t=true->DPS p n a Q E S nk)(h2:t=false->DPS p n b Q E S nk):DPS p n (.cond d a b) Q E S nk:=.mk fun Z β H F hS hE=>by
 refine s8 (t:=t) (xj hE ht) ?_;cases t with
 |true=>exact (h1 O).run Z β H F hS hE
 |false=>exact (h2 O).run Z β H F hS hE
theorem jT{id:Nat}{a:SC}(h:DPS p n a (CG id Q) E S nk):DPS p n (.block id a) Q E S nk:=.mk fun Z β H F hS hE=>n3 (jn (h.run Z β H F hS hE) fun e F' H' ⟨E',S',nk',Z',β',h1,h2,h3⟩=>by
 cases e with
 |exit id'=>
  simp only [CG] at h3;simp only [lD];by_cases e:id'=id
  ·subst e;rw [vf] at h3;rw [if_pos rfl];exact⟨E',S',nk',Z',β',h1,h2,h3⟩
  ·rw [wS e] at h3;rw [if_neg e];exact⟨E',S',nk',Z',β',h1,h2,h3⟩
 |_=>exact⟨E',S',nk',Z',β',h1,h2,h3⟩)
theorem qu{a:SC}(I:Nat->qk->Bx->Nat->Prop)(h0:∃m E0 S0 n0 ρ,Wk p ρ n0 E0 S0 E S/\I m E0 S0 n0)(round:∀m E S nk,I m E S nk->DPS p n a (eV (fun E' S' _=>∃m',m'<m/\∃E0 S0 n0 ρ,Wk p ρ n0 E0 S0 E' S'/\I m' E0 S0 n0) Q) E S nk):DPS p n (.loop a) Q E S nk:=.mk fun Z β H F hS hE=>by
 obtain⟨m,E0,S0,n0,ρ,hw,hI⟩:=h0;obtain⟨β0,g1,g2⟩:=GW hS hE hw;refine s6 (fun m F H=>∃E S nk Z β,SR p Z β H S nk/\ER Z β H E F/\I m E S nk) (m:=m) ⟨E0,S0,n0,Z,β0,g1,g2,hI⟩ ?_;rintro m F H ⟨E,S,nk,Z,β,hS,hE,hI⟩;refine jn ((round m E S nk hI).run Z β H F hS hE) fun e F' H' ⟨E',S',nk',Z',β',h1,h2,h3⟩=>?_;cases e with
 |normal=>
  obtain⟨m',hm',E1,S1,n1,ρ1,hw1,hI1⟩:=h3;obtain⟨β1,g1,g2⟩:=GW h1 h2 hw1;exact⟨m',hm',E1,S1,n1,Z',β1,g1,g2,hI1⟩
 |_=>exact⟨E',S',nk',Z',β',h1,h2,h3⟩
theorem XF{s:SC}(k:Nat){rows:List (List FD)}(hk:lk S k=some (.tree rows))(hoE:y9 (tX k (EK rows)) E)(hoS:y9 (fS k (EK rows)) S)(h:DPS p n s Q (zx (Vq k (rows.map xn)) E) (zx (vI k (rows.map xn)) (xP k S)) nk):DPS p n s Q E S nk:=.mk fun Z β H F hS hE=>by
 obtain⟨Z',hS',hE',_,_⟩:=E3 hS hE hk hoE hoS;exact h.run Z' β H F hS' hE'
theorem PC{s:SC}(t esz:Nat)(ht:lk E t=some (.one (.f (.c .nils))))(h:DPS p n s Q ((t,.one (.f (.sl esz 0 [])))::E) S nk):DPS p n s Q E S nk:=.mk fun Z β H F hS hE=>by
 refine h.run Z β H F hS fun k d hd=>?_;rw [qw] at hd;split at hd
 ·rename_i e;subst e;obtain rfl:=zsi hd;obtain⟨v,hv,c,rfl,hr⟩:=hE _ _ ht;cases hr;exact⟨_,hv,_,O,RF.nil esz⟩
 ·exact hE k d hd
end
def jC:List DV->Nat->qk
 |[],_=>[]
 |d::l,i=>(i,d)::jC l (i+1)
theorem Yx{Z:Nat->Prop}{β:qt}{H:Hp}:∀{ds:List DV} {args:List V} (i:Nat),qe (xi Z H β) ds args->ER Z β H (jC ds i) (ke args i)
 |[],[],_,_=>fun _ _ h=>by cases h
 |d::ds,v::args,i,h=>fun n x hx=>by
  simp only [jC,qw] at hx;simp only [ke,T.get_set];split at hx
  ·rename_i e;subst e;rw [if_pos rfl];obtain rfl:=zsi hx;exact⟨v,O,h.1⟩
  ·rename_i e;rw [if_neg (fun h=>e h.symm)];exact Yx (i+1) h.2 n x hx
 |[],_::_,_,h=>h.elim
 |_::_,[],_,h=>h.elim
def HC(p:Par)(E:qk)(S:Bx):SRes->Option DV
 |.t n=>lk E n
 |.cell agg k n=>jB p E S agg k (.t n)
def YY(p:Par)(E:qk)(S:Bx):List SRes->Option (List DV)
 |[]=>some []
 |r::l=>match HC p E S r,YY p E S l with
  |some d,some ds=>some (d::ds)
  |_,_=>none
def j3(p:Par)(E:qk)(S:Bx)(rs:List SRes):Option DV:=match YY p E S rs with
 |some [.one c]=>some (.one c)
 |some [.agg l]=>some (.agg l)
 |some [.tup _]=>none
 |some ds=>some (.tup ds)
 |none=>none
def Vk:DV->Bool
 |.tup _=>false
 |_=>true
section
variable{p:Par}{E:qk}{S:Bx}{nk:Nat}
theorem ED{Z:Nat->Prop}{β:qt}{H:Hp}{F:T V}(hS:SR p Z β H S nk)(hE:ER Z β H E F){r:SRes}{d:DV}(h:HC p E S r=some d):∃v,CQ F H r=some v/\xi Z H β d v:=by
 cases r with
 |t n=>obtain⟨v,hv,hr⟩:=hE n d h;exact⟨v,by simp [CQ,hv],hr⟩
 |cell agg k n=>obtain⟨v,hv,hr,_⟩:=dV hS hE h;exact⟨v,hv,xi.of1 hr⟩
theorem Nn{Z:Nat->Prop}{β:qt}{H:Hp}{d:DV}{v:V}(hr:xi Z H β d v)(hd:gB d=true):Y8 v=true/\zC Z H β d v:=by
 cases d with
 |one d=>obtain⟨c,rfl,hr⟩:=hr;exact⟨O,c,O,hr⟩
 |agg l=>obtain⟨c,rfl,hr⟩:=hr;exact⟨O,c,O,hr⟩
 |tup l=>cases hd
theorem cH{Z:Nat->Prop}{β:qt}{H:Hp}{F:T V}(hS:SR p Z β H S nk)(hE:ER Z β H E F):∀{l:List SRes} {ds:List DV},YY p E S l=some ds->xa gB ds=true->∃vs,Q0 F H l=some vs/\qe (zC Z H β) ds vs
 |[],ds,h,_=>by obtain rfl:=zsi h;exact⟨[],O,trivial⟩
 |r::l,ds,h,hf=>by
  simp only [YY] at h;split at h
  ·rename_i d q h1 h2;obtain rfl:=zsi h;have f1:=yX hf d (by simp);have f2:xa gB q=true:=by simp only [xa,f1] at hf;exact hf
   obtain⟨v,e1,e2⟩:=ED hS hE h1;obtain⟨vs,e3,e4⟩:=cH hS hE h2 f2;obtain⟨o1,o2⟩:=Nn e2 f1;exact⟨v::vs,by simp only [Q0,e1,e3,o1,if_true],o2,e4⟩
  ·cases h
theorem HB{Z:Nat->Prop}{β:qt}{H:Hp}{F:T V}(hS:SR p Z β H S nk)(hE:ER Z β H E F){rs:List SRes}{d:DV}(h:j3 p E S rs=some d)(hf:ZB d=true):∃v,yk F H rs=some v/\xi Z H kx d v:=by
 unfold j3 at h;have one:∀d',YY p E S rs=some [d']->gB d'=true->∃v,yk F H rs=some v/\xi Z H kx d' v:=fun d' hd' hf'=>by
  obtain⟨vs,h1,h2⟩:=cH hS hE hd' (by simp [xa,hf'])
  match vs,h1,h2 with
  |[v],h1,h2=>exact⟨v,by simp only [yk,h1],xi.of1 (OQ hf' h2.1)⟩
 split at h
 ·rename_i c hd';obtain rfl:=zsi h;exact one _ hd' hf
 ·rename_i l hd';obtain rfl:=zsi h;exact one _ hd' hf
 ·cases h
 ·rename_i ds hn1 hn2 hn3 hds;obtain rfl:=zsi h;obtain⟨vs,h1,h2⟩:=cH hS hE hds hf;refine⟨.tup vs,?_,vs,O,aF hf h2⟩;have hl:=h2.len;unfold yk;rw [h1]
  match vs,hl with
  |[],_=>rfl
  |[v],hl=>
   match ds,hl with
   |[.one d],_=>exact (hn1 d O).elim
   |[.agg d],_=>exact (hn2 d O).elim
   |[.tup d],_=>exact (hn3 d O).elim
  |_::_::_,_=>rfl
 ·cases h
end
def Jt(p:Par)(rs:List SRes)(R:DV->Prop):Exit->qk->Bx->Nat->Prop
 |.normal,E,S,_=>∃d,j3 p E S rs=some d/\ZB d=true/\R d
 |.ret,E,S,_=>∃d,j3 p E S rs=some d/\ZB d=true/\R d
 |_,_,_,_=>False
theorem je{P:Program}{G:Nat}{GH:Hp}{f:FuncId}{sf:SFn}(hf:yr P G f=some sf){ds:List DV}{R:DV->Prop}(hn:Nat.ble ds.length sf.n=true)(hG:∀b bk,GH.get b=some bk->bk.ro=some bk)(h:∀Z0 lo,DPS (Par.base P G GH Z0 lo) sf.n sf.code (Jt (Par.base P G GH Z0 lo) sf.res R) (jC ds 0) [] 0):yR P G GH f ds R:=by
 intro H Z args hw hz hg ha;have hro:xc P G f args H.ro fun v H1=>WF H1/\H.nx<=H1.nx/\∃d Z1,(∀b,Z1 b->Z b\/H.nx<=b)/\(∀b,Z1 b->b<H1.nx)/\xi Z1 H1 kx d v/\R d:=by
  have hwr:WF H.ro:=fun b bk hb=>by
   rw [Hp.get_ro,JJ] at hb;obtain⟨x,hx,_⟩:=hb;exact hw b x hx
  refine (aH hf (by rw [<-ha.len];exact jP hn) ?_);have hS:SR (Par.base P G GH Z H.nx) Z kx H.ro [] 0:=⟨hwr,qz _,hz,fun b hb=>.inl hb,fun b hb=>hb,fun b bk hb=>(by rcases hb with hb|⟨_,hb⟩;exact⟨(hg b bk hb).1,by rw [Hp.get_ro,(hg b bk hb).2];exact hG b bk hb⟩;cases hb),fun _ _=>rfl,fun _ _ _ hk=>(by cases hk),fun κ x hk=>(by obtain⟨y,hy⟩:=ju hk;cases hy),fun _ _ _ _ _ _ _ hk=>(by cases hk),fun _ _ _ hk=>(by cases hk),fun _ _ _=>rfl,qz _⟩
  have hE:ER Z kx H.ro (jC ds 0) (ke args 0):=Yx 0 (ha.mono fun _ _ hr=>xi.mono (xb.of_le (fun _ h=>h) (Le.ro H)) (xL.refl kx) hr);refine jn ((h Z H.nx).run Z kx H.ro _ hS hE) fun e F' H' ⟨E',S',nk',Z',β',h1,h2,h3⟩=>?_;have fin:(∃d,j3 (Par.base P G GH Z H.nx) E' S' sf.res=some d/\ZB d=true/\R d)->∃v,yk F' H' sf.res=some v/\WF H'/\H.nx<=H'.nx/\∃d Z1,(∀b,Z1 b->Z b\/H.nx<=b)/\(∀b,Z1 b->b<H'.nx)/\xi Z1 H' kx d v/\R d:=fun⟨d,hd,hfr,hR⟩=>by
   obtain⟨v,hv,hr⟩:=HB h1 h2 hd hfr;exact⟨v,hv,h1.wf,h1.lo,d,Z',h1.zlo,h1.z,hr,hR⟩
  cases e with
  |normal=>obtain⟨v,hv,hr⟩:=fin h3;simp only [Z6,hv];exact hr
  |ret=>obtain⟨v,hv,hr⟩:=fin h3;simp only [Z6,hv];exact hr
  |_=>exact h3.elim
 refine (xc.none (xc.wf (xc.grow hro))).mono ?_;rintro v H' ⟨⟨⟨H1,⟨w1,n1,d,Z1,z1,z2,hr,hR⟩,e1,e2,e3,e4,e5⟩,hw'⟩,hno⟩;have hnx:H'.nx=H1.nx:=by rw [e1];rfl
 refine⟨hw',by omega,fun b hb=>?_,d,hr.mono (xb.of_le (fun b hb=>?_) e5) (xL.refl kx),hR⟩
 ·cases hgb:H.get b with
  |none=>exact hno b hb hgb
  |some bk=>exact e3 b bk hgb
 ·rcases z1 b hb with h|h
  ·exact .inl h
  ·exact .inr ⟨h,by rw [hnx];exact z2 b hb⟩
def wV{α:Type}(E0 E:List (Nat × α)):Prop:=∀k v,lk E0 k=some v->lk E k=some v
theorem qv{α:Type}(E:List (Nat × α)):wV [] E:=fun _ _ h=>by cases h
theorem wC{α:Type}(E:List (Nat × α)):wV E E:=fun _ _ h=>h
theorem qg{α:Type}{E0 E:List (Nat × α)}{k:Nat}{v:α}(h:lk E k=some v)(hr:wV E0 E):wV ((k,v)::E0) E:=fun n x hx=>by
 rw [qw] at hx;split at hx
 ·rename_i e;subst e;rw [h];exact hx
 ·exact hr n x hx
section
variable{p:Par}{n:Nat}{Q:Exit->qk->Bx->Nat->Prop}{E E0:qk}{S S0:Bx}{nk:Nat}
theorem EU{Z:Nat->Prop}{β:qt}{H:Hp}{F:T V}(hS:SR p Z β H S nk)(hE:ER Z β H E F)(h1:wV E0 E)(h2:wV S0 S):SR p Z β H S0 nk/\ER Z β H E0 F:=
 ⟨hS.keepS h2,fun t d ht=>hE t d (h1 t d ht)⟩
theorem qx{s:SC}(h1:wV E0 E)(h2:wV S0 S)(h:DPS p n s Q E0 S0 nk):DPS p n s Q E S nk:=.mk fun Z β H F hS hE=>by
 obtain⟨g1,g2⟩:=EU hS hE h1 h2;exact h.run Z β H F g1 g2
end
section
variable{p:Par}{base rs:Nat}{Q:qk->Bx->Nat->Prop}{l:List SOper}{W:Wt}{A:List Nat}{E E0:qk}{S S0:Bx}{nk:Nat}
theorem FH(h1:wV E0 E)(h2:wV S0 S)(h:DPW p base rs Q l W A E0 S0 nk):DPW p base rs Q l W A E S nk:=.mk fun Z β H F c QP hS hE hC hA=>by
 obtain⟨g1,g2⟩:=EU hS hE h1 h2;exact h.run Z β H F c QP g1 g2 hC hA
end
section
variable{p:Par}{base rs:Nat}{Q:qk->Bx->Nat->Prop}{r:List SOper}{W:Wt}{A:List Nat}{E:qk}{S:Bx}{nk:Nat}{id:Nat}{dst:Option Nat}{aid:Option Nat}{ws:List Nat}{keep:Bool}
theorem IC{op:PureOp}{t b:Bool}(hd:zj E op=some (.bool t))(ht:t=b)(h:DPW p base rs Q r W A (qI E dst (.bool b)) S nk):DPW p base rs Q (⟨id,dst,.p op,none,aid,ws,keep⟩::r) W A E S nk:=zi hd (ht▸h)
end
theorem qm{n:Int}(h1: -9223372036854775808<=n)(h2:n<9223372036854775808):IntKind.i64.wrap n=n:=by
 simp [IntKind.wrap,IntKind.signed,IntKind.bits];split<;>omega
theorem E9{Z:Nat->Prop}{H:Hp}{β:qt}:∀{ds:List DV} {vs args:List V},qe (fun d v=>Je d=some v) ds vs->qe (xi Z H β) ds args->args=vs
 |[],[],[],_,_=>rfl
 |_::_,_::_,_::_,h,hr=>by rw [OX h.1 hr.1,E9 h.2 hr.2]
 |[],_::_,_,h,_=>h.elim
 |_::_,[],_,h,_=>h.elim
 |[],[],_::_,_,hr=>hr.elim
 |_::_,_::_,[],_,hr=>hr.elim
theorem yR.of_pure{P:Program}{G:Nat}{GH:Hp}{f:FuncId}{ds:List DV}{vs:List V}{c:C}(hex:qe (fun d v=>Je d=some v) ds vs)(hc:c.closed=true)(h:∀H,(∀b bk,GH.get b=some bk->H.get b=some bk)->xc P G f vs H fun v H'=>v=.one c/\H'=H):yR P G GH f ds fun d=>d=.one (.f (.c c)):=fun H Z args hw hz hg ha=>by
 rw [E9 hex ha];refine (h H fun b bk hb=>(hg b bk hb).2).mono ?_;rintro v H' ⟨rfl,rfl⟩;exact⟨hw,qz _,fun _ _=>O,_,yg hc,O⟩
theorem oM{P:Prop}(h:P:=by omega):P:=h
theorem aM{P:Prop}(h:P:=by assumption):P:=h
theorem Ds{n:Int}(h1: -9223372036854775808≤n)(h2:n<9223372036854775808):some (DV.int (IntKind.i64.wrap n))=some (DV.int n):=congrArg (fun z=>some (DV.int z)) (qm h1 h2)
theorem cgD{x y:List FD}(h:x=y):some (Bk.data x)=some (Bk.data y):=congrArg (fun z=>some (Bk.data z)) h
theorem qs{P:Prop}(h:P:=by exact⟨by repeat (first|exact trivial|refine⟨by first|rfl|exact Ds (by omega) (by omega),rfl,?_⟩),by repeat (first|exact trivial|refine⟨by first|rfl|exact cgD (by assumption),rfl,rfl,?_⟩),rfl,rfl⟩):P:=h
theorem Xb{P:Prop}(h:P:=by repeat (first|exact trivial|refine⟨by first|rfl|exact Ds (by omega) (by omega),rfl,?_⟩)):P:=h
theorem qo{P:Prop}(h:P:=by repeat' (first|exact trivial|rfl|assumption|refine⟨?_,?_⟩)):P:=h
theorem Qv{P:Prop}(h:P:=by first|exact fun _=>O|exact fun h=>(by simp only [if_pos h];rfl)|exact fun h=>(by simp only [h,if_true,if_false];rfl)):P:=h
end Go.Ab
namespace Go.Ai
open Go.Ab
abbrev L:=List SOper
abbrev qJ(a b c:Nat):SOper:=⟨a,some b,.p (.mv (.t c)),none,none,[],false⟩
abbrev ji(a b c:Nat):SOper:=⟨a,some b,.l (.load false 1 (.t c)),none,none,[],false⟩
abbrev kO(a b c d:Nat):SOper:=⟨a,some b,.p (.mv (.t c)),(some (d,true)),none,[],false⟩
abbrev vA(a b c d:Nat):SOper:=⟨a,some b,.p (.faddr c (.t d)),none,none,[],false⟩
abbrev Q8(a b c d:Nat):SOper:=⟨a,none,.e (.store b (.t c) (.t d)),none,none,[],false⟩
abbrev YM(a b c d:Nat):SOper:=⟨a,some b,.p (.pick (.t c) (.t d) (.c (.one (.bool false)))),none,none,[],false⟩
abbrev eG(a b c:Nat):SOper:=⟨a,some b,.a (.bslice 2 1 [(.int .i64 0),(.int .i64 0)] [(0,2,(.t c))]),none,none,[],false⟩
abbrev bA(a b c:Nat):SOper:=⟨a,some b,.p (.bin .add (.t c) (.c (.one (.int .i64 1)))),none,none,[],false⟩
abbrev eF(a b c:Nat):SOper:=⟨a,some b,.p (.bin .rem (.t c) (.c (.one (.int .u8 4)))),none,none,[],false⟩
abbrev nH(a b:Nat)(c:Int)(d:Nat):SOper:=⟨a,some b,.p (.build [(.int .i64 0),(.int .i64 0)] [(0,1,(.c (.one (.int .i64 c)))),(1,1,(.t d))]),none,none,[],false⟩
abbrev sN(a b c d:Nat):SOper:=⟨a,some b,.p (.bin .sub (.t c) (.c (.one (.int .i64 1)))),(some (d,true)),none,[],false⟩
abbrev Ku(a b c:Nat):SOper:=⟨a,some b,.p (.len (.t c)),none,none,[],false⟩
abbrev KL(a b c:Nat):SOper:=⟨a,some b,.p (.conv .i64 (.t c)),none,none,[],false⟩
abbrev LO(a b:Nat)(c:Int):SOper:=⟨a,some b,.p (.mv (.c (.one (.int .i64 c)))),none,none,[],false⟩
abbrev nG(a b:Nat)(c:Int):SOper:=⟨a,some b,.p (.aaddr 2 1 (.t 8) (.c (.one (.int .i64 c)))),none,none,[],false⟩
abbrev nF(a b c d:Nat):SOper:=⟨a,some b,.e (.append 2 16 (.t c) (.t d)),none,none,[],false⟩
abbrev sL(a b c:Nat):SOper:=⟨a,some b,.p (.bin .gtr (.t c) (.c (.one (.int .i64 0)))),none,none,[],false⟩
abbrev sK(a b c:Nat):SOper:=⟨a,some b,.p (.bin .sub (.t c) (.c (.one (.int .i64 1)))),none,none,[],false⟩
abbrev nE(a b c:Nat)(d:Int):SOper:=⟨a,some b,.p (.bin .eql (.t c) (.c (.one (.int .u8 d)))),none,none,[],false⟩
abbrev nD(a b c d:Nat):SOper:=⟨a,some b,.p (.bin .lss (.t c) (.t d)),none,none,[],false⟩
abbrev LN(a b c d e:Nat):SOper:=⟨a,some b,.p (.iaddr c (.t d) (.t e)),none,none,[],false⟩
abbrev LM(a b c:Nat):SOper:=⟨a,some b,.l (.load true 2 (.t c)),none,none,[],false⟩
abbrev Cc(a b c d:Nat):SOper:=⟨a,some b,.p (.slen (.t c)),(some (d,true)),none,[],false⟩
abbrev Iw(a b:Nat)(c:Int)(d:Nat):SOper:=⟨a,some b,.p (.bin .add (.c (.one (.int .i64 c))) (.t d)),none,none,[],false⟩
abbrev Iv(a b:Nat)(c:Int):SOper:=⟨a,none,.e (.store 1 (.t b) (.c (.one (.int .i64 c)))),none,none,[],false⟩
abbrev Cb(a b c:Nat):SOper:=⟨a,some b,.p (.slen (.t c)),none,none,[],false⟩
abbrev Iu(a b c d:Nat):SOper:=⟨5,some a,.cf b [(.t c),(.t d)],none,none,[],false⟩
abbrev Tc(a:Nat):SOper:=⟨0,some a,.a (.bslice 2 0 [(.int .i64 0),(.int .i64 0)] []),none,none,[],false⟩
abbrev Tb(a b c:Nat)(d:Int):SOper:=⟨a,some b,.p (.bin .quo (.t c) (.c (.one (.int .u8 d)))),none,none,[],false⟩
abbrev Ta(a b c d:Nat):SOper:=⟨8,some a,.p (.bin .lss (.t b) (.t c)),(some (d,true)),none,[],false⟩
abbrev Sz(a b c d:Nat):SOper:=⟨a,some b,.p (.iaddr 2 (.t c) (.t d)),(some (24,true)),none,[],false⟩
abbrev Sy(a b c:Nat):SOper:=⟨a,some b,.l (.load true 2 (.t c)),(some (24,true)),none,[],false⟩
abbrev Sx(a:Nat):SOper:=⟨a,none,.e (.store 1 (.t 2) (.c (.one .nils))),none,none,[],false⟩
abbrev Sw(a:Nat):SOper:=⟨a,some 4,.p (.mv (.c (.one (.bool false)))),none,none,[],false⟩
abbrev Sv(a b:Nat):SOper:=⟨a,some b,.a (.alloc [(.int .i64 0)]),none,none,[],false⟩
abbrev Su(a:Nat):SOper:=⟨a,some 2,.p (.mv (.c (.one .nils))),none,none,[],false⟩
def rC:L:=[⟨0,some 6,.p (.mv (.c (.one (.str ⟨#[]⟩)))),none,none,[],false⟩]
def rB:L:=[⟨0,some 7,.p (.mv (.c (.one (.str ⟨#[]⟩)))),none,none,[],false⟩]
def rA:L:=[LO 0 8 0]
def p9:L:=[qJ 0 10 8,qJ 1 11 0,Ku 2 12 11,nD 3 13 10 12,qJ 4 14 13,kO 5 15 7 14,Cc 6 16 15 14,kO 7 17 1 14,Ta 18 16 17 14,YM 9 19 14 18]
def p8:L:=[qJ 0 22 0,qJ 1 23 8,LN 2 24 1 22 23,ji 3 25 24,KL 4 26 25,qJ 5 27 2,Cb 6 28 27,bA 7 29 28,⟨8,some 30,.p (.bin .rem (.t 26) (.t 29)),none,none,[],false⟩,qJ 9 9 30]
def p7:L:=[qJ 0 31 9,sL 1 32 31]
def p6:L:=[qJ 0 33 7,qJ 1 34 2,qJ 2 35 9,sK 3 36 35,qJ 4 37 9,⟨5,some 38,.p (.sslice (.t 34) (some (.t 36)) (some (.t 37))),none,none,[],false⟩,⟨6,some 39,.p (.scat (.t 33) (.t 38)),none,none,[],false⟩,qJ 7 7 39]
def p0:L:=[qJ 0 40 7,Cb 1 41 40,sL 2 42 41,qJ 3 43 42,kO 4 44 7 43,Cc 5 45 44 43,kO 6 46 1 43,sN 7 47 46 43,Ta 48 45 47 43,YM 9 49 43 48,qJ 10 50 49,kO 11 51 7 50,kO 12 52 7 50,Cc 13 53 52 50,sN 14 54 53 50,⟨15,some 55,.p (.sindex (.t 51) (.t 54)),(some (50,true)),none,[],false⟩,⟨16,some 56,.p (.bin .neq (.t 55) (.c (.one (.int .u8 32)))),(some (50,true)),none,[],false⟩,YM 17 57 50 56]
def pZ:L:=[qJ 0 58 7,⟨1,some 59,.p (.scat (.t 58) (.c (.one (.str ⟨#[32]⟩)))),none,none,[],false⟩,qJ 2 7 59]
def pY:L:=[qJ 0 20 8,bA 1 21 20,qJ 2 8 21]
def rD:SC:=(.seq (.seq (.ops p9 0 true) (.cond (.t 19) .skip (.exit 0))) (.seq (.block 1 (.seq (.ops p8 0 true) (.seq (.ops p7 0 true) (.cond (.t 32) (.ops p6 0 true) (.seq (.ops p0 0 true) (.cond (.t 57) (.ops pZ 0 true) .skip)))))) (.ops pY 0 true)))
def J7:L:=[qJ 0 60 7,Cb 1 61 60,sL 2 62 61,qJ 3 63 62,kO 4 64 7 63,kO 5 65 7 63,Cc 6 66 65 63,sN 7 67 66 63,⟨8,some 68,.p (.sindex (.t 64) (.t 67)),(some (63,true)),none,[],false⟩,⟨9,some 69,.p (.bin .eql (.t 68) (.c (.one (.int .u8 32)))),(some (63,true)),none,[],false⟩,YM 10 70 63 69]
def J6:L:=[qJ 0 71 7,qJ 1 72 7,Cb 2 73 72,sK 3 74 73,⟨4,some 75,.p (.sslice (.t 71) none (some (.t 74))),none,none,[],false⟩,qJ 5 7 75]
def J5:L:=[qJ 0 76 7,⟨1,some 77,.p (.seq false (.t 76) (.c (.one (.str ⟨#[]⟩)))),none,none,[],false⟩]
def J4:L:=[qJ 0 78 2,⟨1,some 79,.p (.sslice (.t 78) none (some (.c (.one (.int .i64 1))))),none,none,[],false⟩,qJ 2 6 79]
def J3:L:=[qJ 0 80 7,qJ 1 6 80]
def AC:SC:=(.seq (.ops rC 0 true) (.seq (.ops rB 0 true) (.seq (.seq (.ops rA 0 true) (.block 0 (.loop rD))) (.seq (.seq (.ops J7 0 true) (.cond (.t 70) (.ops J6 0 true) .skip)) (.seq (.seq (.ops J5 0 true) (.cond (.t 77) (.seq (.ops J4 0 true) .ret) .skip)) (.seq (.ops J3 0 true) .ret))))))
def W4:SFn:=⟨81,AC,[.t 6]⟩
def rN:L:=[⟨0,some 1,.a (.box (.t 0)),none,none,[],false⟩,Su 1]
def rM:L:=[⟨0,some 10,.p (.build [(.int .i64 0),(.int .i64 0)] [(0,1,(.c (.one (.int .i64 6))))]),none,none,[],false⟩,eG 1 11 10,qJ 2 3 11,LO 3 4 2]
def rL:L:=[vA 0 12 0 1,ji 1 13 12,eF 2 14 13]
def rK:L:=[nE 0 16 14 0,qJ 1 15 16]
def rJ:L:=[vA 0 17 1 1,ji 1 18 17,eF 2 19 18,KL 3 20 19,Iw 4 21 3 20,qJ 5 4 21]
def rI:L:=[qJ 0 22 4,sK 1 23 22,nH 2 24 12 23,eG 3 25 24,qJ 4 3 25]
def rH:L:=[nE 0 27 14 1,qJ 1 26 27]
def rG:L:=[vA 0 28 1 1,ji 1 29 28,eF 2 30 29,KL 3 31 30,Iw 4 32 1 31,vA 5 33 1 1,ji 6 34 33,Tb 7 35 34 4,eF 8 36 35,KL 9 37 36,Iw 10 38 1 37,qJ 11 5 32,qJ 12 6 38]
def rF:L:=[qJ 0 39 5,qJ 1 40 6,⟨2,some 41,.p (.bin .mul (.t 39) (.t 40)),none,none,[],false⟩,qJ 3 4 41]
def rE:L:=[qJ 0 42 5,⟨1,some 43,.p (.bin .mul (.c (.one (.int .i64 8))) (.t 42)),none,none,[],false⟩,qJ 2 44 6,⟨3,some 45,.p (.bin .add (.t 43) (.t 44)),none,none,[],false⟩,nH 4 46 13 45,eG 5 47 46,qJ 6 3 47]
def mK:L:=[nE 0 49 14 3,qJ 1 48 49]
def mJ:L:=[vA 0 50 1 1,ji 1 51 50,vA 2 52 1 1,ji 3 53 52,Tb 4 54 53 8,Iu 55 91 51 54,qJ 6 2 55]
def mI:L:=[LO 0 7 0]
def mE:L:=[qJ 0 56 7,qJ 1 57 4,nD 2 58 56 57]
def mD:L:=[⟨0,some 61,.p (.build [(.int .u8 0),(.int .u8 0)] []),none,none,[],false⟩,⟨1,some 8,.a (.alloc [(.int .u8 0),(.int .u8 0)]),none,none,[],false⟩,Q8 2 2 8 61]
def mC:L:=[qJ 0 62 7,vA 1 63 2 1,ji 2 64 63,Ku 3 65 64,nD 4 66 62 65]
def mB:L:=[vA 0 67 2 1,ji 1 68 67,qJ 2 69 7,LN 3 70 2 68 69,LM 4 71 70,Q8 5 2 8 71]
def mA:L:=[vA 0 72 0 1,ji 1 73 72,eF 2 74 73,nE 3 75 74 0]
def l9:L:=[qJ 0 76 3,nG 1 77 0,ji 2 78 77,KL 3 79 78,nG 4 80 1,ji 5 81 80,KL 6 82 81,⟨7,some 83,.p (.bin .mul (.t 79) (.t 82)),none,none,[],false⟩,nH 8 84 0 83,eG 9 85 84,nF 10 86 76 85,qJ 11 3 86]
def l8:L:=[qJ 0 87 3,nG 1 88 0,ji 2 89 88,nG 3 90 1,ji 4 91 90,Iu 92 91 89 91,nF 6 93 87 92,qJ 7 3 93]
def l7:L:=[qJ 0 59 7,bA 1 60 59,qJ 2 7 60]
def KI:SC:=(.seq (.seq (.ops mE 0 true) (.cond (.t 58) .skip (.exit 1))) (.seq (.block 2 (.seq (.ops mD 0 true) (.seq (.seq (.ops mC 0 true) (.cond (.t 66) (.ops mB 0 true) .skip)) (.seq (.ops mA 0 true) (.cond (.t 75) (.ops l9 0 true) (.ops l8 0 true)))))) (.ops l7 0 true)))
def Wb:L:=[qJ 0 94 3,⟨1,some 95,.cf 67 [(.t 94)],none,none,[],false⟩,qJ 2 9 95]
def Wa:L:=[qJ 0 96 9,⟨1,some 97,.p (.not (.t 96)),none,none,[],false⟩]
def J9:L:=[vA 0 98 1 1,ji 1 99 98,⟨2,some 100,.cf 91 [(.c (.one (.int .u8 0))),(.t 99)],none,none,[],false⟩,qJ 3 2 100]
def J8:L:=[qJ 0 101 3,qJ 1 2 101]
def AL:SC:=(.seq (.ops rN 0 true) (.seq (.ops rM 0 true) (.seq (.seq (.ops rL 0 true) (.block 0 (.seq (.ops rK 0 true) (.cond (.t 15) (.seq (.ops rJ 0 true) (.ops rI 0 true)) (.seq (.ops rH 0 true) (.cond (.t 26) (.seq (.ops rG 13 true) (.seq (.ops rF 0 true) (.ops rE 0 true))) (.seq (.ops mK 0 true) (.cond (.t 48) (.seq (.ops mJ 0 true) .ret) .skip)))))))) (.seq (.seq (.ops mI 0 true) (.block 1 (.loop KI))) (.seq (.ops Wb 0 true) (.seq (.seq (.ops Wa 0 true) (.cond (.t 97) (.seq (.ops J9 0 true) .ret) .skip)) (.seq (.ops J8 0 true) .ret)))))))
def QS:SFn:=⟨102,AL,[.t 2]⟩
def gZ:L:=[Su 0]
def gY:L:=[Tc 7,qJ 1 3 7]
def gX:L:=[LO 0 4 0]
def gW:L:=[qJ 0 8 4,qJ 1 9 0,Ku 2 10 9,nD 3 11 8 10]
def gV:L:=[qJ 0 14 3,qJ 1 15 0,qJ 2 16 4,LN 3 17 2 15 16,LM 4 18 17,Iu 19 161 14 18]
def gU:L:=[qJ 0 20 3,Ku 1 21 20,qJ 2 5 21]
def gT:L:=[qJ 0 22 5,sL 1 23 22,qJ 2 24 23,kO 3 25 0 24,kO 4 26 4 24,Sz 5 27 25 26,Sy 6 28 27,kO 7 29 3 24,kO 8 30 5 24,sN 9 31 30 24,Sz 10 32 29 31,Sy 11 33 32,⟨12,some 34,.cf 164 [(.t 28),(.t 33)],(some (24,true)),none,[],false⟩,YM 13 35 24 34]
def gS:L:=[qJ 0 36 5,sK 1 37 36,qJ 2 5 37]
def iA:SC:=(.seq (.seq (.ops gT 14 true) (.cond (.t 35) .skip (.exit 2))) (.block 3 (.ops gS 0 true)))
def Jd:L:=[Tc 38,qJ 1 39 3,qJ 2 40 5,⟨3,some 41,.p (.slice 2 (.t 39) (some (.t 40)) none none),none,none,[],false⟩,nF 4 42 38 41,qJ 5 6 42]
def Jc:L:=[qJ 0 43 3,qJ 1 44 5,⟨2,some 45,.p (.slice 2 (.t 43) none (some (.t 44)) none),none,none,[],false⟩,qJ 3 46 0,qJ 4 47 4,LN 5 48 2 46 47,LM 6 49 48,⟨7,some 50,.a (.bslice 2 1 [(.int .i64 0),(.int .i64 0)] [(0,2,(.t 49))]),none,(some 7),[],false⟩,nF 8 51 45 50,qJ 9 3 51]
def Yo:L:=[qJ 0 52 3,qJ 1 53 6,nF 2 54 52 53,qJ 3 3 54]
def dF:L:=[qJ 0 12 4,bA 1 13 12,qJ 2 4 13]
def hY:SC:=(.seq (.seq (.ops gW 0 true) (.cond (.t 11) .skip (.exit 0))) (.seq (.block 1 (.seq (.seq (.ops gV 0 true) (.cond (.t 19) (.exit 1) .skip)) (.seq (.ops gU 0 true) (.seq (.block 2 (.loop iA)) (.seq (.ops Jd 0 true) (.seq (.ops Jc 10 true) (.ops Yo 0 true))))))) (.ops dF 0 true)))
def dE:L:=[qJ 0 55 3,qJ 1 2 55]
def l6:SC:=(.seq (.ops gZ 0 true) (.seq (.ops gY 0 true) (.seq (.seq (.ops gX 0 true) (.block 0 (.loop hY))) (.seq (.ops dE 0 true) .ret))))
def Vy:SFn:=⟨56,l6,[.t 2]⟩
def AJ:L:=[⟨0,some 3,.a (.box (.t 1)),none,none,[],false⟩,Sw 1]
def AI:L:=[LO 0 5 0]
def AH:L:=[qJ 0 6 5,qJ 1 7 0,Ku 2 8 7,nD 3 9 6 8]
def AG:L:=[qJ 0 12 0,qJ 1 13 5,LN 2 14 2 12 13,LM 3 15 14,LM 4 16 3,⟨5,some 17,.p (.eqs false [(0,false),(1,false)] (.t 15) (.t 16)),none,none,[],false⟩]
def AF:L:=[⟨0,some 4,.p (.mv (.c (.one (.bool true)))),none,none,[],false⟩]
def AE:L:=[qJ 0 10 5,bA 1 11 10,qJ 2 5 11]
def AK:SC:=(.seq (.seq (.ops AH 0 true) (.cond (.t 9) .skip (.exit 0))) (.seq (.block 1 (.seq (.ops AG 6 true) (.cond (.t 17) (.seq (.ops AF 0 true) .ret) .skip))) (.ops AE 0 true)))
def AD:L:=[Sw 0]
def C2:SC:=(.seq (.ops AJ 0 true) (.seq (.seq (.ops AI 0 true) (.block 0 (.loop AK))) (.seq (.ops AD 0 true) .ret)))
def OW:SFn:=⟨18,C2,[.t 4]⟩
def dN:L:=[⟨0,some 2,.a (.alloc [.nils]),none,none,[],false⟩,Sv 1 3,Sv 2 4]
def dM:L:=[qJ 0 8 0,Ku 1 9 8,⟨2,some 10,.p (.bin .eql (.t 9) (.c (.one (.int .i64 0)))),none,none,[],false⟩]
def dK:L:=[Sx 0,Iv 1 3 0,Iv 2 4 340]
def dJ:L:=[qJ 0 11 0,⟨1,some 12,.p (.build [.nils,.nils] [(0,1,(.t 11))]),none,none,[],false⟩,⟨2,some 5,.a (.alloc [.nils,.nils]),none,none,[],false⟩,Q8 3 2 5 12]
def dI:L:=[⟨0,some 13,.cf 37 [(.t 5)],none,none,[],false⟩]
def Qe:L:=[qJ 0 6 14]
def Qd:L:=[qJ 0 7 15]
def dH:L:=[qJ 0 16 6,qJ 1 17 7,Sx 2,Q8 3 1 3 16,Q8 4 1 4 17]
def kg:SC:=(.block 1 (.seq (.ops dH 0 true) .ret))
def dG:L:=[vA 0 18 1 5,ji 1 19 18,qJ 2 20 0,Ku 3 21 20,Q8 4 1 2 19,Q8 5 1 3 21,Iv 6 4 0]
def iC:SC:=(.seq (.ops dN 0 true) (.seq (.seq (.ops dM 0 true) (.cond (.t 10) (.seq (.ops dK 0 true) .ret) .skip)) (.seq (.ops dJ 0 true) (.seq (.seq (.ops dI 0 true) (.block 0 (.rf (.t 13) [14,15] (.seq (.ops Qe 0 true) (.ops Qd 0 true)) kg))) (.seq (.ops dG 0 true) .ret)))))
def xC:SFn:=⟨22,iC,[.cell false 1 2,.cell false 1 3,.cell false 1 4]⟩
abbrev GN:Nat:=6
def offsG:B:=.row 12 [.int .i64 0,.int .i64 0,.int .i64 0,.int .i64 1,.int .i64 0,.int .i64 2,.int .i64 1,.int .i64 0,.int .i64 1,.int .i64 1,.int .i64 1,.int .i64 2] .lf false
def letsG:B:=.row 26 [.int .u8 1,.int .u8 3,.int .u8 9,.int .u8 25,.int .u8 17,.int .u8 11,.int .u8 27,.int .u8 19,.int .u8 10,.int .u8 26,.int .u8 5,.int .u8 7,.int .u8 13,.int .u8 29,.int .u8 21,.int .u8 15,.int .u8 31,.int .u8 23,.int .u8 14,.int .u8 30,.int .u8 37,.int .u8 39,.int .u8 58,.int .u8 45,.int .u8 61,.int .u8 53] .lf false
def digsG:B:=.row 10 [.int .u8 26,.int .u8 1,.int .u8 3,.int .u8 9,.int .u8 25,.int .u8 17,.int .u8 11,.int .u8 27,.int .u8 19,.int .u8 10] .lf false
def powG:B:=.row 20 [.int .u64 1,.int .u64 10,.int .u64 100,.int .u64 1000,.int .u64 10000,.int .u64 100000,.int .u64 1000000,.int .u64 10000000,.int .u64 100000000,.int .u64 1000000000,.int .u64 10000000000,.int .u64 100000000000,.int .u64 1000000000000,.int .u64 10000000000000,.int .u64 100000000000000,.int .u64 1000000000000000,.int .u64 10000000000000000,.int .u64 100000000000000000,.int .u64 1000000000000000000,.int .u64 10000000000000000000] .lf false
def H00(_:Nat):Hp:=⟨((((T.lf.set 0 (some offsG)).set 1 (some letsG)).set 2 (some digsG)).set 3 (some powG)),GN⟩
theorem H00get(b:Nat):(H00 1).get b=if b=3 then some powG else if b=2 then some digsG else if b=1 then some letsG else if b=0 then some offsG else none:=by
 show T.get ((((T.lf.set 0 (some offsG)).set 1 (some letsG)).set 2 (some digsG)).set 3 (some powG)) b=_
 rw [T.get_set,T.get_set,T.get_set,T.get_set,T.get_lf]
theorem ko:∀b bk,(H00 1).get b=some bk->bk.ro=some bk:=by
 intro b bk h;rw [H00get] at h;split at h
 ·rw [<-zsi h];rfl
 split at h
 ·rw [<-zsi h];rfl
 split at h
 ·rw [<-zsi h];rfl
 split at h
 ·rw [<-zsi h];rfl
 cases h
end Go.Ai
namespace Go.Ai
open Go.Ab Go.Proofs
set_option maxRecDepth 100000
theorem DF:yr Tryz.prog GN 60=some W4:=by kernel_rfl
theorem XV:yr Tryz.prog GN 61=some QS:=by kernel_rfl
theorem rP:yr Tryz.prog GN 137=some Vy:=by kernel_rfl
theorem I0:yr Tryz.prog GN 161=some OW:=by kernel_rfl
end Go.Ai
namespace Go.Ab
def VT(E:qk)(d:Nat):Option Opd->Option Nat
 |none=>some d
 |some x=>match ro E x with
  |some (.one (.f (.c (.int _ (.ofNat i)))))=>some i
  |_=>none
section
variable{p:Par}{base rs:Nat}{Q:qk->Bx->Nat->Prop}{r:List SOper}{W:Wt}{A:List Nat}{E:qk}{S:Bx}{nk:Nat}{id:Nat}{dst:Option Nat}{aid:Option Nat}{ws:List Nat}{keep:Bool}
theorem ky{Z:Nat->Prop}{β:qt}{H:Hp}{F:T V}(hE:ER Z β H E F){d i y:Nat}{x:Option Opd}(h:VT E d x=some i)(hy:i<=y):qQ F d y x=some i:=by
 cases x with
 |none=>obtain rfl:=zsi h;simp only [qQ,if_pos hy]
 |some x=>
  simp only [VT] at h;split at h
  ·rename_i hx;obtain rfl:=zsi h;simp only [qQ,xj hE hx];rw [if_pos ⟨eO _,Int.ofNat_le.2 hy⟩];rfl
  ·cases h
theorem iI{esz:Nat}{x:Opd}{lo hi:Option Opd}{k o n l h o' n':Nat}(hx:ro E x=some (.one (.own k o n esz)))(hlo:VT E 0 lo=some l)(hhi:VT E n hi=some h)(h1:l<=h)(h2:h<=n)(ho:o+l*esz=o')(hn:h-l=n')(hd:DPW p base rs Q r W A (qI E dst (.one (.own k o' n' esz))) S nk):DPW p base rs Q (⟨id,dst,.p (.slice esz x lo hi none),none,aid,ws,keep⟩::r) W A E S nk:=by
 subst ho;subst hn;refine yP (fun {Z β H F} hE=>?_) hd;obtain⟨c,hc,hr⟩:=xz hE hx;rcases hr with⟨g1,rfl,rfl,rfl⟩|⟨b,N,cap,ex,g1,rfl,g2,g3⟩
 ·have e1:h=0:=by omega
  have e2:l=0:=by omega
  subst e1;subst e2;refine⟨.one .nils,?_,_,O,.inl ⟨g1,O,by simp,rfl⟩⟩;simp only [qp,hc,jV,ky hE hlo (qz 0),ky hE hhi (qz 0)];rfl
 ·refine⟨.one (.slc b (o+l*esz) (h-l) (cap-l) esz ex),?_,_,O,.inr ⟨b,N,cap-l,ex,g1,O,oM,?_⟩⟩
  ·have hm:qQ F cap cap none=some cap:=by simp [qQ]
   simp only [qp,hc,jV];rw [if_neg (by simp),hm];simp only [ky hE hhi (show h<=cap by omega),ky hE hlo h1];simp
  ·have:(cap-l)*esz+l*esz=cap*esz:=by rw [<-wW];congr 1;omega
   omega
theorem iJ{esz:Nat}{x:Opd}{lo hi:Option Opd}{n l h n':Nat}{m q:List FD}(hx:ro E x=some (.one (.f (.sl esz n m))))(hlo:VT E 0 lo=some l)(hhi:VT E n hi=some h)(h1:l<=h)(h2:h<=n)(hn:h-l=n')(hq:xd m (l*esz) (n'*esz)=some q)(hd:DPW p base rs Q r W A (qI E dst (.one (.f (.sl esz n' q)))) S nk):DPW p base rs Q (⟨id,dst,.p (.slice esz x lo hi none),none,aid,ws,keep⟩::r) W A E S nk:=by
 subst hn;refine yP (fun {Z β H F} hE=>?_) hd;obtain⟨c,hc,hr⟩:=xz hE hx;obtain⟨hle,hqe⟩:=zT hq;cases hr with
 |nil=>
  have e1:h=0:=by omega
  have e2:l=0:=by omega
  subst e1;subst e2;obtain rfl:q=[]:=by rw [hqe];simp
  refine⟨.one .nils,?_,_,O,.nil esz⟩;simp only [qp,hc,jV,ky hE hlo (qz 0),ky hE hhi (qz 0)];rfl
 |sl hz hl hcap hld hel=>
  rename_i b o cap ex cs;have hlen:m.length=cs.length:=by rw [hl,zW hld]
  refine⟨.one (.slc b (o+l*esz) (h-l) (cap-l) esz ex),?_,_,O,.sl (cs:=(cs.drop (l*esz)).take ((h-l)*esz)) (fun h0=>hz ?_) ?_ oM (Xy hld oM) fun i d c hd hc=>?_⟩
  ·have hm:qQ F cap cap none=some cap:=by simp [qQ]
   simp only [qp,hc,jV];rw [if_neg (by simp),hm];simp only [ky hE hhi (show h<=cap by omega),ky hE hlo h1];simp
  ·have:(h-l)*esz<=n*esz:=X1 _ oM;omega
  ·rw [hqe,xS,zS];omega
  ·rw [hqe] at hd;have ha:=((qe.mk hlen hel).drop (l*esz)).take ((h-l)*esz);obtain⟨c',hc',hr'⟩:=ha.at i d hd;rw [hc] at hc';obtain rfl:=zsi hc';exact hr'
end
end Go.Ab
