/- -/
import Derived.Test.YtandgamnamkkhaaGreatDoorAb16
set_option linter.unusedSimpArgs false
set_option linter.unusedVariables false
set_option maxRecDepth 8000
namespace Go.Ab
structure DPS (p:Par) (n:Nat) (s:SC) (Q:Exit->qo->Bx->Nat->Prop) (E:qo) (S:Bx) (nk:Nat):Prop where
 run:∀Z β H F,SR p Z β H S nk->ER Z β H E F->zX p.ρ p.P p.G n s (fun e F' H'=>∃E' S' nk' Z' β',SR p Z' β' H' S' nk'/\ER Z' β' H' E' F'/\Q e E' S' nk') F H
def oI(next:qo->Bx->Nat->Prop)(Q:Exit->qo->Bx->Nat->Prop):Exit->qo->Bx->Nat->Prop
 |.normal,E,S,nk=>next E S nk
 |e,E,S,nk=>Q e E S nk
def iH(id:Nat)(Q:Exit->qo->Bx->Nat->Prop):Exit->qo->Bx->Nat->Prop
 |.exit id',E,S,nk=>match Nat.beq id' id with
  |true=>Q .normal E S nk
  |false=>Q (.exit id') E S nk
 |e,E,S,nk=>Q e E S nk
def rn(ρ:List (Nat × Nat))(k:Nat):Nat:=match lk ρ k with
 |some j=>j
 |none=>k
def NR(ρ:List (Nat × Nat)):List (Nat × Nat)->List (Nat × Nat)
 |[]=>[]
 |(k,o)::r=>(rn ρ k,o)::NR ρ r
def Y4(ρ:List (Nat × Nat)):DC->DC
 |.ptr k o=>.ptr (rn ρ k) o
 |.tptr k i o=>.tptr (rn ρ k) i o
 |.trow k i o n=>.trow (rn ρ k) i o n
 |.own k o n e=>.own (rn ρ k) o n e
 |.om k=>.om (rn ρ k)
 |.yl k=>.yl (rn ρ k)
 |.fn f caps=>.fn f (NR ρ caps)
 |d=>d
def KA(ρ:List (Nat × Nat)):List DC->List DC
 |[]=>[]
 |d::l=>Y4 ρ d::KA ρ l
def Ec(ρ:List (Nat × Nat)):DV->DV
 |.one d=>.one (Y4 ρ d)
 |.agg l=>.agg (KA ρ l)
 |.tup l=>.tup l
def Xc(ρ:List (Nat × Nat)):Bk->Bk
 |.cells l=>.cells (KA ρ l)
 |.data l=>.data l
 |.tree l=>.tree l
 |.mp ks l=>.mp ks (KA ρ l)
 |.mt es=>.mt (yW (Y4 ρ) es)
theorem JX(ρ:List (Nat × Nat)):∀l:List DC,KA ρ l=l.map (Y4 ρ)
 |[]=>rfl
 |d::l=>by simp only [KA,List.map_cons,JX ρ l]
theorem aR(ρ:List (Nat × Nat))(x:Bk):(Xc ρ x).shape=x.shape:=by cases x<;>rfl
def FO(n:Nat):List (Nat × Nat)->Bool
 |[]=>true
 |(k,_)::r=>match Nat.blt k n with
  |true=>FO n r
  |false=>false
def wX(n:Nat):DC->Bool
 |.ptr k _=>Nat.blt k n
 |.tptr k _ _=>Nat.blt k n
 |.trow k _ _ _=>Nat.blt k n
 |.own k _ _ _=>Nat.blt k n
 |.om k=>Nat.blt k n
 |.yl k=>Nat.blt k n
 |.fn _ caps=>FO n caps
 |_=>true
def Dz(n:Nat):DV->Bool
 |.one d=>wX n d
 |.agg l=>qE (wX n) l
 |.tup l=>qE KY l
def Wy(n:Nat):List (Int × ME)->Bool
 |[]=>true
 |(_,.row _)::es=>Wy n es
 |(_,.out c)::es=>match wX n c with
  |true=>Wy n es
  |false=>false
def Wz(n:Nat):Bk->Bool
 |.cells l=>qE (wX n) l
 |.data _=>true
 |.tree _=>true
 |.mp _ l=>qE (wX n) l
 |.mt es=>Wy n es
def BO(ρ:List (Nat × Nat))(n0:Nat)(E:qo):qo->Prop
 |[]=>True
 |(t,v)::r=>lk E t=some (Ec ρ v)/\Dz n0 v=true/\BO ρ n0 E r
def WN(ρ:List (Nat × Nat))(n0:Nat)(S:Bx):Bx->Prop
 |[]=>True
 |(k,x)::r=>lk S (rn ρ k)=some (Xc ρ x)/\Wz n0 x=true/\Nat.blt k n0=true/\WN ρ n0 S r
def VP(ρ:List (Nat × Nat)):Bx->List Nat->Bool
 |[],_=>true
 |(k,_)::r,seen=>match seen.elem (rn ρ k) with
  |true=>false
  |false=>VP ρ r (rn ρ k::seen)
def jx(ρ:List (Nat × Nat))(n0:Nat)(β:qq):qq:=fun κ=>if κ.1<n0 then β (rn ρ κ.1,κ.2) else none
def Vw(n0:Nat)(ρ:List (Nat × Nat)):Nat->Bool
 |0=>true
 |a+1=>match Nat.ble (a+1) n0 with
  |true=>qE (fun q=>Nat.ble (a+1) q.1) ρ
  |false=>false
theorem nX{n0:Nat}{ρ:List (Nat × Nat)}{a:Nat}(h:Vw n0 ρ a=true):a<=n0:=by
 cases a with
 |zero=>omega
 |succ a=>
  simp only [Vw] at h;split at h
  ·rename_i e;exact Nat.le_of_ble_eq_true e
  ·cases h
theorem EV{n0 k:Nat}{ρ:List (Nat × Nat)}{a:Nat}(h:Vw n0 ρ a=true)(hk:k<a):rn ρ k=k:=by
 cases a with
 |zero=>omega
 |succ a=>
  simp only [Vw] at h;split at h
  ·unfold rn;cases hl:lk ρ k with
   |none=>rfl
   |some j=>
    exfalso;have key:∀l:List (Nat × Nat),qE (fun q=>Nat.ble (a+1) q.1) l=true->lk l k=some j->False:=by
     intro l;induction l with
     |nil=>intro _ h;cases h
     |cons q l ih=>
      intro ha hl;have h1:=zo ha q (by simp);have h1':=Nat.le_of_ble_eq_true h1;have h2:qE (fun q:Nat × Nat=>Nat.ble (a+1) q.1) l=true:=by simp only [qE,h1] at ha;exact ha
      obtain⟨q1,q2⟩:=q;rw [qR] at hl;split at hl
      ·simp only at h1';omega
      ·exact ih h2 hl
    exact key ρ h hl
  ·cases h
structure Wk (p:Par) (ρ:List (Nat × Nat)) (n0:Nat) (E0:qo) (S0:Bx) (E:qo) (S:Bx):Prop where
 e:BO ρ n0 E E0
 s:WN ρ n0 S S0
 i:VP ρ S0 []=true
 a:Vw n0 ρ p.anc=true
theorem BO.at{ρ:List (Nat × Nat)}{n0:Nat}{E:qo}{t:Nat}{v:DV}:∀{E0:qo},BO ρ n0 E E0->lk E0 t=some v->lk E t=some (Ec ρ v)/\Dz n0 v=true
 |[],_,h=>by cases h
 |(t',v')::r,hw,h=>by
  rw [qR] at h;split at h
  ·rename_i e;subst e;obtain rfl:=zsi h;exact⟨hw.1,hw.2.1⟩
  ·exact BO.at hw.2.2 h
theorem WN.at{ρ:List (Nat × Nat)}{n0:Nat}{S:Bx}{k:Nat}{x:Bk}:∀{S0:Bx},WN ρ n0 S S0->lk S0 k=some x->lk S (rn ρ k)=some (Xc ρ x)/\Wz n0 x=true/\k<n0
 |[],_,h=>by cases h
 |(t',v')::r,hw,h=>by
  rw [qR] at h;split at h
  ·rename_i e;subst e;obtain rfl:=zsi h;exact⟨hw.1,hw.2.1,Nat.le_of_ble_eq_true hw.2.2.1⟩
  ·exact WN.at hw.2.2.2 h
theorem W6{ρ:List (Nat × Nat)}{k:Nat}{x:Bk}:∀{S0:Bx} {seen:List Nat},VP ρ S0 seen=true->lk S0 k=some x->rn ρ k∉seen
 |[],_,_,h=>by cases h
 |(j,y)::r,seen,hi,h=>by
  simp only [VP] at hi;split at hi
  ·cases hi
  ·rename_i e;rw [qR] at h;split at h
   ·rename_i ej;subst ej;exact fun hm=>by rw [List.elem_eq_true_of_mem hm] at e;cases e
   ·exact fun hm=>W6 hi h (by simp [hm])
theorem uC{ρ:List (Nat × Nat)}{k k':Nat}{x x':Bk}:∀{S0:Bx} {seen:List Nat},VP ρ S0 seen=true->lk S0 k=some x->lk S0 k'=some x'->rn ρ k=rn ρ k'->k=k'
 |[],_,_,h,_,_=>by cases h
 |(j,y)::r,seen,hi,h,h',e=>by
  simp only [VP] at hi;split at hi
  ·cases hi
  ·rw [qR] at h h';split at h
   ·rename_i ej;subst ej;split at h'
    ·rename_i ej;exact ej
    ·exact absurd (by simp [e]) (W6 hi h')
   ·split at h'
    ·rename_i ej;subst ej;exact absurd (by simp [e]) (W6 hi h)
    ·exact uC hi h h' e
theorem eD(ρ:List (Nat × Nat))(k:Nat):∀(i:Nat) (rows:List (List FD)),KA ρ (zd k i rows)=zd (rn ρ k) i rows
 |_,[]=>rfl
 |i,r::rs=>by simp only [zd,KA,Y4,eD ρ k (i+1) rs]
theorem d4{n k:Nat}(h:k<n):∀(i:Nat) (rows:List (List FD)),qE (wX n) (zd k i rows)=true
 |_,[]=>rfl
 |i,r::rs=>by
  have:Nat.blt k n=true:=Nat.ble_eq_true_of_le h;simp only [zd,qE,wX,this,d4 h (i+1) rs]
theorem d5{n k:Nat}(h:k<n):∀(i:Nat) (es:List (Int × ME)),Wy n es=true->qE (wX n) (wp k i es)=true
 |_,[],_=>rfl
 |i,(_,.row r)::es,hs=>by
  have:Nat.blt k n=true:=Nat.ble_eq_true_of_le h;simp only [wp,qE,wX,this,d5 h (i+1) es hs]
 |i,(_,.out c)::es,hs=>by
  simp only [Wy] at hs;split at hs
  ·rename_i hc;have e0:∀y:Int,wX n (.f (.c (.int .i64 y)))=true:=fun _=>rfl;simp only [wp,qE,e0,hc,d5 h (i+1) es hs]
  ·cases hs
section
variable{p:Par}{E E0:qo}{S S0:Bx}{nk n0:Nat}{ρ:List (Nat × Nat)}
theorem Zt{Z:Nat->Prop}{β:qq}{H:Hp}{F:T V}(hS:SR p Z β H S nk)(hE:ER Z β H E F)(hw:Wk p ρ n0 E0 S0 E S):SR p Z (jx ρ n0 β) H S0 n0/\ER Z (jx ρ n0 β) H E0 F:=by
 have hb0:∀k i,k<n0->jx ρ n0 β (k,i)=β (rn ρ k,i):=fun k i hk=>by simp [jx,hk]
 have hP:∀{l l':List (Nat × Nat)},FO n0 l=true->je β (NR ρ l) l'->je (jx ρ n0 β) l l':=by
  intro l;induction l with
  |nil=>intro l' _ h;cases l' with
   |nil=>trivial
   |cons _ _=>exact h.elim
  |cons q l ih=>
   obtain⟨k,o⟩:=q;intro l' hs h;simp only [FO] at hs;split at hs
   ·rename_i hk;cases l' with
    |nil=>exact h.elim
    |cons q' l'=>
     obtain⟨b,o'⟩:=q';exact⟨h.1,by obtain⟨N,hN⟩:=h.2.1;exact⟨N,by rw [hb0 k 0 (Nat.le_of_ble_eq_true hk)];exact hN⟩,ih hs h.2.2⟩
   ·cases hs
 have hC:∀d c,wX n0 d=true->RD Z H β (Y4 ρ d) c->RD Z H (jx ρ n0 β) d c:=fun d c hs hr=>by
  cases d with
  |ptr k o=>obtain⟨b,N,h1,h2⟩:=hr;exact⟨b,N,by rw [hb0 k 0 (Nat.le_of_ble_eq_true hs)];exact h1,h2⟩
  |tptr k i o=>obtain⟨b,N,h1,h2⟩:=hr;exact⟨b,N,by rw [hb0 k (i+1) (Nat.le_of_ble_eq_true hs)];exact h1,h2⟩
  |trow k i o n=>
   have hk:=Nat.le_of_ble_eq_true hs;rcases hr with⟨h1,h2⟩|⟨b,N,cap,ex,h1,h2⟩
   ·exact .inl ⟨by rw [hb0 k (i+1) hk];exact h1,h2⟩
   ·exact .inr ⟨b,N,cap,ex,by rw [hb0 k (i+1) hk];exact h1,h2⟩
  |own k o n e=>
   have hk:=Nat.le_of_ble_eq_true hs;rcases hr with⟨h1,h2⟩|⟨b,N,cap,ex,h1,h2⟩
   ·exact .inl ⟨by rw [hb0 k 0 hk];exact h1,h2⟩
   ·exact .inr ⟨b,N,cap,ex,by rw [hb0 k 0 hk];exact h1,h2⟩
  |om k=>obtain⟨b,N,h1,h2⟩:=hr;exact⟨b,N,by rw [hb0 k 0 (Nat.le_of_ble_eq_true hs)];exact h1,h2⟩
  |yl k=>obtain⟨b,N,h1,h2⟩:=hr;exact⟨b,N,by rw [hb0 k 0 (Nat.le_of_ble_eq_true hs)];exact h1,h2⟩
  |fn f caps=>obtain⟨l',h1,h2⟩:=hr;exact⟨l',h1,hP hs h2⟩
  |_=>exact hr
 have hL:∀{l:List DC} {cs:List C},qE (wX n0) l=true->qe (RD Z H β) (KA ρ l) cs->qe (RD Z H (jx ρ n0 β)) l cs:=by
  intro l;induction l with
  |nil=>intro cs _ h;cases cs with
   |nil=>trivial
   |cons _ _=>exact h.elim
  |cons d l ih=>intro cs ho h;cases cs with
   |nil=>exact h.elim
   |cons c cs=>
    have h1:=zo ho d (by simp);have h2:qE (wX n0) l=true:=by simp only [qE,h1] at ho;exact ho
    exact⟨hC d c h1 h.1,ih h2 h.2⟩
 refine⟨⟨hS.wf,hS.lo,hS.z,hS.zlo,hS.zz,hS.glob,fun k hk=>by simp [jx];omega,fun k b N hk=>?_,fun k x hk=>?_,fun k k' x x' b N N' hk hk' h1 h2=>?_,fun k b N hk=>?_,fun κ hκ hz0=>by rw [hb0 κ.1 κ.2 (Nat.lt_of_lt_of_le hκ (nX hw.a)),EV hw.a hκ];exact hS.anch κ hκ hz0,nX hw.a⟩,fun t v ht=>?_⟩
 ·by_cases hkn:k.1<n0
  ·rw [hb0 k.1 k.2 hkn] at hk;exact hS.bd _ b N hk
  ·simp [jx,hkn] at hk
 ·obtain⟨y,hy⟩:=jC hk;obtain⟨h1,h2,h3⟩:=hw.s.at hy;obtain⟨j,i⟩:=k;have hk2:xb S (rn ρ j,i)=some (Xc ρ x):=by
   simp only at hy h1;cases i with
   |zero=>
    simp only [xb,hy] at hk;simp only [xb,h1];cases y with
    |tree rows=>obtain rfl:=zsi hk;simp only [Xc,eD]
    |mp ks l=>obtain rfl:=zsi hk;rfl
    |mt es=>obtain rfl:=zsi hk;simp only [Xc,JX];rw [ZC (Y4 ρ) j (rn ρ j) (fun _=>rfl) (fun _ _=>rfl)]
    |cells l=>obtain rfl:=zsi hk;rfl
    |data l=>obtain rfl:=zsi hk;rfl
   |succ i=>
    simp only [xb,hy] at hk;simp only [xb,h1];cases y with
    |tree rows=>
     cases hr:rows[i]? with
     |none=>simp only [hr] at hk;cases hk
     |some r=>simp only [hr] at hk;obtain rfl:=zsi hk;simp only [Xc,hr];rfl
    |mp ks l=>cases hk
    |mt es=>
     obtain⟨y',r,e1,rfl⟩:=jk hk;show yV (yW (Y4 ρ) es)[i]?=_;rw [Jh,e1];rfl
    |cells l=>cases hk
    |data l=>cases hk
  have hsm:Wz n0 x=true:=by
   simp only at hy;cases i with
   |zero=>
    simp only [xb,hy] at hk;cases y with
    |tree rows=>obtain rfl:=zsi hk;exact d4 h3 0 rows
    |mp ks l=>obtain rfl:=zsi hk;exact h2
    |mt es=>obtain rfl:=zsi hk;exact d5 h3 0 es h2
    |cells l=>obtain rfl:=zsi hk;exact h2
    |data l=>obtain rfl:=zsi hk;exact h2
   |succ i=>
    simp only [xb,hy] at hk;cases y with
    |tree rows=>
     cases hr:rows[i]? with
     |none=>simp only [hr] at hk;cases hk
     |some r=>simp only [hr] at hk;obtain rfl:=zsi hk;rfl
    |mp ks l=>cases hk
    |mt es=>obtain⟨y',r,e1,rfl⟩:=jk hk;rfl
    |cells l=>cases hk
    |data l=>cases hk
  obtain⟨s,hs,hbx⟩:=hS.box _ _ hk2;refine⟨s,by rw [hb0 j i h3];exact hs,?_⟩;cases s with
  |nil=>cases x with
   |cells l=>cases l with
    |nil=>rfl
    |cons _ _=>cases hbx
   |data l=>exact hbx
   |tree l=>exact hbx
   |mp ks l=>cases l with
    |nil=>rfl
    |cons _ _=>cases hbx
   |mt es=>cases es with
    |nil=>rfl
    |cons _ _=>cases hbx
  |blk b N=>
   obtain⟨g1,g2,g3,cs,rest,g4,g5,g6⟩:=hbx;refine⟨g1,g2,g3,cs,rest,by rw [aR] at g4;exact g4,by rw [aR] at g5;exact g5,?_⟩;cases x with
   |cells l=>exact hL hsm g6
   |data l=>exact g6
   |tree l=>exact g6
   |mp ks l=>exact hL hsm g6
   |mt es=>exact g6
 ·have k1:=(hw.s.at hk).2.2;have k2:=(hw.s.at hk').2.2;obtain⟨k,i⟩:=k;obtain⟨k',i'⟩:=k';simp only at k1 k2 hk hk';rw [hb0 k i k1] at h1;rw [hb0 k' i' k2] at h2;have:=hS.inj (rn ρ k,i) (rn ρ k',i') _ _ b N N' (hw.s.at hk).1 (hw.s.at hk').1 h1 h2;obtain⟨e1,rfl⟩:=Prod.mk.inj this;rw [uC hw.i hk hk' e1]
 ·by_cases hkn:k.1<n0
  ·rw [hb0 k.1 k.2 hkn] at hk;exact hS.blo _ b N hk
  ·simp [jx,hkn] at hk
 ·obtain⟨h1,h2⟩:=hw.e.at ht;obtain⟨v',hv',hr⟩:=hE t _ h1;refine⟨v',hv',?_⟩;cases v with
  |one d=>obtain⟨c,rfl,hr⟩:=hr;exact⟨c,rfl,hC d c h2 hr⟩
  |agg l=>obtain⟨c,rfl,hr⟩:=hr;exact⟨c,rfl,hL h2 hr⟩
  |tup l=>obtain⟨c,rfl,hr⟩:=hr;exact⟨c,rfl,Wc h2 hr⟩
theorem cM{Z:Nat->Prop}{β:qq}{H:Hp}{F:T V}(hS:SR p Z β H S nk)(hE:ER Z β H E F)(hw:Wk p ρ n0 E0 S0 E S):∃β0,SR p Z β0 H S0 n0/\ER Z β0 H E0 F:=⟨_,Zt hS hE hw⟩
end
section
variable{p:Par}{n:Nat}{Q:Exit->qo->Bx->Nat->Prop}{E:qo}{S:Bx}{nk:Nat}
theorem wi{s:SC}{E0:qo}{S0:Bx}{n0:Nat}(ρ:List (Nat × Nat))(hw:Wk p ρ n0 E0 S0 E S)(h:DPS p n s Q E0 S0 n0):DPS p n s Q E S nk:=.mk fun Z β H F hS hE=>by
 obtain⟨β0,h1,h2⟩:=cM hS hE hw;exact h.run Z β0 H F h1 h2
theorem qH{s:SC}(k:Nat){m:List FD}(hk:lk S k=some (.data m))(hoE:yA (FW k (aW m)) E)(hoS:yA (eW k (aW m)) S)(h:DPS p n s Q (wr (F4 k m) E) (wr (kM k m) (jn k S)) nk):DPS p n s Q E S nk:=.mk fun Z β H F hS hE=>by
 obtain⟨Z',hS',hE',_,_⟩:=uH hS hE hk hoE hoS;exact h.run Z' β H F hS' hE'
theorem ZJ(h:Q .normal E S nk):DPS p n .skip Q E S nk:=.mk fun Z β H F hS hE=>WP ⟨E,S,nk,Z,β,hS,hE,h⟩
theorem ya{id:Nat}(h:Q (.exit id) E S nk):DPS p n (.exit id) Q E S nk:=.mk fun Z β H F hS hE=>dX ⟨E,S,nk,Z,β,hS,hE,h⟩
theorem qc(h:Q .ret E S nk):DPS p n .ret Q E S nk:=.mk fun Z β H F hS hE=>VD ⟨E,S,nk,Z,β,hS,hE,h⟩
theorem yq(hm:p.P.follows .mixedOrders=true){l:List SOper}{rs:Nat}{st:Bool}(h:∀base,DPW p base rs (Q .normal) l [] [] E S nk):DPS p n (.ops l rs st) Q E S nk:=.mk fun Z β H F hS hE=>by
 refine JR hm ((h H.nx).run Z β (H.skip rs) F [] _ ?_ (ER.mono (H:=H) (H':=H.skip rs) (xd.of_get (fun _ h=>h) fun _ _=>rfl) (xD.refl β) hE) (fun x hx=>by cases hx) ⟨hS.lo,fun j hj _=>⟨by simp;omega,hS.wf.fresh (by omega),fun hz=>absurd (hS.z _ hz) (by omega),fun k N hk=>absurd (hS.bd k _ N hk) (by omega)⟩⟩);exact⟨hS.wf.skip rs,by simp;have:=hS.lo;omega,fun b hb=>by simp;have:=hS.z b hb;omega,hS.zlo,hS.zz,hS.glob,hS.nk,fun k b N hk=>by simp;have:=hS.bd k b N hk;omega,fun k x hk=>by
  obtain⟨s,hs,hbx⟩:=hS.box k x hk;exact⟨s,hs,jI.mono (H:=H) (H':=H.skip rs) (xD.refl β) (by simp) (fun _ _=>rfl) hbx⟩,hS.inj,hS.blo,hS.anch,hS.ancn⟩
theorem yB{a b:SC}(h:DPS p n a (oI (DPS p n b Q) Q) E S nk):DPS p n (.seq a b) Q E S nk:=.mk fun Z β H F hS hE=>VC (zP (h.run Z β H F hS hE) fun e F' H' ⟨E',S',nk',Z',β',h1,h2,h3⟩=>by
 cases e with
 |normal=>exact h3.run Z' β' H' F' h1 h2
 |_=>exact⟨E',S',nk',Z',β',h1,h2,h3⟩)
theorem qb{d:Opd}{a b:SC}{t:Bool}(ht:ro E d=some (.bool t))(h1:t=true->DPS p n a Q E S nk)(h2:t=false->DPS p n b Q E S nk):DPS p n (.cond d a b) Q E S nk:=.mk fun Z β H F hS hE=>by
 refine ZY (t:=t) (xA hE ht) ?_;cases t with
 |true=>exact (h1 rfl).run Z β H F hS hE
 |false=>exact (h2 rfl).run Z β H F hS hE
theorem XD{id:Nat}{a:SC}(h:DPS p n a (iH id Q) E S nk):DPS p n (.block id a) Q E S nk:=.mk fun Z β H F hS hE=>YW (zP (h.run Z β H F hS hE) fun e F' H' ⟨E',S',nk',Z',β',h1,h2,h3⟩=>by
 cases e with
 |exit id'=>
  simp only [iH] at h3;simp only [ZR];by_cases e:id'=id
  ·subst e;rw [jU] at h3;rw [if_pos rfl];exact⟨E',S',nk',Z',β',h1,h2,h3⟩
  ·rw [jg e] at h3;rw [if_neg e];exact⟨E',S',nk',Z',β',h1,h2,h3⟩
 |_=>exact⟨E',S',nk',Z',β',h1,h2,h3⟩)
theorem qm{a:SC}(I:Nat->qo->Bx->Nat->Prop)(h0:∃m E0 S0 n0 ρ,Wk p ρ n0 E0 S0 E S/\I m E0 S0 n0)(round:∀m E S nk,I m E S nk->DPS p n a (oI (fun E' S' _=>∃m',m'<m/\∃E0 S0 n0 ρ,Wk p ρ n0 E0 S0 E' S'/\I m' E0 S0 n0) Q) E S nk):DPS p n (.loop a) Q E S nk:=.mk fun Z β H F hS hE=>by
 obtain⟨m,E0,S0,n0,ρ,hw,hI⟩:=h0;obtain⟨β0,g1,g2⟩:=cM hS hE hw;refine dW (fun m F H=>∃E S nk Z β,SR p Z β H S nk/\ER Z β H E F/\I m E S nk) (m:=m) ⟨E0,S0,n0,Z,β0,g1,g2,hI⟩ ?_;rintro m F H ⟨E,S,nk,Z,β,hS,hE,hI⟩;refine zP ((round m E S nk hI).run Z β H F hS hE) fun e F' H' ⟨E',S',nk',Z',β',h1,h2,h3⟩=>?_;cases e with
 |normal=>
  obtain⟨m',hm',E1,S1,n1,ρ1,hw1,hI1⟩:=h3;obtain⟨β1,g1,g2⟩:=cM h1 h2 hw1;exact⟨m',hm',E1,S1,n1,Z',β1,g1,g2,hI1⟩
 |_=>exact⟨E',S',nk',Z',β',h1,h2,h3⟩
theorem QX{s:SC}(t esz:Nat)(ht:lk E t=some (.one (.f (.c .nils))))(h:DPS p n s Q ((t,.one (.own nk 0 0 esz))::E) ((nk,.data [])::S) (nk+1)):DPS p n s Q E S nk:=.mk fun Z β H F hS hE=>by
 refine h.run Z _ H F (QU hS) fun k d hd=>?_;rw [qR] at hd;split at hd
 ·rename_i e;subst e;obtain rfl:=zsi hd;obtain⟨v,hv,c,rfl,hr⟩:=hE _ _ ht;cases hr;exact⟨_,hv,_,rfl,.inl ⟨qW _ _ _,rfl,rfl,rfl⟩⟩
 ·exact hE.mono (xd.refl Z H) (hS.ble .nil) k d hd
theorem Vl{s:SC}(t esz:Nat)(ht:lk E t=some (.one (.f (.c .nils))))(h:DPS p n s Q ((t,.one (.f (.sl esz 0 [])))::E) S nk):DPS p n s Q E S nk:=.mk fun Z β H F hS hE=>by
 refine h.run Z β H F hS fun k d hd=>?_;rw [qR] at hd;split at hd
 ·rename_i e;subst e;obtain rfl:=zsi hd;obtain⟨v,hv,c,rfl,hr⟩:=hE _ _ ht;cases hr;exact⟨_,hv,_,rfl,RF.nil esz⟩
 ·exact hE k d hd
end
def kp:List DV->Nat->qo
 |[],_=>[]
 |d::l,i=>(i,d)::kp l (i+1)
theorem XJ{Z:Nat->Prop}{β:qq}{H:Hp}:∀{ds:List DV} {args:List V} (i:Nat),qe (xc Z H β) ds args->ER Z β H (kp ds i) (zr args i)
 |[],[],_,_=>fun _ _ h=>by cases h
 |d::ds,v::args,i,h=>fun n x hx=>by
  simp only [kp,qR] at hx;simp only [zr,T.get_set];split at hx
  ·rename_i e;subst e;rw [if_pos rfl];obtain rfl:=zsi hx;exact⟨v,rfl,h.1⟩
  ·rename_i e;rw [if_neg (fun h=>e h.symm)];exact XJ (i+1) h.2 n x hx
 |[],_::_,_,h=>h.elim
 |_::_,[],_,h=>h.elim
def oR(p:Par)(E:qo)(S:Bx):SRes->Option DV
 |.t n=>lk E n
 |.cell agg k n=>jd p E S agg k (.t n)
def XV(p:Par)(E:qo)(S:Bx):List SRes->Option (List DV)
 |[]=>some []
 |r::l=>match oR p E S r,XV p E S l with
  |some d,some ds=>some (d::ds)
  |_,_=>none
def yO(p:Par)(E:qo)(S:Bx)(rs:List SRes):Option DV:=match XV p E S rs with
 |some [.one c]=>some (.one c)
 |some [.agg l]=>some (.agg l)
 |some [.tup _]=>none
 |some ds=>some (.tup ds)
 |none=>none
def Jo:DV->Bool
 |.tup _=>false
 |_=>true
section
variable{p:Par}{E:qo}{S:Bx}{nk:Nat}
theorem lO{Z:Nat->Prop}{β:qq}{H:Hp}{F:T V}(hS:SR p Z β H S nk)(hE:ER Z β H E F){r:SRes}{d:DV}(h:oR p E S r=some d):∃v,QB F H r=some v/\xc Z H β d v:=by
 cases r with
 |t n=>obtain⟨v,hv,hr⟩:=hE n d h;exact⟨v,by simp [QB,hv],hr⟩
 |cell agg k n=>obtain⟨v,hv,hr,_⟩:=Kh hS hE h;exact⟨v,hv,xc.of1 hr⟩
theorem OG{Z:Nat->Prop}{β:qq}{H:Hp}{d:DV}{v:V}(hr:xc Z H β d v)(hd:KY d=true):jq v=true/\xK Z H β d v:=by
 cases d with
 |one d=>obtain⟨c,rfl,hr⟩:=hr;exact⟨rfl,c,rfl,hr⟩
 |agg l=>obtain⟨c,rfl,hr⟩:=hr;exact⟨rfl,c,rfl,hr⟩
 |tup l=>cases hd
theorem WX{Z:Nat->Prop}{β:qq}{H:Hp}{F:T V}(hS:SR p Z β H S nk)(hE:ER Z β H E F):∀{l:List SRes} {ds:List DV},XV p E S l=some ds->qE KY ds=true->∃vs,yI F H l=some vs/\qe (xK Z H β) ds vs
 |[],ds,h,_=>by obtain rfl:=zsi h;exact⟨[],rfl,trivial⟩
 |r::l,ds,h,hf=>by
  simp only [XV] at h;split at h
  ·rename_i d q h1 h2;obtain rfl:=zsi h;have f1:=zo hf d (by simp);have f2:qE KY q=true:=by simp only [qE,f1] at hf;exact hf
   obtain⟨v,e1,e2⟩:=lO hS hE h1;obtain⟨vs,e3,e4⟩:=WX hS hE h2 f2;obtain⟨o1,o2⟩:=OG e2 f1;exact⟨v::vs,by simp only [yI,e1,e3,o1,if_true],o2,e4⟩
  ·cases h
theorem oQ{Z:Nat->Prop}{β:qq}{H:Hp}{F:T V}(hS:SR p Z β H S nk)(hE:ER Z β H E F){rs:List SRes}{d:DV}(h:yO p E S rs=some d)(hf:WE d=true):∃v,xE F H rs=some v/\xc Z H jA d v:=by
 unfold yO at h;have one:∀d',XV p E S rs=some [d']->KY d'=true->∃v,xE F H rs=some v/\xc Z H jA d' v:=fun d' hd' hf'=>by
  obtain⟨vs,h1,h2⟩:=WX hS hE hd' (by simp [qE,hf'])
  match vs,h1,h2 with
  |[v],h1,h2=>exact⟨v,by simp only [xE,h1],xc.of1 (uI hf' h2.1)⟩
 split at h
 ·rename_i c hd';obtain rfl:=zsi h;exact one _ hd' hf
 ·rename_i l hd';obtain rfl:=zsi h;exact one _ hd' hf
 ·cases h
 ·rename_i ds hn1 hn2 hn3 hds;obtain rfl:=zsi h;obtain⟨vs,h1,h2⟩:=WX hS hE hds hf;refine⟨.tup vs,?_,vs,rfl,Wc hf h2⟩;have hl:=h2.len;unfold xE;rw [h1]
  match vs,hl with
  |[],_=>rfl
  |[v],hl=>
   match ds,hl with
   |[.one d],_=>exact (hn1 d rfl).elim
   |[.agg d],_=>exact (hn2 d rfl).elim
   |[.tup d],_=>exact (hn3 d rfl).elim
  |_::_::_,_=>rfl
 ·cases h
end
def Y5(p:Par)(rs:List SRes)(R:DV->Prop):Exit->qo->Bx->Nat->Prop
 |.normal,E,S,_=>∃d,yO p E S rs=some d/\WE d=true/\R d
 |.ret,E,S,_=>∃d,yO p E S rs=some d/\WE d=true/\R d
 |_,_,_,_=>False
theorem zy{P:Program}{G:Nat}{GH:Hp}{f:FuncId}{sf:SFn}(hf:zK P G f=some sf){ds:List DV}{R:DV->Prop}(hn:Nat.ble ds.length sf.n=true)(hG:∀b bk,GH.get b=some bk->bk.ro=some bk)(h:∀Z0 lo,DPS (Par.base P G GH Z0 lo) sf.n sf.code (Y5 (Par.base P G GH Z0 lo) sf.res R) (kp ds 0) [] 0):yE P G GH f ds R:=by
 intro H Z args hw hz hg ha;have hro:qK P G f args H.ro fun v H1=>WF H1/\H.nx<=H1.nx/\∃d Z1,(∀b,Z1 b->Z b\/H.nx<=b)/\(∀b,Z1 b->b<H1.nx)/\xc Z1 H1 jA d v/\R d:=by
  have hwr:WF H.ro:=fun b bk hb=>by
   rw [Hp.get_ro,Option.bind_eq_some_iff] at hb;obtain⟨x,hx,_⟩:=hb;exact hw b x hx
  refine (KZ hf (by rw [<-ha.len];exact Nat.le_of_ble_eq_true hn) ?_);have hS:SR (Par.base P G GH Z H.nx) Z jA H.ro [] 0:=⟨hwr,Nat.le_refl _,hz,fun b hb=>.inl hb,fun b hb=>hb,fun b bk hb=>(by rcases hb with hb|⟨_,hb⟩;exact⟨(hg b bk hb).1,by rw [Hp.get_ro,(hg b bk hb).2];exact hG b bk hb⟩;cases hb),fun _ _=>rfl,fun _ _ _ hk=>(by cases hk),fun κ x hk=>(by obtain⟨y,hy⟩:=jC hk;cases hy),fun _ _ _ _ _ _ _ hk=>(by cases hk),fun _ _ _ hk=>(by cases hk),fun _ _ _=>rfl,Nat.le_refl _⟩
  have hE:ER Z jA H.ro (kp ds 0) (zr args 0):=XJ 0 (ha.mono fun _ _ hr=>xc.mono (xd.of_le (fun _ h=>h) (Le.ro H)) (xD.refl jA) hr);refine zP ((h Z H.nx).run Z jA H.ro _ hS hE) fun e F' H' ⟨E',S',nk',Z',β',h1,h2,h3⟩=>?_;have fin:(∃d,yO (Par.base P G GH Z H.nx) E' S' sf.res=some d/\WE d=true/\R d)->∃v,xE F' H' sf.res=some v/\WF H'/\H.nx<=H'.nx/\∃d Z1,(∀b,Z1 b->Z b\/H.nx<=b)/\(∀b,Z1 b->b<H'.nx)/\xc Z1 H' jA d v/\R d:=fun⟨d,hd,hfr,hR⟩=>by
   obtain⟨v,hv,hr⟩:=oQ h1 h2 hd hfr;exact⟨v,hv,h1.wf,h1.lo,d,Z',h1.zlo,h1.z,hr,hR⟩
  cases e with
  |normal=>obtain⟨v,hv,hr⟩:=fin h3;simp only [Xd,hv];exact hr
  |ret=>obtain⟨v,hv,hr⟩:=fin h3;simp only [Xd,hv];exact hr
  |_=>exact h3.elim
 refine (qK.none (qK.wf (qK.grow hro))).mono ?_;rintro v H' ⟨⟨⟨H1,⟨w1,n1,d,Z1,z1,z2,hr,hR⟩,e1,e2,e3,e4,e5⟩,hw'⟩,hno⟩;have hnx:H'.nx=H1.nx:=by rw [e1];rfl
 refine⟨hw',by omega,fun b hb=>?_,d,hr.mono (xd.of_le (fun b hb=>?_) e5) (xD.refl jA),hR⟩
 ·cases hgb:H.get b with
  |none=>exact hno b hb hgb
  |some bk=>exact e3 b bk hgb
 ·rcases z1 b hb with h|h
  ·exact .inl h
  ·exact .inr ⟨h,by rw [hnx];exact z2 b hb⟩
def zV{α:Type}(E0 E:List (Nat × α)):Prop:=∀k v,lk E0 k=some v->lk E k=some v
theorem qw{α:Type}(E:List (Nat × α)):zV [] E:=fun _ _ h=>by cases h
theorem zj{α:Type}(E:List (Nat × α)):zV E E:=fun _ _ h=>h
theorem qf{α:Type}{E0 E:List (Nat × α)}{k:Nat}{v:α}(h:lk E k=some v)(hr:zV E0 E):zV ((k,v)::E0) E:=fun n x hx=>by
 rw [qR] at hx;split at hx
 ·rename_i e;subst e;rw [h];exact hx
 ·exact hr n x hx
section
variable{p:Par}{n:Nat}{Q:Exit->qo->Bx->Nat->Prop}{E E0:qo}{S S0:Bx}{nk:Nat}
theorem mI{Z:Nat->Prop}{β:qq}{H:Hp}{F:T V}(hS:SR p Z β H S nk)(hE:ER Z β H E F)(h1:zV E0 E)(h2:zV S0 S):SR p Z β H S0 nk/\ER Z β H E0 F:=
 ⟨hS.keepS h2,fun t d ht=>hE t d (h1 t d ht)⟩
theorem qu{s:SC}(h1:zV E0 E)(h2:zV S0 S)(h:DPS p n s Q E0 S0 nk):DPS p n s Q E S nk:=.mk fun Z β H F hS hE=>by
 obtain⟨g1,g2⟩:=mI hS hE h1 h2;exact h.run Z β H F g1 g2
end
section
variable{p:Par}{base rs:Nat}{Q:qo->Bx->Nat->Prop}{l:List SOper}{W:Wt}{A:List Nat}{E E0:qo}{S S0:Bx}{nk:Nat}
theorem zW(h1:zV E0 E)(h2:zV S0 S)(h:DPW p base rs Q l W A E0 S0 nk):DPW p base rs Q l W A E S nk:=.mk fun Z β H F c QP hS hE hC hA=>by
 obtain⟨g1,g2⟩:=mI hS hE h1 h2;exact h.run Z β H F c QP g1 g2 hC hA
end
section
variable{p:Par}{base rs:Nat}{Q:qo->Bx->Nat->Prop}{r:List SOper}{W:Wt}{A:List Nat}{E:qo}{S:Bx}{nk:Nat}{id:Nat}{dst:Option Nat}{aid:Option Nat}{ws:List Nat}{keep:Bool}
theorem Wh{op:PureOp}{t b:Bool}(hd:yd E op=some (.bool t))(ht:t=b)(h:DPW p base rs Q r W A (qX E dst (.bool b)) S nk):DPW p base rs Q (⟨id,dst,.p op,none,aid,ws,keep⟩::r) W A E S nk:=xT hd (ht▸h)
end
theorem qg{n:Int}(h1: -9223372036854775808<=n)(h2:n<9223372036854775808):IntKind.i64.wrap n=n:=by
 simp [IntKind.wrap,IntKind.signed,IntKind.bits];split<;>omega
theorem m7{Z:Nat->Prop}{H:Hp}{β:qq}:∀{ds:List DV} {vs args:List V},qe (fun d v=>K9 d=some v) ds vs->qe (xc Z H β) ds args->args=vs
 |[],[],[],_,_=>rfl
 |_::_,_::_,_::_,h,hr=>by rw [u7 h.1 hr.1,m7 h.2 hr.2]
 |[],_::_,_,h,_=>h.elim
 |_::_,[],_,h,_=>h.elim
 |[],[],_::_,_,hr=>hr.elim
 |_::_,_::_,[],_,hr=>hr.elim
theorem yE.of_pure{P:Program}{G:Nat}{GH:Hp}{f:FuncId}{ds:List DV}{vs:List V}{c:C}(hex:qe (fun d v=>K9 d=some v) ds vs)(hc:c.closed=true)(h:∀H,(∀b bk,GH.get b=some bk->H.get b=some bk)->qK P G f vs H fun v H'=>v=.one c/\H'=H):yE P G GH f ds fun d=>d=.one (.f (.c c)):=fun H Z args hw hz hg ha=>by
 rw [m7 hex ha];refine (h H fun b bk hb=>(hg b bk hb).2).mono ?_;rintro v H' ⟨rfl,rfl⟩;exact⟨hw,Nat.le_refl _,fun _ _=>rfl,_,zT hc,rfl⟩
theorem oM{P:Prop}(h:P:=by omega):P:=h
theorem aM{P:Prop}(h:P:=by assumption):P:=h
theorem A9{n:Int}(h1: -9223372036854775808≤n)(h2:n<9223372036854775808):some (DV.int (IntKind.i64.wrap n))=some (DV.int n):=congrArg (fun z=>some (DV.int z)) (qg h1 h2)
theorem Gq{x y:List FD}(h:x=y):some (Bk.data x)=some (Bk.data y):=congrArg (fun z=>some (Bk.data z)) h
theorem ql{P:Prop}(h:P:=by exact⟨by repeat (first|exact trivial|refine⟨by first|rfl|exact A9 (by omega) (by omega),rfl,?_⟩),by repeat (first|exact trivial|refine⟨by first|rfl|exact Gq (by assumption),rfl,rfl,?_⟩),rfl,rfl⟩):P:=h
theorem xH{P:Prop}(h:P:=by repeat (first|exact trivial|refine⟨by first|rfl|exact A9 (by omega) (by omega),rfl,?_⟩)):P:=h
theorem qD{P:Prop}(h:P:=by repeat' (first|exact trivial|rfl|assumption|refine⟨?_,?_⟩)):P:=h
theorem QF{P:Prop}(h:P:=by first|exact fun _=>rfl|exact fun h=>(by simp only [if_pos h];rfl)|exact fun h=>(by simp only [h,if_true,if_false];rfl)):P:=h
end Go.Ab
