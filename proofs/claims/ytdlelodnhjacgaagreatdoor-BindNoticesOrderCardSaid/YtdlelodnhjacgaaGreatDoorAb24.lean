/- -/
import Derived.Test.YtdlelodnhjacgaaGreatDoorAb23
set_option linter.unusedSimpArgs false
set_option linter.unusedVariables false
set_option maxRecDepth 8000
set_option maxHeartbeats 4000000
namespace Go.Ai
open Go.Ab Go.Proofs
def Zm(k:Int)(p:qj):Bool:=decide (k=3)||(decide (k=2)&&decide (p.2.tmod 2=0))||(decide (k=1)&&decide ((p.1+p.2).tmod 2=0))
theorem Oj{k:Nat}{p:qj}(hk:k<4)(hp:xf 1000 p):DK 179 [.int k,wd p] fun d=>d=.bool (Zm k p):=by
 refine vL fun Z0 lo=>?_;have hw:IntKind.i64.wrap (p.1+p.2)=p.1+p.2:=by unfold xf at hp;exact qm oM oM
 match k,hk with
 |0,_=>
  exact QK
 |1,_=>
  refine qa ?_;intros;refine qb ⟨_,O,O,?_⟩;exact congrArg DV.bool (by rw [hw];rfl)
 |2,_=>
  by_cases h:p.2.tmod 2=0
  ·have hb:(p.2.tmod 2==0)=true:=by simpa using h
   refine zh ?_;intros;exact qb ⟨_,O,O,by rw [Zm];simp [h]⟩
  ·have hb:(p.2.tmod 2==0)=false:=by simpa using h
   refine zh ?_;intros;exact qb ⟨_,O,O,by rw [Zm];simp [h]⟩
 |3,_=>
  exact QK
 |k+4,h=>omega
structure Ft where
 kind:Int
 tex:Int
 pts:List qj
def ZA(f:Ft):List FD:=[.c (.int .i64 f.kind),.c (.int .i64 f.tex),.sl 2 f.pts.length (f.pts.flatMap qB)]
def Nm(f:Ft):DV:=.agg [.f (.c (.int .i64 f.kind)),.f (.c (.int .i64 f.tex)),.f (.sl 2 f.pts.length (f.pts.flatMap qB))]
def jp(p:qj):Bool:=decide (0<=p.1)&&decide (p.1<60)&&(decide (0<=p.2)&&decide (p.2<60))
def wK(f:Ft):Bool:=if f.kind=1 then f.pts.length==1&&f.tex==0 else if f.kind=2 then decide (2<=f.pts.length)&&f.tex==0 else if f.kind=3 then decide (3<=f.pts.length)&&decide (0<=f.tex)&&decide (f.tex<=3) else false
def ye(f:Ft):Bool:=decide (1<=f.pts.length)&&decide (f.pts.length<=12)&&f.pts.all jp&&wK f
theorem yc(a b:Bool):(if a=true then true else b)=(a||b):=by cases a<;>rfl
theorem CX(n:Nat):((n:Int)==1)=(n==1):=by
 by_cases h:n=1
 ·subst h;rfl
 ·have:¬(n:Int)=1:=oM;rw [beq_eq_false_iff_ne.2 h,beq_eq_false_iff_ne.2 this]
theorem WY(a b:Bool):(if a=true then b else false)=(a&&b):=by cases a<;>rfl
theorem yU{p:qj}:jp p=true↔(0<=p.1/\p.1<60)/\0<=p.2/\p.2<60:=by simp [jp]
theorem MD{f:Ft}(h1:1<=f.pts.length)(h2:f.pts.length<=12)(h3:∀(j:Nat) q,j<f.pts.length->f.pts[j]?=some q->jp q=true):ye f=wK f:=by
 rw [ye,decide_eq_true h1,decide_eq_true h2,wA.2]
 ·simp
 ·intro x hx;obtain⟨j,hj⟩:=eH hx;exact h3 j x (zgs hj).1 hj
theorem GZ{f:Ft}{q:qj}{i:Nat}(hq:f.pts[i]?=some q)(h:¬jp q=true):ye f=false:=by
 have:f.pts.all jp=false:=by
  rw [List.all_eq_false];exact⟨q,zmg hq,h⟩
 rw [ye,this];simp
theorem HW{f:Ft}(h:f.pts.length=0):wK f=false:=by
 rw [wK,h];split
 ·rfl
 ·split
  ·rfl
  ·split<;>rfl
theorem UP{f:Ft}(hn:f.pts.length<1000):DK 157 [Nm f] fun d=>d=.bool (ye f):=by
 refine yQ ?_;intros;refine qu (fun m E S nk=>∃i:Nat,i+m=f.pts.length/\(∀(j:Nat) q,j<i->f.pts[j]?=some q->jp q=true)/\E=[(1,.one (.ptr 0 0)),(3,.int f.pts.length),(4,.int i)]/\S=[(0,.cells [.f (.c (.int .i64 f.kind)),.f (.c (.int .i64 f.tex)),.f (.sl 2 f.pts.length (f.pts.flatMap qB))])]/\nk=1)
  ⟨f.pts.length,_,_,_,[],?wk,0,oM,fun j q hj=>oM,O,O,O⟩ ?_
 case wk=>exact qs
 rintro m E S nk ⟨i,hi,hok,rfl,rfl,rfl⟩;refine qa ?_;intros;refine qd rfl (fun ht2=>?_) (fun ht2=>?_)
 ·have ht2:i<f.pts.length:=by have:=xo ht2;omega
  obtain⟨q,hq⟩:∃q,f.pts[i]?=some q:=⟨_,zge ht2⟩;have e1:=jQ hq;refine qa ?_;intros;refine qd rfl (fun hb=>?_) (fun hb=>?_)
  ·rw [yc,yc,yc] at hb;simp only [JL,yA] at hb;have hb:¬jp q=true:=by rw [yU];omega
   refine qa ?_;intros;exact qb ⟨_,rfl,rfl,by rw [GZ hq hb]⟩
  ·rw [yc,yc,yc] at hb;simp only [Ce,decide_eq_false_iff_not] at hb;have hb:jp q=true:=by rw [yU];omega
   refine qa ?_;intros;refine⟨m-1,oM,_,_,_,[],?wk1,i+1,oM,?hno,rfl,rfl,rfl⟩
   case hno=>
    intro j q' hj hq';by_cases hji:j=i
    ·subst hji;rw [hq] at hq';rw [<-zsi hq'];exact hb
    ·exact hok j q' oM hq'
   case wk1=>exact qs
 ·have ht2:i=f.pts.length:=by have:=zK ht2;omega
  subst ht2;refine qa ?_;intros;refine qd rfl (fun hg=>?_) (fun hg=>?_)
  ·have hg:=xo hg;refine qa ?_;intros;refine qb ⟨_,rfl,rfl,congrArg DV.bool ?_⟩;rw [ye,decide_eq_false (show¬f.pts.length<=12 by omega),Bool.and_false];rfl
  ·have hg:=zK hg;have hv:ye f=wK f:=by
    by_cases h0:f.pts.length=0
    ·rw [HW h0,ye,h0];rfl
    ·exact MD oM oM hok
   rw [hv];refine qa ?_;intros;refine qd rfl (fun h1=>?_) (fun h1=>?_)
   ·have h1:f.kind=1:=by simpa using h1
    refine qa ?_;intros;refine qb ⟨_,rfl,rfl,congrArg DV.bool ?_⟩;rw [WY,wK,if_pos h1];congr 1;exact CX _
   ·have h1:¬f.kind=1:=by simpa using h1
    refine qa ?_;intros;refine qd rfl (fun h2=>?_) (fun h2=>?_)
    ·have h2:f.kind=2:=by simpa using h2
     refine qa ?_;intros;refine qb ⟨_,rfl,rfl,congrArg DV.bool ?_⟩;rw [WY,wK,if_neg h1,if_pos h2];congr 1;exact decide_eq_decide.2 oM
    ·have h2:¬f.kind=2:=by simpa using h2
     refine qa ?_;intros;refine qd rfl (fun h3=>?_) (fun h3=>?_)
     ·have h3:f.kind=3:=by simpa using h3
      refine qa ?_;intros;refine qb ⟨_,rfl,rfl,congrArg DV.bool ?_⟩;rw [WY,WY,wK,if_neg h1,if_neg h2,if_pos h3];congr 2;exact decide_eq_decide.2 oM
     ·have h3:¬f.kind=3:=by simpa using h3
      refine qa ?_;intros;refine qb ⟨_,rfl,rfl,congrArg DV.bool ?_⟩;rw [wK,if_neg h1,if_neg h2,if_neg h3]
def zg(lo hi p:qj):Prop:=(lo.1<=p.1/\p.1<=hi.1)/\lo.2<=p.2/\p.2<=hi.2
theorem Fd{a b p lo hi:qj}(h:Dg a b p=true)(ha:zg lo hi a)(hb:zg lo hi b):zg lo hi p:=by
 simp only [Dg,x8,yA] at h;unfold zg at *;omega
theorem RE(u v h t:Int):u*(h+t)-t*(u-v)=u*h+t*v:=by
 rw [Int.mul_add,sV,eP t u];omega
theorem BY(a b p:qj):(p.1-a.1)*(b.2-a.2)-(p.2-a.2)*(b.1-a.1)=(p.1-a.1)*(b.2-p.2)+(p.2-a.2)*(p.1-b.1):=by
 rw [<-RE,show b.2-p.2+(p.2-a.2)=b.2-a.2 by omega,show p.1-a.1-(p.1-b.1)=b.1-a.1 by omega]
theorem tV{a b p:qj}(ha:p.1<a.1)(hb:p.1<b.1):Z7 a b p=xor (decide (a.2<=p.2)) (decide (b.2<=p.2)):=by
 have e:=BY a b p;unfold Z7;by_cases h1:a.2<=p.2
 ·by_cases h2:b.2<=p.2
  ·simp [h1,h2]
  ·have m1:(p.1-a.1)*(b.2-p.2)<0:=Int.mul_neg_of_neg_of_pos oM oM;have m2:(p.2-a.2)*(p.1-b.1)<=0:=Int.mul_nonpos_of_nonneg_of_nonpos oM oM;rw [decide_eq_true h1,decide_eq_false h2,if_neg (by decide),if_pos (by omega),decide_eq_true (by omega)];rfl
 ·by_cases h2:b.2<=p.2
  ·have m1:0<=(p.1-a.1)*(b.2-p.2):=Int.mul_nonneg_of_nonpos_of_nonpos oM oM;have m2:0<(p.2-a.2)*(p.1-b.1):=Int.mul_pos_of_neg_of_neg oM oM;rw [decide_eq_false h1,decide_eq_true h2,if_neg (by decide),if_neg (by omega),decide_eq_true (by omega)];rfl
  ·simp [h1,h2]
theorem NQ{a b p:qj}(ha:a.1<p.1)(hb:b.1<p.1):Z7 a b p=false:=by
 have e:=BY a b p;unfold Z7;by_cases h1:a.2<=p.2
 ·by_cases h2:b.2<=p.2
  ·simp [h1,h2]
  ·have m1:0<(p.1-a.1)*(b.2-p.2):=Int.mul_pos oM oM;have m2:0<=(p.2-a.2)*(p.1-b.1):=Int.mul_nonneg oM oM;rw [decide_eq_true h1,decide_eq_false h2,if_neg (by decide),if_pos (by omega),decide_eq_false (by omega)]
 ·by_cases h2:b.2<=p.2
  ·have m1:(p.1-a.1)*(b.2-p.2)<=0:=Int.mul_nonpos_of_nonneg_of_nonpos oM oM;have m2:(p.2-a.2)*(p.1-b.1)<0:=Int.mul_neg_of_neg_of_pos oM oM;rw [decide_eq_false h1,decide_eq_true h2,if_neg (by decide),if_neg (by omega),decide_eq_false (by omega)]
  ·simp [h1,h2]
theorem tW{a b p:qj}(h:decide (a.2<=p.2)=decide (b.2<=p.2)):Z7 a b p=false:=by rw [Z7,if_pos h]
theorem oK{L:List qj}{p:qj}:∀{n:Nat},(∀i,i<n->cE L p i=false)->kF L p n=false
 |0,_=>rfl
 |n+1,h=>by rw [kF,oK (n:=n) (fun i hi=>h i (by omega)),h n (by omega)];rfl
theorem oL{L:List qj}{p:qj}(h:∀i,i<L.length->p.1<(zI L i).1):∀{n:Nat},n<L.length->kF L p n=xor (decide ((zI L 0).2<=p.2)) (decide ((zI L n).2<=p.2))
 |0,_=>by rw [kF];simp
 |n+1,hn=>by
  have e:jK L n=n+1:=by rw [jK,kJ (by omega)]
  rw [kF,oL h (n:=n) (by omega),cE,e,tV (h n (by omega)) (h (n+1) (by omega))];cases decide ((zI L 0).2<=p.2)<;>cases decide ((zI L n).2<=p.2)<;>cases decide ((zI L (n+1)).2<=p.2)<;>rfl
theorem XL{L:List qj}{i:Nat}(hi:i<L.length):zI L i∈L:=by
 rw [zI,zge hi];exact sP hi
theorem kw{L:List qj}{i:Nat}(hi:i<L.length):jK L i<L.length:=kp _ oM
theorem Ga{L:List qj}{lo hi p:qj}(hL:∀q∈L,zg lo hi q)(h:Zz L p=true):zg lo hi p:=by
 have hat:∀i,i<L.length->zg lo hi (zI L i):=fun i hi=>hL _ (XL hi);rw [Zz,JL] at h;rcases h with h|h
 ·obtain⟨i,hi,h⟩:=List.any_eq_true.1 h;have hi:=jF.1 hi;exact Fd h (hat i hi) (hat _ (kw hi))
 ·have h0:0<L.length:=by
   cases hl:L.length with
   |zero=>rw [hl] at h;cases h
   |succ=>omega
  have no:(∀i,i<L.length->cE L p i=false)->False:=fun hno=>by
   rw [oK hno] at h;cases h
  have h1:lo.2<=p.2:=by
   false_or_by_contra
   refine no fun i hi=>tW ?_;have g1:=hat i hi;have g2:=hat _ (kw hi);unfold zg at g1 g2;rw [decide_eq_false (by omega),decide_eq_false (by omega)]
  have h2:p.2<=hi.2:=by
   false_or_by_contra
   refine no fun i hi=>tW ?_;have g1:=hat i hi;have g2:=hat _ (kw hi);unfold zg at g1 g2;rw [decide_eq_true (by omega),decide_eq_true (by omega)]
  have h3:p.1<=hi.1:=by
   false_or_by_contra
   refine no fun i hi=>NQ ?_ ?_
   ·have g1:=hat i hi;unfold zg at g1;omega
   ·have g1:=hat _ (kw hi);unfold zg at g1;omega
  have h4:lo.1<=p.1:=by
   false_or_by_contra
   have hl:∀i,i<L.length->p.1<(zI L i).1:=fun i hi=>by
    have g1:=hat i hi;unfold zg at g1;omega
   obtain⟨n,hn⟩:∃n,L.length=n+1:=⟨L.length-1,oM⟩;have e:jK L n=0:=by rw [jK,<-hn,Nat.mod_self]
   rw [hn,kF,oL hl (n:=n) (by omega),cE,e,tV (hl n (by omega)) (hl 0 h0)] at h;cases hx:decide ((zI L 0).2<=p.2)<;>cases hy:decide ((zI L n).2<=p.2)<;>rw [hx,hy] at h<;>cases h
  exact⟨⟨h4,h3⟩,h1,h2⟩
def CL(L:List qj):List qj:=(List.range (L.length-1)).flatMap fun i=>yC (zI L i) (zI L (jK L i))
def aT(L:List qj):List qj:=(List.range L.length).flatMap fun i=>yC (zI L i) (zI L (jK L i))
def f7:List qj:=(List.range 60).flatMap fun (y:Nat)=>(List.range 60).map fun (x:Nat)=>((x:Int),(y:Int))
theorem Vp{p:qj}:p∈f7↔jp p=true:=by
 obtain⟨x,y⟩:=p;rw [yU];simp only [f7,nN,j6,jF,zpi];constructor
 ·rintro ⟨b,hb,a,ha,rfl,rfl⟩;omega
 ·rintro ⟨⟨h1,h2⟩,h3,h4⟩;exact⟨y.toNat,oM,x.toNat,oM,oM,oM⟩
def yD(f:Ft):List qj:=f7.filter fun p=>Zm f.tex p&&Zz f.pts p
def xV(f:Ft):List qj:=if f.kind=1 then f.pts else if f.kind=2 then xy (CL f.pts) else xy (aT f.pts++yD f)
theorem DL{L:List qj}{p:qj}:p∈aT L↔∃(i:Nat) (a b:qj),L[i]?=some a/\L[jK L i]?=some b/\p∈yC a b:=by
 simp only [aT,nN,jF];constructor
 ·rintro ⟨i,hi,hp⟩;exact⟨i,_,_,zge hi,zge (kw hi),by simpa [zI,zge hi,zge (kw hi)] using hp⟩
 ·rintro ⟨i,a,b,ha,hb,hp⟩;exact⟨i,(zgs ha).1,by rw [wT ha,wT hb];exact hp⟩
theorem LH{L:List qj}{p:qj}:p∈CL L↔∃(i:Nat) (a b:qj),i<L.length-1/\L[i]?=some a/\L[i+1]?=some b/\p∈yC a b:=by
 simp only [CL,nN,jF];constructor
 ·rintro ⟨i,hi,hp⟩;have e:jK L i=i+1:=by rw [jK,kJ (by omega)]
  rw [e] at hp;exact⟨i,_,_,hi,zge (by omega),zge (by omega),by simpa [zI,zge (show i<L.length by omega),zge (show i+1<L.length by omega)] using hp⟩
 ·rintro ⟨i,a,b,hi,ha,hb,hp⟩;have e:jK L i=i+1:=by rw [jK,kJ (by omega)]
  exact⟨i,hi,by rw [e,wT ha,wT hb];exact hp⟩
theorem X5{f:Ft}(h:ye f=true):(1<=f.pts.length/\f.pts.length<=12)/\(∀p∈f.pts,jp p=true)/\wK f=true:=by
 simp only [ye,x8,yA,wA] at h;exact⟨h.1.1,h.1.2,h.2⟩
theorem HZ{p:qj}(h:jp p=true):xf 1000 p:=by
 rw [yU] at h;unfold xf;omega
theorem oS(a b:qj):a∈yC a b:=by
 have h:=WT a b (k:=0) (by rw [Qt];omega);rw [CY] at h;exact zmg h
def Y7:Nat->List C->Bool
 |0,[]=>true
 |n+1,.bool false::l=>Y7 n l
 |_,_=>false
theorem cS:∀{n:Nat} {l:List C},Y7 n l=true->l=List.replicate n (.bool false)
 |0,[],_=>rfl
 |0,c::l,h=>by simp [Y7] at h
 |n+1,[],h=>by simp [Y7] at h
 |n+1,c::l,h=>by
  cases c with
  |bool b=>
   cases b with
   |false=>
    have:=cS (n:=n) (l:=l) h;rw [this,LZ]
   |true=>simp [Y7] at h
  |_=>simp [Y7] at h
def bC(b:Bool):DC:=.f (.c (.bool b))
def km(A:List Bool):Bk:=.cells (A.map bC)
theorem Xs(ρ:List (Nat × Nat))(A:List Bool):fI ρ (km A)=km A:=by
 simp only [fI,km,lL,List.map_map];congr 1
theorem CN(n:Nat):∀A:List Bool,xa (YS n) (A.map bC)=true
 |[]=>rfl
 |b::A=>by rw [jr,xa,CN n A];rfl
theorem Xo(n:Nat)(A:List Bool):Cv n (km A)=true:=CN n A
theorem fD{α:Type}:∀(l pre X:List α),l.length=X.length->setLs (pre++X) pre.length l=pre++l
 |[],pre,[],_=>rfl
 |[],_,_::_,h=>by simp at h
 |_::_,_,[],h=>by simp at h
 |c::l,pre,x::X,h=>by
  rw [setLs];have:(pre++x::X).set pre.length c=(pre++[c])++X:=sM;rw [this,show pre.length+1=(pre++[c]).length by simp,fD l (pre++[c]) X (by simpa using h)];simp
theorem M5{α:Type}{l X:List α}(h:l.length=X.length):setLs X 0 l=l:=by simpa using fD l [] X h
theorem Nz {p:Par} {base rs:Nat} {Q:qk->Bx->Nat->Prop} {r:List SOper} {A:List Nat} {E:qk} {i1 i2 i3 n:Nat} {z z':List C} (hz:Y7 n z=true) (hz':Y7 n z'=true)
 (h:DPW p base rs Q r [] A ((3,.one (.ptr 0 0))::(9,.agg ((List.replicate n (C.bool false)).map Qj))::E) [(0,km (List.replicate n false))] 1):DPW p base rs Q (⟨i1,some 9,.p (.build z []),none,none,[],false⟩::⟨i2,some 3,.a (.alloc z'),none,none,[],false⟩::⟨i3,none,.e (.store n (.t 3) (.t 9)),none,none,[],false⟩::r) [] A E [] 0:=by
 obtain rfl:=cS hz;obtain rfl:=cS hz';refine zi (d:=.agg ((List.replicate n (.bool false)).map Qj)) rfl ?_;refine Qf (x:=.cells ((List.replicate n (.bool false)).map Qj)) rfl ?_;refine wh (k:=0) (o:=0) rfl rfl rfl (by simp) rfl (by simp [Bk.len]) rfl ?_;have e:Zw (.cells ((List.replicate n (C.bool false)).map Qj)) 0 ((List.replicate n (C.bool false)).map Qj)=km (List.replicate n false):=by
  rw [Zw,M5 rfl,km];simp [bC,Qj]
 rw [<-e] at h;exact h
theorem aP{E:qk}{x i:Opd}{k o len esz:Nat}{kd:IntKind}{j:Int}(hx:ro E x=some (.one (.ptr k o)))(hi:ro E i=some (.one (.f (.c (.int kd j)))))(h0:0<=j)(h1:j<len):zj E (.aaddr len esz x i)=some (.one (.ptr k (o+j.toNat*esz))):=by
 have e:idx j len=some j.toNat:=by
  obtain⟨n,rfl⟩:=sQ h0;have:n<len:=oM;show (match Nat.blt n len with|true=>some n|false=>none)=_
  rw [show Nat.blt n len=true by simpa using this];rfl
 simp only [zj,hx,hi,e]
theorem PG{p:Par}{E:qk}{S:Bx}{a:Opd}{k o:Nat}{A:List Bool}{b:Bool}(ha:ro E a=some (.one (.ptr k o)))(hk:lk S k=some (km A))(hb:A[o]?=some b):jB p E S false 1 a=some (.bool b):=by
 have h1:o<A.length:=(zgs hb).1;have e:xd (A.map bC) o 1=some [bC b]:=by
  unfold xd;rw [show Nat.ble (o+1) (A.map bC).length=true by simp;omega];simp only [zoi];rw [<-List.map_drop,kr h1];simp [(zgs hb).2]
 simp only [jB,ha,KE,hk,km,e];rfl
theorem Eq(A:List Bool)(o:Nat)(b:Bool):Zw (km A) o [bC b]=km (A.set o b):=by
 rw [km,Zw,setLs,setLs,km,eQ]
def zO(L:List qj)(n:Nat):List qj:=(List.range n).flatMap fun i=>yC (zI L i) (zI L (jK L i))
theorem Jx(L:List qj)(n:Nat):zO L (n+1)=zO L n++yC (zI L n) (zI L (jK L n)):=by
 simp [zO,XY]
theorem X9{L:List qj}(hl:Wo L):∀n,n<=L.length->(zO L n).length<=2001*n
 |0,_=>by simp [zO]
 |n+1,h=>by
  have h1:=X9 hl n oM;have h2:=Yd (hl _ (XL (i:=n) oM)) (hl _ (XL (kw (i:=n) oM)));rw [Jx,qE];omega
theorem Hh{L:List qj}{n:Nat}(hl:Wo L)(hn:L.length<100)(hnl:n<=L.length):DK 178 [xt L,.int n] fun d=>d=xt (zO L n):=by
 refine yQ ?_;intros;refine qu (fun m E S nk=>∃i:Nat,i+m=n/\E=[(0,xt L),(1,.int n),(5,.one (.own 0 0 (zO L i).length 2)),(6,.int i)]/\S=[(0,.data ((zO L i).flatMap qB))]/\nk=1)
  ⟨n,_,_,_,[],?wk,0,oM,rfl,rfl,rfl⟩ ?_
 case wk=>exact qs
 rintro m E S nk ⟨i,hi,rfl,rfl,rfl⟩;refine qa ?_;intros;refine qd rfl (fun ht=>?_) (fun ht=>?_)
 ·have ht:i<n:=by have:=xo ht;omega
  have ha:L[i]?=some (zI L i):=by rw [zI,zge (by omega)];rfl
  have hb:L[jK L i]?=some (zI L (jK L i)):=by rw [zI,zge (kw (by omega))];rfl
  have hsa:=hl _ (zmg ha);have hsb:=hl _ (zmg hb);have h1:=X9 hl i oM;have h2:=Yd hsa hsb;have hfl:=zu (zO L i);have hf2:=zu (yC (zI L i) (zI L (jK L i)));refine qa ?_;intros;refine x6 rfl rfl (BH oM oM ha hb) ?_;intros;refine qf rfl rfl (FX hsa hsb) ?_;rintro _ rfl;refine qZ (m:=(yC (zI L i) (zI L (jK L i))).length) (q:=(yC (zI L i) (zI L (jK L i))).flatMap qB) rfl rfl rfl (qD _ hfl) ⟨rfl,rfl,rfl⟩ oM oM qr rfl ?_;rw [<-X0,<-qE,<-Jx];refine qa ?_;intros;refine⟨m-1,oM,_,_,_,[(0,3)],?wk1,i+1,oM,rfl,rfl,rfl⟩
  case wk1=>exact qs
 ·have ht:i=n:=by have:=zK ht;omega
  subst ht;have hfl:=zu (zO L i);refine qa ?_;intros;refine qx (qg (k:=4) rfl (qv _)) (qg (k:=0) rfl (qv _)) ?_;refine qF 0 rfl qo qo ?_;exact qb ⟨_,rfl,rfl,rfl⟩
def wo(y n:Nat):List qj:=(List.range n).map fun (x:Nat)=>((x:Int),(y:Int))
def y7(y:Nat):List qj:=(List.range y).flatMap fun (y:Nat)=>wo y 60
theorem YX(y n:Nat):wo y (n+1)=wo y n++[((n:Int),(y:Int))]:=by simp [wo,XY]
theorem ZE(y:Nat):y7 (y+1)=y7 y++wo y 60:=by simp [y7,XY]
theorem cF(y n:Nat):(wo y n).length=n:=by simp [wo]
theorem Za:∀y:Nat,(y7 y).length=60*y
 |0=>rfl
 |y+1=>by rw [ZE,qE,Za y,cF];omega
theorem Vo:y7 60=f7:=rfl
theorem oB(y:Nat):∀n,zo (wo y n)
 |0=>List.Pairwise.nil
 |n+1=>by
  rw [YX];refine L0.2 ⟨oB y n,by simp,fun a ha b hb=>?_⟩;rw [xM] at hb;subst hb;simp only [wo,j6,jF] at ha;obtain⟨x,hx,rfl⟩:=ha;rw [QZ];exact .inr ⟨rfl,show (x:Int)<(n:Int) by omega⟩
theorem f6:∀n,zo (y7 n)
 |0=>List.Pairwise.nil
 |n+1=>by
  rw [ZE];refine L0.2 ⟨f6 n,oB n 60,fun a ha b hb=>?_⟩;simp only [y7,wo,nN,j6,jF] at ha hb;obtain⟨y,hy,x,hx,rfl⟩:=ha;obtain⟨x',hx',rfl⟩:=hb;rw [QZ];simp only;omega
theorem tB{l:List qj}(h:∀p∈l,jp p=true):f7.filter (fun p=>decide (p∈l))=xy l:=by
 refine zo.ext ?_ (wE l) fun p=>?_
 ·rw [<-Vo];exact (f6 60).filter _
 ·rw [nM,Vp,y4];simp only [yA];exact⟨fun h=>h.2,fun hp=>⟨h p hp,hp⟩⟩
structure Marks (l:List qj) (A:List Bool):Prop where
 len:A.length=3600
 at_:∀p,jp p=true->A[0+p.2.toNat*60+p.1.toNat*1]?=some (decide (p∈l))
theorem Marks.nil:Marks [] (List.replicate 3600 false):=⟨by rw [xN],fun p hp=>by
 rw [yU] at hp;rw [Zu,if_pos (by omega)];simp⟩
theorem Marks.snoc{l:List qj}{A:List Bool}{q:qj}(h:Marks l A)(hq:jp q=true):Marks (l++[q]) (A.set (0+q.2.toNat*60+q.1.toNat*1) true):=⟨by rw [jG];exact h.len,fun p hp=>by
 have hl:=h.len;have h1:=h.at_ p hp;rw [yU] at hp hq;rw [Q4];by_cases he:p=q
 ·subst he;rw [if_pos rfl,if_pos (by omega),decide_eq_true (by simp)]
 ·have hne:¬(p.1=q.1/\p.2=q.2):=fun h=>he (Prod.ext h.1 h.2);rw [if_neg (by omega),h1];simp [he]⟩
set_option maxRecDepth 100000 in
theorem bR{l:List qj}(hin:∀p∈l,jp p=true)(hn:l.length<1000000):DK 177 [xt l] fun d=>d=xt (xy l):=by
 refine vL fun Z0 lo=>?_;refine yn ?_;refine yv vB (fun base=>?_);refine zi rfl ?_;refine jd ?_;refine yn ?_;refine yv vB (fun base=>?_);refine Nz (by kernel_rfl) (by kernel_rfl) ?_;refine qa ?_;intros;refine qu (fun m E S nk=>∃(i:Nat) (A:List Bool),i+m=l.length/\Marks (l.take i) A/\E=[(0,xt l),(3,.one (.ptr 0 0)),(4,.int i)]/\S=[(0,km A)]/\nk=1)
  ⟨l.length,_,_,_,[],?wk,0,_,oM,Marks.nil,rfl,rfl,rfl⟩ ?_
 case wk=>exact⟨Xb,⟨by rw [Xs];rfl,Xo _ _,rfl,trivial⟩,rfl,rfl⟩
 rintro m E S nk ⟨i,A,hi,hM,rfl,rfl,rfl⟩;refine qa ?_;intros;refine qd rfl (fun ht=>?_) (fun ht=>?_)
 ·have ht:i<l.length:=by have:=xo ht;omega
  obtain⟨q,hq⟩:∃q,l[i]?=some q:=⟨_,zge ht⟩;have e1:=jQ hq;have hq6:=hin q (zmg hq);have hq60:=yU.1 hq6;have b1:decide (q.1>=0)=true:=decide_eq_true hq60.1.1;have b2:decide (q.2>=0)=true:=decide_eq_true hq60.2.1;have b3:decide (q.1<60)=true:=decide_eq_true hq60.1.2;have b4:decide (q.2<60)=true:=decide_eq_true hq60.2.2;refine zh ?_;intros;refine qd rfl (fun _=>?_) (fun ht=>by cases ht);refine zh ?_;intros;refine zi (aP rfl rfl hq60.2.1 hq60.2.2) ?_;refine zh ?_;intros;refine zi (aP rfl rfl hq60.1.1 hq60.1.2) ?_;have hlen:0+q.2.toNat*60+q.1.toNat*1+1<=(km A).len:=by
   simp only [km,Bk.len,xX,hM.len];omega
  refine wh rfl rfl rfl rfl rfl hlen rfl ?_;refine jd ?_;have hM2:Marks (l.take (i+1)) (A.set (0+q.2.toNat*60+q.1.toNat*1) true):=by
   rw [Q5,hq];exact hM.snoc hq6
  refine qx (E0:=[(0,xt l),(3,.one (.ptr 0 0)),(4,.int i)]) (S0:=[(0,km (A.set (0+q.2.toNat*60+q.1.toNat*1) true))]) (qg rfl (qg rfl (qg rfl (qv _)))) (qg (congrArg some (Eq A _ true)) (qv _)) ?_;refine qa ?_;intros;refine⟨m-1,oM,_,_,_,[],?wk1,i+1,_,oM,hM2,rfl,rfl,rfl⟩
  case wk1=>exact⟨Xb,⟨by rw [Xs];rfl,Xo _ _,rfl,trivial⟩,rfl,rfl⟩
 ·have ht:i=l.length:=by have:=zK ht;omega
  subst ht;rw [vE] at hM;refine qa ?_;intros;refine qu (fun m E S nk=>∃(y:Nat) (out:List qj),y+m=60/\out=(y7 y).filter (fun p=>decide (p∈l))/\E=[(3,.one (.ptr 0 0)),(6,.one (.own 1 0 out.length 2)),(7,.int y)]/\S=[(0,km A),(1,.data (out.flatMap qB))]/\nk=2)
   ⟨60,_,_,_,[],?wk2,0,[],rfl,rfl,rfl,rfl,rfl⟩ ?_
  case wk2=>exact⟨Xb,⟨by rw [Xs];rfl,Xo _ _,rfl,rfl,rfl,rfl,trivial⟩,rfl,rfl⟩
  rintro m E S nk ⟨y,out,hy,ho,rfl,rfl,rfl⟩;refine qa ?_;intros;refine qd rfl (fun hy2=>?_) (fun hy2=>?_)
  ·have hy2:y<60:=by have:=xo hy2;omega
   refine qa ?_;intros;refine qu (fun m E S nk=>∃(x:Nat) (out:List qj),x+m=60/\out=(y7 y++wo y x).filter (fun p=>decide (p∈l))/\E=[(3,.one (.ptr 0 0)),(6,.one (.own 1 0 out.length 2)),(7,.int y),(8,.int x)]/\S=[(0,km A),(1,.data (out.flatMap qB))]/\nk=2)
    ⟨60,_,_,_,[],?wk3,0,out,rfl,by rw [ho];simp [wo],rfl,rfl,rfl⟩ ?_
   case wk3=>exact⟨Xb,⟨by rw [Xs];rfl,Xo _ _,rfl,rfl,rfl,rfl,trivial⟩,rfl,rfl⟩
   rintro m2 E S nk ⟨x,out2,hx,ho2,rfl,rfl,rfl⟩;refine qa ?_;intros;refine qd rfl (fun hx2=>?_) (fun hx2=>?_)
   ·have hx2:x<60:=by have:=xo hx2;omega
    have hp:=hM.at_ ((x:Int),(y:Int)) (by rw [yU];simp only;omega);have hle:out2.length<=3600:=by
     have h1:out2.length<=(y7 y++wo y x).length:=by rw [ho2];exact nR _ _
     have h2:(y7 y++wo y x).length=60*y+x:=by rw [qE,Za,cF]
     omega
    have hfl:=zu out2;refine qa ?_;intros;refine zi (aP rfl rfl (eO _) oM) ?_;refine qa ?_;intros;refine zi (aP rfl rfl (eO _) oM) ?_;refine xZ (PG rfl rfl hp) ?_;refine qa ?_;intros;refine qd rfl (fun hb=>?_) (fun hb=>?_)
    ·have hb:decide (((x:Int),(y:Int))∈l)=true:=hb;refine qa ?_;intros;refine qZ (m:=1) (q:=qB ((x:Int),(y:Int))) rfl rfl rfl (qD _ hfl) ⟨rfl,rfl,_,rfl,rfl⟩ oM oM qr rfl ?_;have h3:(y7 y++wo y (x+1)).filter (fun p=>decide (p∈l))=out2++[((x:Int),(y:Int))]:=by rw [YX,<-j5,List.filter_append,<-ho2];simp [xo hb]
     rw [show out2.flatMap qB++qB ((x:Int),(y:Int))=(out2++[((x:Int),(y:Int))]).flatMap qB by simp,show out2.length+1=(out2++[((x:Int),(y:Int))]).length by simp];refine qa ?_;intros;refine⟨m2-1,oM,_,_,_,[(1,3)],?wk6,x+1,out2++[((x:Int),(y:Int))],oM,h3.symm,rfl,rfl,rfl⟩
     case wk6=>exact⟨Xb,⟨by rw [Xs];rfl,Xo _ _,rfl,rfl,rfl,rfl,trivial⟩,rfl,rfl⟩
    ·have hb:decide (((x:Int),(y:Int))∈l)=false:=hb;refine qa ?_;intros;refine⟨m2-1,by omega,_,_,_,[],?wk4,x+1,out2,by omega,by rw [YX,<-j5,List.filter_append,<-ho2];simp [hb],rfl,rfl,rfl⟩
     case wk4=>exact⟨Xb,⟨by rw [Xs];rfl,Xo _ _,rfl,rfl,rfl,rfl,trivial⟩,rfl,rfl⟩
   ·have hx2:x=60:=by have:=zK hx2;omega
    subst hx2;refine qa ?_;intros;refine⟨m-1,by omega,_,_,_,[],?wk5,y+1,out2,by omega,by rw [ZE];exact ho2,rfl,rfl,rfl⟩
    case wk5=>exact⟨Xb,⟨by rw [Xs];rfl,Xo _ _,rfl,rfl,rfl,rfl,trivial⟩,rfl,rfl⟩
  ·have hy2:y=60:=by have:=zK hy2;omega
   subst hy2;refine qa ?_;intros;have he:out=xy l:=by rw [ho,Vo];exact tB hin
   have hfl:=zu out;refine qx (qg (k:=2) rfl (qv _)) (qg (k:=1) rfl (qv _)) ?_;refine qF 1 rfl qo qo ?_;refine qb ⟨_,rfl,rfl,?_⟩;rw [<-he];rfl
theorem UC{L:List qj}{n:Nat}(hl:Wo L)(hn:L.length<100)(hnl:n<=L.length):DKO 178 [xt L,.int n] fun d S nk=>d=.one (.own 0 0 (zO L n).length 2)/\S=[(0,.data ((zO L n).flatMap qB))]/\nk=1:=by
 refine FQ (pC 178).2 rfl ko fun Z0 lo=>?_;refine qa ?_;intros;refine qu (fun m E S nk=>∃i:Nat,i+m=n/\E=[(0,xt L),(1,.int n),(5,.one (.own 0 0 (zO L i).length 2)),(6,.int i)]/\S=[(0,.data ((zO L i).flatMap qB))]/\nk=1)
  ⟨n,_,_,_,[],?wk,0,oM,rfl,rfl,rfl⟩ ?_
 case wk=>exact qs
 rintro m E S nk ⟨i,hi,rfl,rfl,rfl⟩;refine qa ?_;intros;refine qd rfl (fun ht=>?_) (fun ht=>?_)
 ·have ht:i<n:=by have:=xo ht;omega
  have ha:L[i]?=some (zI L i):=by rw [zI,zge (by omega)];rfl
  have hb:L[jK L i]?=some (zI L (jK L i)):=by rw [zI,zge (kw (by omega))];rfl
  have hsa:=hl _ (zmg ha);have hsb:=hl _ (zmg hb);have h1:=X9 hl i oM;have h2:=Yd hsa hsb;have hfl:=zu (zO L i);have hf2:=zu (yC (zI L i) (zI L (jK L i)));refine qa ?_;intros;refine x6 rfl rfl (BH oM oM ha hb) ?_;intros;refine qf rfl rfl (FX hsa hsb) ?_;rintro _ rfl;refine qZ (m:=(yC (zI L i) (zI L (jK L i))).length) (q:=(yC (zI L i) (zI L (jK L i))).flatMap qB) rfl rfl rfl (qD _ hfl) ⟨rfl,rfl,rfl⟩ oM oM qr rfl ?_;rw [<-X0,<-qE,<-Jx];refine qa ?_;intros;refine⟨m-1,oM,_,_,_,[(0,3)],?wk1,i+1,oM,rfl,rfl,rfl⟩
  case wk1=>exact qs
 ·have ht:i=n:=by have:=zK ht;omega
  subst ht;have hfl:=zu (zO L i);refine qa ?_;intros;exact qb ⟨_,rfl,rfl,_,wC _,rfl,rfl,rfl⟩
theorem HV{a b p:qj}(ha:jp a=true)(hb:jp b=true)(h:p∈yC a b):jp p=true:=by
 obtain⟨k,hk⟩:=eH h;have h1:=(zgs hk).1;rw [Vj] at h1;have hf:=Qt a b;have h2:(k:Int)<=zE a b:=oM;rw [WT a b h2] at hk;obtain rfl:=zsi hk;have h3:=oT a b h2;rw [yU] at *;omega
theorem bM{L:List qj}(hL:∀p∈L,jp p=true){n:Nat}(hn:n<=L.length){p:qj}(h:p∈zO L n):jp p=true:=by
 simp only [zO,nN,jF] at h;obtain⟨i,hi,hp⟩:=h;exact HV (hL _ (XL oM)) (hL _ (XL (kw oM))) hp
theorem Hc{t:Int}{k:Nat}{p:qj}(ht:t=k)(hk:k<4)(hp:xf 1000 p):DK 179 [.int t,wd p] fun d=>d=.bool (Zm t p):=by rw [ht];exact Oj hk hp
theorem pJ{f:Ft}(hv:ye f=true):DK 159 [Nm f] fun d=>d=xt (xV f):=by
 obtain⟨⟨hn1,hn2⟩,hin,hk⟩:=X5 hv;have hsm:Wo f.pts:=fun p hp=>HZ (hin p hp);refine vL fun Z0 lo=>?_;by_cases h1:f.kind=1
 ·have b1:(f.kind==1)=true:=by simpa using h1
  refine zh ?_;intros;refine qd rfl (fun _=>?_) (fun ht=>by cases ht);refine zh ?_;intros;refine qb ⟨_,rfl,rfl,?_⟩;rw [xV,if_pos h1];rfl
 ·have b1:(f.kind==1)=false:=by simpa using h1
  by_cases h2:f.kind=2
  ·have b2:(f.kind==2)=true:=by simpa using h2
   have hw:IntKind.i64.wrap ((f.pts.length:Int)-1)=((f.pts.length-1:Nat):Int):=by rw [qm (by omega) (by omega)];omega
   have hll:=X9 hsm (f.pts.length-1) oM;refine zh ?_;intros;refine qd rfl (fun ht=>by cases ht) (fun _=>?_);refine zh ?_;intros;refine qd rfl (fun _=>?_) (fun ht=>by cases ht);refine zh ?_;intros;rw [hw];refine qf rfl rfl (Hh hsm oM oM) ?_;rintro _ rfl;refine cfB rfl rfl (bR (fun p hp=>bM hin oM hp) oM) ?_;intros;refine qb ⟨_,rfl,rfl,?_⟩;rw [xV,if_neg h1,if_pos h2];rfl
  ·have b2:(f.kind==2)=false:=by simpa using h2
   obtain⟨k,hk4,hft⟩:∃k:Nat,k<4/\f.tex=k:=by
    rw [wK,if_neg h1,if_neg h2] at hk;by_cases h3:f.kind=3
    ·rw [if_pos h3] at hk;simp at hk;exact⟨f.tex.toNat,oM,oM⟩
    ·rw [if_neg h3] at hk;cases hk
   have hll:=X9 hsm f.pts.length oM;refine zh ?_;intros;refine qd rfl (fun ht=>by cases ht) (fun _=>?_);refine zh ?_;intros;refine qd rfl (fun ht=>by cases ht) (fun _=>?_);refine zh ?_;intros;refine zw rfl rfl (UC hsm oM oM) ?_;rintro _ _ _ ⟨rfl,rfl,rfl⟩;refine zi rfl ?_;refine qa ?_;intros;refine qu (fun m E S nk=>∃(y:Nat) (out:List qj),y+m=60/\out=zO f.pts f.pts.length++(y7 y).filter (fun p=>Zm f.tex p&&Zz f.pts p)/\E=[(1,.one (.ptr 0 0)),(3,.one (.own 1 0 out.length 2)),(4,.int y)]/\S=[(0,.cells [.f (.c (.int .i64 f.kind)),.f (.c (.int .i64 f.tex)),.f (.sl 2 f.pts.length (f.pts.flatMap qB))]),(1,.data (out.flatMap qB))]/\nk=2)
    ⟨60,_,_,_,[],?wk2,0,zO f.pts f.pts.length,rfl,by simp [y7],rfl,rfl,rfl⟩ ?_
   case wk2=>exact qs
   rintro m E S nk ⟨y,out,hy,ho,rfl,rfl,rfl⟩;refine qa ?_;intros;refine qd rfl (fun hy2=>?_) (fun hy2=>?_)
   ·have hy2:y<60:=by have:=xo hy2;omega
    refine qa ?_;intros;refine qu (fun m E S nk=>∃(x:Nat) (out:List qj),x+m=60/\out=zO f.pts f.pts.length++(y7 y++wo y x).filter (fun p=>Zm f.tex p&&Zz f.pts p)/\E=[(1,.one (.ptr 0 0)),(3,.one (.own 1 0 out.length 2)),(4,.int y),(5,.int x)]/\S=[(0,.cells [.f (.c (.int .i64 f.kind)),.f (.c (.int .i64 f.tex)),.f (.sl 2 f.pts.length (f.pts.flatMap qB))]),(1,.data (out.flatMap qB))]/\nk=2)
     ⟨60,_,_,_,[],?wk3,0,out,rfl,by rw [ho];simp [wo],rfl,rfl,rfl⟩ ?_
    case wk3=>exact qs
    rintro m2 E S nk ⟨x,out2,hx,ho2,rfl,rfl,rfl⟩;refine qa ?_;intros;refine qd rfl (fun hx2=>?_) (fun hx2=>?_)
    ·have hx2:x<60:=by have:=xo hx2;omega
     have hxs:xf 1000 ((x:Int),(y:Int)):=by unfold xf;simp only;omega
     have hle:out2.length<=100000:=by
      have h1:((y7 y++wo y x).filter (fun p=>Zm f.tex p&&Zz f.pts p)).length<=(y7 y++wo y x).length:=nR _ _;have h2:(y7 y++wo y x).length=60*y+x:=by rw [qE,Za,cF]
      rw [ho2,qE];omega
     have hfl:=zu out2;have hstep:zO f.pts f.pts.length++(y7 y++wo y (x+1)).filter (fun p=>Zm f.tex p&&Zz f.pts p)=out2++(if (Zm f.tex ((x:Int),(y:Int))&&Zz f.pts ((x:Int),(y:Int)))=true then [((x:Int),(y:Int))] else []):=by
      rw [YX,<-j5,List.filter_append,<-j5,<-ho2];congr 1;rw [List.filter_cons,List.filter_nil]
     refine qa ?_;intros;refine qf rfl rfl (Hc hft hk4 hxs) ?_;rintro _ rfl;cases hb:Zm f.tex ((x:Int),(y:Int)) with
     |false=>
      rw [hb,Bool.false_and,if_neg (by decide),yI] at hstep;refine qa ?_;intros;refine qd rfl (fun ht=>by cases ht) (fun _=>?_);refine qa ?_;intros;refine⟨m2-1,oM,_,_,_,[],?wk4,x+1,out2,oM,hstep.symm,rfl,rfl,rfl⟩
      case wk4=>exact qs
     |true=>
      rw [hb,DT] at hstep;refine qa ?_;intros;refine x6 rfl rfl (PN (p:=((x:Int),(y:Int))) hsm hxs oM) ?_;intros;refine qd rfl (fun hi2=>?_) (fun hi2=>?_)
      ·have hi2:Zz f.pts ((x:Int),(y:Int))=true:=by simpa using hi2
       rw [hi2,if_pos rfl] at hstep;refine qa ?_;intros;refine qZ (m:=1) (q:=qB ((x:Int),(y:Int))) rfl rfl rfl (qD _ hfl) ⟨rfl,rfl,_,rfl,rfl⟩ oM oM qr rfl ?_;rw [show out2.flatMap qB++qB ((x:Int),(y:Int))=(out2++[((x:Int),(y:Int))]).flatMap qB by simp,show out2.length+1=(out2++[((x:Int),(y:Int))]).length by simp];refine qa ?_;intros;refine⟨m2-1,oM,_,_,_,[(1,4)],?wk6,x+1,out2++[((x:Int),(y:Int))],oM,hstep.symm,rfl,rfl,rfl⟩
       case wk6=>exact qs
      ·have hi2:Zz f.pts ((x:Int),(y:Int))=false:=by simpa using hi2
       rw [hi2,if_neg (by decide),yI] at hstep;refine qa ?_;intros;refine⟨m2-1,oM,_,_,_,[],?wk7,x+1,out2,oM,hstep.symm,rfl,rfl,rfl⟩
       case wk7=>exact qs
    ·have hx2:x=60:=by have:=zK hx2;omega
     subst hx2;refine qa ?_;intros;refine⟨m-1,by omega,_,_,_,[],?wk5,y+1,out2,by omega,by rw [ZE];exact ho2,rfl,rfl,rfl⟩
     case wk5=>exact qs
   ·have hy2:y=60:=by have:=zK hy2;omega
    subst hy2;have hfl:=zu out;have hout:out=aT f.pts++yD f:=ho;have hin2:∀p∈out,jp p=true:=fun p hp=>by
     rw [hout,xu] at hp;rcases hp with hp|hp
     ·exact bM hin (qz _) hp
     ·exact Vp.1 (nM.1 hp).1
    have hol:out.length<1000000:=by
     have h1:((y7 60).filter (fun p=>Zm f.tex p&&Zz f.pts p)).length<=(y7 60).length:=nR _ _;rw [Za] at h1;rw [ho,qE];omega
    refine qa ?_;intros;refine FH (E0:=[(54,.one (.own 1 0 out.length 2))]) (S0:=[(1,.data (out.flatMap qB))]) (qg rfl (qv _)) (qg rfl (qv _)) ?_;refine qY 1 rfl qo qo ?_;refine qf (ds:=[xt out]) rfl rfl (bR hin2 hol) ?_;rintro _ rfl;refine qa ?_;intros;refine qb ⟨_,rfl,rfl,?_⟩;rw [xV,if_neg h1,if_neg h2,<-hout];rfl
structure Pic where
 w:Int
 h:Int
 gap:Int
 fs:List Ft
def WP(p:Pic):List DC:=[.f (.c (.int .i64 p.w)),.f (.c (.int .i64 p.h)),.f (.c (.int .i64 p.gap)),.f (.sl 3 p.fs.length (p.fs.flatMap ZA))]
def Qa(p:Pic):DV:=.agg (WP p)
theorem ON{l:List Ft}{i:Nat}{x:Ft}(h:l[i]?=some x):xd (l.flatMap ZA) (i*3) 3=some (ZA x):=zp (e:=3) (fun _=>rfl) h
theorem EZ(l:List Ft):(l.flatMap ZA).length=l.length*3:=qO (f:=ZA) (e:=3) (fun _=>rfl) l
def QR(p:Pic):Bool:=(decide (4<=p.w)&&decide (p.w<=60)&&decide (p.w.tmod 2=0))&&(decide (3<=p.h)&&decide (p.h<=60)&&decide (p.h.tmod 3=0))
def Jb(p:Pic):Bool:=(decide (2<=p.gap)&&decide (p.gap<=6))&&(decide (1<=p.fs.length)&&decide (p.fs.length<=8))
def lM(w h:Int)(q:qj):Bool:=decide (q.1<w)&&decide (q.2<h)
def W2(p:Pic)(f:Ft):Bool:=ye f&&f.pts.all (lM p.w p.h)
def xQ(p:Pic):Bool:=(QR p&&Jb p)&&p.fs.all (W2 p)
def VZ(p:Pic):Prop:=p.fs.length<1000/\∀f∈p.fs,f.pts.length<1000
theorem Pn{a:Int}:(a !=0)=!decide (a=0):=by
 by_cases h:a=0
 ·simp [h]
 ·rw [decide_eq_false h];simpa using h
theorem XM{α:Type}{f:α->Bool}{l:List α}{i:Nat}{x:α}(hx:l[i]?=some x)(h:f x=false):l.all f=false:=by
 rw [List.all_eq_false];exact⟨x,zmg hx,by rw [h];decide⟩
theorem d9{α:Type}{f:α->Bool}{l:List α}(h:∀(j:Nat) x,j<l.length->l[j]?=some x->f x=true):l.all f=true:=by
 rw [wA];intro x hx;obtain⟨j,hj⟩:=eH hx;exact h j x (zgs hj).1 hj
def Y1(w h:Int)(q:qj):Bool:=(decide (0<=q.1)&&decide (q.1<w))&&(decide (0<=q.2)&&decide (q.2<h))
theorem Y0{w h:Int}{q:qj}(hb:q.1<0\/q.1>=w\/q.2<0\/q.2>=h):Y1 w h q=false:=by
 rw [Bool.eq_false_iff];intro h2;simp only [Y1,x8,yA] at h2;omega
theorem C7{l:List qj}{w h:Int}(hn:l.length<1000000):DK 158 [xt l,.int w,.int h] fun d=>d=.bool (l.all (Y1 w h)):=by
 refine yQ ?_;intros;refine qu (fun m E S nk=>∃i:Nat,i+m=l.length/\(∀(j:Nat) q,j<i->l[j]?=some q->Y1 w h q=true)/\E=[(0,xt l),(1,.int w),(2,.int h),(7,.int i)]/\S=[]/\nk=0)
  ⟨l.length,_,_,_,[],?wk,0,oM,fun j q hj=>oM,rfl,rfl,rfl⟩ ?_
 case wk=>exact qs
 rintro m E S nk ⟨i,hi,hok,rfl,rfl,rfl⟩;refine qa ?_;intros;refine qd rfl (fun ht=>?_) (fun ht=>?_)
 ·have ht:i<l.length:=by have:=xo ht;omega
  obtain⟨q,hq⟩:∃q,l[i]?=some q:=⟨_,zge ht⟩;have e1:=jQ hq;by_cases h1:q.1<0
  ·have b1:decide (q.1<0)=true:=decide_eq_true h1;refine zh ?_;intros;refine qd rfl (fun _=>?_) (fun ht=>by cases ht);refine zh ?_;intros;refine qb ⟨_,rfl,rfl,?_⟩;rw [XM hq (Y0 (by omega))]
  ·have b1:decide (q.1<0)=false:=decide_eq_false h1;by_cases h2:q.1>=w
   ·have b2:decide (q.1>=w)=true:=decide_eq_true h2;refine zh ?_;intros;refine qd rfl (fun _=>?_) (fun ht=>by cases ht);refine zh ?_;intros;refine qb ⟨_,rfl,rfl,?_⟩;rw [XM hq (Y0 (by omega))]
   ·have b2:decide (q.1>=w)=false:=decide_eq_false h2;by_cases h3:q.2<0
    ·have b3:decide (q.2<0)=true:=decide_eq_true h3;refine zh ?_;intros;refine qd rfl (fun _=>?_) (fun ht=>by cases ht);refine zh ?_;intros;refine qb ⟨_,rfl,rfl,?_⟩;rw [XM hq (Y0 (by omega))]
    ·have b3:decide (q.2<0)=false:=decide_eq_false h3;by_cases h4:q.2>=h
     ·have b4:decide (q.2>=h)=true:=decide_eq_true h4;refine zh ?_;intros;refine qd rfl (fun _=>?_) (fun ht=>by cases ht);refine zh ?_;intros;refine qb ⟨_,rfl,rfl,?_⟩;rw [XM hq (Y0 (by omega))]
     ·have b4:decide (q.2>=h)=false:=decide_eq_false h4;refine zh ?_;intros;refine qd rfl (fun ht=>by cases ht) (fun _=>?_);refine zh ?_;intros;refine⟨m-1,oM,_,_,_,[],?wk1,i+1,oM,?hno,rfl,rfl,rfl⟩
      case hno=>
       intro k q' hk hq';by_cases hki:k=i
       ·subst hki;rw [hq] at hq';rw [<-zsi hq'];simp only [Y1,x8,yA];omega
       ·exact hok k q' oM hq'
      case wk1=>exact qs
 ·have ht:i=l.length:=by have:=zK ht;omega
  subst ht;refine qa ?_;intros;refine qb ⟨_,rfl,rfl,?_⟩;rw [d9 hok]
theorem Ju{f:Ft}{lo hi:qj}(h:∀q∈f.pts,zg lo hi q):∀p∈xV f,zg lo hi p:=by
 have hline:∀{a b p:qj},zg lo hi a->zg lo hi b->p∈yC a b->zg lo hi p:=by
  intro a b p ha hb hp;obtain⟨k,hk⟩:=eH hp;have h1:=(zgs hk).1;rw [Vj] at h1;have hf:=Qt a b;have h2:(k:Int)<=zE a b:=oM;rw [WT a b h2] at hk;obtain rfl:=zsi hk;have h3:=oT a b h2;unfold zg at *;omega
 have hlines:∀{n:Nat} {p:qj},n<=f.pts.length->p∈zO f.pts n->zg lo hi p:=by
  intro n p hn hp;simp only [zO,nN,jF] at hp;obtain⟨i,hi,hp⟩:=hp;exact hline (h _ (XL oM)) (h _ (XL (kw oM))) hp
 intro p hp;unfold xV at hp;split at hp
 ·exact h p hp
 ·split at hp
  ·rw [y4] at hp;exact hlines (n:=f.pts.length-1) oM hp
  ·rw [y4,xu] at hp;rcases hp with hp|hp
   ·exact hlines (qz _) hp
   ·have:=(nM.1 hp).2;rw [x8] at this;exact Ga h this.2
theorem HU(a b:qj):b∈yC a b:=by
 have hf:=Qt a b;have h:=WT a b (k:=(zE a b).toNat) oM;rw [CZ] at h;exact zmg h
theorem I2{f:Ft}(hv:ye f=true){q:qj}(hq:q∈f.pts):q∈xV f:=by
 obtain⟨⟨hn1,hn2⟩,hin,hk⟩:=X5 hv;obtain⟨i,hi⟩:=eH hq;have hlt:=(zgs hi).1;have hsome:∀j,j<f.pts.length->f.pts[j]?=some (zI f.pts j):=fun j hj=>by rw [zI,zge hj];rfl
 unfold xV;split
 ·exact hq
 ·split
  ·rename_i h1 h2;have hl2:2<=f.pts.length:=by
    rw [wK,if_neg h1,if_pos h2] at hk;simp at hk;exact hk.1
   rw [y4,LH];by_cases hl:i<f.pts.length-1
   ·exact⟨i,_,_,hl,hi,hsome _ oM,oS _ _⟩
   ·obtain rfl:i=(f.pts.length-2)+1:=by omega
    exact⟨f.pts.length-2,_,_,oM,hsome _ oM,hi,HU _ _⟩
  ·rw [y4,xu];exact .inl (DL.2 ⟨i,_,_,hi,hsome _ (kw hlt),oS _ _⟩)
theorem OF{f:Ft}(hv:ye f=true)(w h:Int):(xV f).all (Y1 w h)=f.pts.all (lM w h):=by
 obtain⟨_,hin,_⟩:=X5 hv;rw [Bool.eq_iff_iff,wA,wA];constructor
 ·intro h1 q hq;have:=h1 q (I2 hv hq);simp only [Y1,lM,x8,yA] at *;omega
 ·intro h1 q hq;have:=Ju (lo:=(0,0)) (hi:=(w-1,h-1)) (fun q hq=>by
   have g1:=h1 q hq;have g2:=hin q hq;rw [yU] at g2;simp only [lM,x8,yA] at g1;unfold zg;simp only;omega) q hq
  unfold zg at this;simp only [Y1,x8,yA] at *;omega
theorem K8{f:Ft}(hv:ye f=true):∀p∈xV f,jp p=true:=by
 intro p hp;obtain⟨_,hin,_⟩:=X5 hv;have:=Ju (lo:=(0,0)) (hi:=(59,59)) (fun q hq=>by
  have g2:=hin q hq;rw [yU] at g2;unfold zg;simp only;omega) p hp
 unfold zg at this;rw [yU];simp only at this;omega
theorem KG{f:Ft}(hv:ye f=true):(xV f).Nodup:=by
 obtain⟨⟨hn1,hn2⟩,hin,hk⟩:=X5 hv;unfold xV;split
 ·rename_i h1;have hl:f.pts.length=1:=by
   rw [wK,if_pos h1] at hk;simp at hk;exact hk.1
  obtain⟨x,hx⟩:=List.length_eq_one_iff.1 hl;rw [hx];simp
 ·split
  ·exact (wE _).nodup
  ·exact (wE _).nodup
theorem bI{f:Ft}(hv:ye f=true):(xV f).length<=3600:=by
 have:=ZO (KG hv) fun x hx=>Vp.2 (K8 hv x hx);rw [<-Vo,Za] at this;omega
theorem iW{p:Pic}(hF:VZ p):DK 129 [Qa p] fun d=>d=.bool (xQ p):=by
 refine yQ ?_;intros;refine qd rfl (fun ht=>?_) (fun ht=>?_)
 ·rw [yc,yc,yc,yc,yc,yc,yc,yc,yc] at ht;simp only [Pn,JL,yA,Bool.not_eq_true',decide_eq_false_iff_not] at ht;refine qa ?_;intros;refine qb ⟨_,rfl,rfl,?_⟩;have hb:(QR p&&Jb p)=false:=by
   rw [Bool.eq_false_iff];intro h2;simp only [QR,Jb,x8,yA] at h2;omega
  rw [xQ,hb];rfl
 ·rw [yc,yc,yc,yc,yc,yc,yc,yc,yc] at ht;simp only [Pn,Ce,decide_eq_false_iff_not,Bool.not_eq_false',yA] at ht;have hh:QR p=true:=by simp only [QR,x8,yA];omega
  have hg:Jb p=true:=by simp only [Jb,x8,yA];omega
  have hv:xQ p=p.fs.all (W2 p):=by rw [xQ,hh,hg];rfl
  rw [hv];refine qa ?_;intros;refine qu (fun m E S nk=>∃i:Nat,i+m=p.fs.length/\(∀(j:Nat) f,j<i->p.fs[j]?=some f->W2 p f=true)/\E=[(1,.one (.ptr 0 0)),(3,.int i)]/\S=[(0,.cells (WP p))]/\nk=1)
   ⟨p.fs.length,_,_,_,[],?wk,0,oM,fun j q hj=>oM,rfl,rfl,rfl⟩ ?_
  case wk=>exact qs
  rintro m E S nk ⟨i,hi,hok,rfl,rfl,rfl⟩;refine qa ?_;intros;refine qd rfl (fun hi2=>?_) (fun hi2=>?_)
  ·have hi2:i<p.fs.length:=by have:=xo hi2;omega
   obtain⟨f,hf⟩:∃f,p.fs[i]?=some f:=⟨_,zge hi2⟩;have e1:=ON hf;have hfl:=hF.2 f (zmg hf);refine qa ?_;intros;refine qf rfl rfl (UP hfl) ?_;rintro _ rfl;cases hv1:ye f with
   |false=>
    refine qa ?_;intros;refine qd rfl (fun _=>?_) (fun ht=>by cases ht);refine qa ?_;intros;refine qb ⟨_,rfl,rfl,?_⟩;rw [XM hf (by rw [W2,hv1];rfl)]
   |true=>
    refine qa ?_;intros;refine x6 rfl rfl (pJ hv1) ?_;intros;refine qf rfl rfl (C7 (by have:=bI hv1;omega)) ?_;rintro _ rfl;rw [OF hv1];refine qa ?_;intros;refine qd rfl (fun hb=>?_) (fun hb=>?_)
    ·have hb:f.pts.all (lM p.w p.h)=false:=by simpa using hb
     refine qa ?_;intros;refine qb ⟨_,rfl,rfl,?_⟩;rw [XM hf (by rw [W2,hb,Bool.and_false])]
    ·have hb:f.pts.all (lM p.w p.h)=true:=by simpa using hb
     refine qa ?_;intros;refine⟨m-1,oM,_,_,_,[],?wk4,i+1,oM,?hno2,rfl,rfl,rfl⟩
     case hno2=>
      intro k f' hk hf';by_cases hki:k=i
      ·subst hki;rw [hf] at hf';rw [<-zsi hf',W2,hv1,hb];rfl
      ·exact hok k f' oM hf'
     case wk4=>exact qs
  ·have hi2:i=p.fs.length:=by have:=zK hi2;omega
   subst hi2;refine qa ?_;intros;refine qb ⟨_,rfl,rfl,?_⟩;rw [d9 hok]
def zQ(p:Pic):List (List qj):=p.fs.map xV
theorem HF{p:Pic}{i:Nat}{f:Ft}(h:p.fs[i]?=some f):(p.fs.take (i+1)).map xV=(p.fs.take i).map xV++[xV f]:=by
 rw [Q5,h];simp
theorem ZH{p:Pic}(hv:∀f∈p.fs,ye f=true)(hn:p.fs.length<1000):DK 130 [Qa p] fun d=>d=XP (zQ p):=by
 refine yQ ?_;intros;refine qu (fun m E S nk=>∃(i:Nat) (out:List (List qj)),i+m=p.fs.length/\out=(p.fs.take i).map xV/\E=[(1,.one (.ptr 0 0)),(3,.one (.own 1 0 out.length 1)),(4,.int i)]/\S=[(0,.cells (WP p)),(1,.data (out.map zV))]/\nk=2)
  ⟨p.fs.length,_,_,_,[],?wk,0,[],oM,rfl,rfl,rfl,rfl⟩ ?_
 case wk=>exact qs
 rintro m E S nk ⟨i,out,hi,ho,rfl,rfl,rfl⟩;refine qa ?_;intros;refine qd rfl (fun hi2=>?_) (fun hi2=>?_)
 ·have hi2:i<p.fs.length:=by have:=xo hi2;omega
  obtain⟨f,hf⟩:∃f,p.fs[i]?=some f:=⟨_,zge hi2⟩;have e1:=ON hf;have hol:out.length=i:=by rw [ho,xX,xS];omega
  refine qa ?_;intros;refine x6 rfl rfl (pJ (hv f (zmg hf))) ?_;intros;refine qZ (m:=1) (q:=[zV (xV f)]) rfl rfl rfl (qD _ (by rw [xX];omega)) ⟨rfl,rfl,_,rfl,rfl⟩ (by omega) (by omega) (by decide) rfl ?_;rw [show out.map zV++[zV (xV f)]=(out++[xV f]).map zV by simp,show out.length+1=(out++[xV f]).length by simp];refine qa ?_;intros;refine⟨m-1,by omega,_,_,_,[(1,3)],?wk1,i+1,out++[xV f],by omega,by rw [ho,HF hf],rfl,rfl,rfl⟩
  case wk1=>exact qs
 ·have hi2:i=p.fs.length:=by have:=zK hi2;omega
  subst hi2;rw [vE] at ho;have hol:(out.map zV).length=out.length*1:=sM;refine qa ?_;intros;refine qx (qg (k:=2) rfl (qv _)) (qg (k:=1) rfl (qv _)) ?_;refine qF 1 rfl qo qo ?_;refine qb ⟨_,rfl,rfl,?_⟩;rw [zQ,<-ho];rfl
def XT(r:List Int):FD:=.sl 1 r.length (r.map iF)
def fM(R:List (List Int)):DV:=.one (.f (.sl 1 R.length (R.map XT)))
theorem TT{cs:List (List Int)}{i:Nat}{c:List Int}(h:cs[i]?=some c):xd (cs.map XT) (i*1) 1=some [XT c]:=by
 have hi:i<cs.length:=(zgs h).1;rw [yj (by simp;omega)];rw [X2,kr (by simpa using hi)];have:cs[i]=c:=(zgs h).2;simp [this]
def KB(l:List (List qj)):List (List Int):=l.map fun a=>l.map fun b=>yd a b
def aK(p:Pic):List (List Int):=if xQ p=true then KB (zQ p) else []
theorem zZ{p:Pic}(h:xQ p=true):(1<=p.fs.length/\p.fs.length<=8)/\(∀f∈p.fs,W2 p f=true)/\QR p=true/\Jb p=true:=by
 simp only [xQ,x8,wA] at h;obtain⟨⟨h1,h2⟩,h3⟩:=h;refine⟨?_,h3,h1,h2⟩;simp only [Jb,x8,yA] at h2;exact h2.2
theorem QG{p:Pic}(h:xQ p=true):∀f∈p.fs,ye f=true:=fun f hf=>by
 have:=(zZ h).2.1 f hf;rw [W2,x8] at this;exact this.1
theorem XQ{p:Pic}(h:xQ p=true):∀l∈zQ p,(∀q∈l,jp q=true)/\l.length<=3600:=fun l hl=>by
 obtain⟨f,hf,rfl⟩:=j6.1 hl;exact⟨K8 (QG h f hf),bI (QG h f hf)⟩
theorem ZY{l:List qj}(h:∀q∈l,jp q=true):Zl l:=fun q hq=>by
 have:=h q hq;rw [yU] at this;unfold xf;omega
theorem BK{p:Pic}(hF:VZ p):DK 131 [Qa p] fun d=>d=fM (aK p):=by
 refine yQ ?_;intros;refine x6 rfl rfl (iW hF) ?_;intros;refine qd rfl (fun hv=>?_) (fun hv=>?_)
 ·have hv:¬xQ p=true:=by simpa using hv
  refine qa ?_;intros;refine PC 2 1 rfl ?_;refine qb ⟨_,rfl,rfl,?_⟩;rw [aK,if_neg hv];rfl
 ·have hv:xQ p=true:=by simpa using hv
  have hT:aK p=KB (zQ p):=by rw [aK,if_pos hv]
  have hsm:=XQ hv;have hpl:(zQ p).length=p.fs.length:=by simp [zQ]
  have hl8:=(zZ hv).1;generalize hl:zQ p=l at *;refine qa ?_;intros;refine qf rfl rfl (ZH (QG hv) oM) ?_;rintro _ rfl;rw [hl];refine qa ?_;intros;refine qu (fun m E S nk=>∃(i:Nat) (R:List (List Int)),i+m=l.length/\R=(l.take i).map (fun a=>l.map fun b=>yd a b)/\E=[(3,.one (.own 0 0 R.length 1)),(4,XP l),(5,.int i)]/\S=[(0,.data (R.map XT))]/\nk=1)
   ⟨l.length,_,_,_,[(0,1)],?wk,0,[],oM,rfl,rfl,rfl,rfl⟩ ?_
  case wk=>exact qs
  rintro m E S nk ⟨i,R,hi,hR,rfl,rfl,rfl⟩;refine qa ?_;intros;refine qd rfl (fun hi2=>?_) (fun hi2=>?_)
  ·have hi2:i<l.length:=by have:=xo hi2;omega
   obtain⟨a,ha⟩:∃r,l[i]?=some r:=⟨_,zge hi2⟩;have e1:=JT ha;have hRl:R.length=i:=by rw [hR,xX,xS];omega
   refine qa ?_;intros;refine qu (fun m E S nk=>∃(k:Nat) (r:List Int),k+m=l.length/\r=(l.take k).map (yd a)/\E=[(3,.one (.own 0 0 R.length 1)),(4,XP l),(5,.int i),(6,.one (.own 1 0 r.length 1)),(7,.int k)]/\S=[(0,.data (R.map XT)),(1,.data (r.map iF))]/\nk=2)
    ⟨l.length,_,_,_,[],?wk2,0,[],oM,rfl,rfl,rfl,rfl⟩ ?_
   case wk2=>exact qs
   rintro m2 E S nk ⟨k,r,hk,hr,rfl,rfl,rfl⟩;refine qa ?_;intros;refine qd rfl (fun hk2=>?_) (fun hk2=>?_)
   ·have hk2:k<l.length:=by have:=xo hk2;omega
    obtain⟨b,hb⟩:∃r,l[k]?=some r:=⟨_,zge hk2⟩;have e2:=JT hb;have hrl:r.length=k:=by rw [hr,xX,xS];omega
    have hsa:=hsm a (zmg ha);have hsb:=hsm b (zmg hb);refine qa ?_;intros;refine x6 rfl rfl (vM (ZY hsa.1) (ZY hsb.1) oM oM) ?_;intros;refine qZ (m:=1) (q:=[iF (yd a b)]) rfl rfl rfl (qD _ (by rw [xX];omega)) ⟨rfl,rfl,_,rfl,rfl⟩ (by omega) (by omega) (by decide) rfl ?_;rw [show r.map iF++[iF (yd a b)]=(r++[yd a b]).map iF by simp,show r.length+1=(r++[yd a b]).length by simp];refine qa ?_;intros;refine⟨m2-1,by omega,_,_,_,[(1,3)],?wk3,k+1,r++[yd a b],by omega,by rw [Q5,hb,hr];simp,rfl,rfl,rfl⟩
    case wk3=>exact qs
   ·have hk2:k=l.length:=by have:=zK hk2;omega
    subst hk2;have hrl:(r.map iF).length=r.length*1:=sM;rw [vE] at hr;refine qx (qg (k:=3) rfl (qg (k:=4) rfl (qg (k:=5) rfl (qg (k:=6) rfl (qv _))))) (qg (k:=0) rfl (qg (k:=1) rfl (qv _))) ?_;refine qF 1 rfl qo qo ?_;refine qa ?_;intros;refine qZ (m:=1) (q:=[XT r]) rfl rfl rfl (qD _ (by rw [xX];omega)) ⟨rfl,rfl,_,rfl,rfl⟩ (by omega) (by omega) (by decide) rfl ?_;rw [show R.map XT++[XT r]=(R++[r]).map XT by simp,show R.length+1=(R++[r]).length by simp];refine qa ?_;intros;refine⟨m-1,by omega,_,_,_,[(0,3)],?wk4,i+1,R++[r],by omega,by rw [Q5,ha,hR,hr];simp,rfl,rfl,rfl⟩
    case wk4=>exact qs
  ·have hi2:i=l.length:=by have:=zK hi2;omega
   subst hi2;rw [vE] at hR;have hRl:(R.map XT).length=R.length*1:=sM;refine qa ?_;intros;refine qx (qg (k:=2) rfl (qv _)) (qg (k:=0) rfl (qv _)) ?_;refine qF 0 rfl qo qo ?_;refine qb ⟨_,rfl,rfl,?_⟩;rw [hT,KB,<-hR];rfl
end Go.Ai
