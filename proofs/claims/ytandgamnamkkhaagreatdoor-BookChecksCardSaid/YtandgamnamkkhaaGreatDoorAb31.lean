/- -/
import Derived.Test.YtandgamnamkkhaaGreatDoorAb30
set_option linter.unusedSimpArgs false
set_option maxHeartbeats 8000000
set_option linter.unusedVariables false
set_option maxRecDepth 8000
namespace Go.Ah
open Go.Ab Go.Proofs
def xW(L:List qd)(i:Nat):qd:=(L[i]?).getD (0,0)
def YN(L:List qd)(p:qd)(i:Nat):Bool:=Jc (xW L i) (xW L (zL L i)) p
def Z5(L:List qd)(p:qd)(i:Nat):Bool:=kz (xW L i) (xW L (zL L i)) p
def z8(L:List qd)(p:qd):Nat->Bool
 |0=>false
 |n+1=>xor (z8 L p n) (Z5 L p n)
def wQ(L:List qd)(p:qd):Bool:=(List.range L.length).any (YN L p)||z8 L p L.length
theorem zg{L:List qd}{i:Nat}{a:qd}(h:L[i]?=some a):xW L i=a:=by rw [xW,h];rfl
theorem fZ{L:List qd}{p:qd}{i:Nat}(hi:i<L.length)(h:YN L p i=true):wQ L p=true:=by
 rw [wQ,List.any_eq_true.2 ⟨i,List.mem_range.2 hi,h⟩,Bool.true_or]
theorem mK{L:List qd}{p:qd}(h:∀i,i<L.length->YN L p i=false):wQ L p=z8 L p L.length:=by
 have:(List.range L.length).any (YN L p)=false:=by
  rw [List.any_eq_false];intro i hi;rw [h i (List.mem_range.1 hi)];decide
 rw [wQ,this,Bool.false_or]
theorem l7{L:List qd}{i:Nat}(_:i<L.length):Int.tmod ((i:Int)+1) (L.length:Int)=((zL L i:Nat):Int):=by
 rw [Int.tmod_eq_emod_of_nonneg (by omega)];simp [zL]
theorem D4{L:List qd}{p:qd}(hl:yy L)(hp:qB 1000 p)(hn:L.length<100):DK 187 [qx L,xI p] fun d=>d=.bool (wQ L p):=by
 refine qI fun Z0 lo=>?_;refine qa ?_;intros;refine qm (fun m E S nk=>∃i:Nat,i+m=L.length/\(∀j,j<i->YN L p j=false)/\E=[(0,qx L),(3,.one (.ptr 0 0)),(5,.bool (z8 L p i)),(9,qx L),(10,.int L.length),(11,.int i)]/\S=[(0,.cells [.f (.c (.int .i64 p.1)),.f (.c (.int .i64 p.2))])]/\nk=1)
  ⟨L.length,_,_,_,[],?wk,0,oM,fun j hj=>oM,rfl,rfl,rfl⟩ ?_
 case wk=>exact ql
 rintro m E S nk ⟨i,hi,hno,rfl,rfl,rfl⟩;refine qa ?_;intros;refine qb rfl (fun ht=>?_) (fun ht=>?_)
 ·have ht:i<L.length:=by have:=qG ht;omega
  have hnx:zL L i<L.length:=Nat.mod_lt _ oM;obtain⟨a,ha⟩:∃q,L[i]?=some q:=⟨_,zge ht⟩;obtain⟨b,hb⟩:∃q,L[zL L i]?=some q:=⟨_,zge hnx⟩;have e1:=qY ha;have e2:=qY hb;have hsa:=hl a (zmg ha);have hsb:=hl b (zmg hb);have hw:IntKind.i64.wrap ((i:Int)+1)=(i:Int)+1:=qg oM oM;refine qa ?_;intros;rw [hw];refine XB rfl rfl oM ?_;rw [l7 ht];refine qa ?_;intros;refine qj rfl rfl (Fq hsa hsb hp) ?_;rintro _ rfl;refine qa ?_;intros;refine qb rfl (fun ho=>?_) (fun ho=>?_)
  ·refine qa ?_;intros;refine qc ⟨_,rfl,rfl,?_⟩;rw [fZ ht (by rw [YN,zg ha,zg hb];exact ho)]
  ·have ho:YN L p i=false:=by rw [YN,zg ha,zg hb];exact ho
   refine qa ?_;intros;refine qj rfl rfl (Cs hsa hsb hp) ?_;rintro _ rfl;refine qa ?_;intros;refine qb rfl (fun hq=>?_) (fun hq=>?_)
   ·refine qa ?_;intros;refine⟨m-1,oM,_,_,_,[],?wk1,i+1,oM,?hno,rfl,rfl,rfl⟩
    case hno=>
     intro j hj;by_cases hji:j=i
     ·rw [hji,ho]
     ·exact hno j oM
    case wk1=>
     have:(!z8 L p i)=z8 L p (i+1):=by rw [z8,Z5,zg ha,zg hb,hq];cases z8 L p i<;>rfl
     rw [this];exact ql
   ·have:z8 L p (i+1)=z8 L p i:=by rw [z8,Z5,zg ha,zg hb,hq];cases z8 L p i<;>rfl
    refine qa ?_;intros;refine⟨m-1,oM,_,_,_,[],?wk2,i+1,oM,?hno2,rfl,rfl,rfl⟩
    case hno2=>
     intro j hj;by_cases hji:j=i
     ·rw [hji,ho]
     ·exact hno j oM
    case wk2=>
     rw [this];exact ql
 ·have ht:i=L.length:=by have:=qQ ht;omega
  subst ht;refine qa ?_;intros;refine qc ⟨_,rfl,rfl,?_⟩;rw [mK hno]
theorem gS{L:List qd}{i:Nat}{a b:qd}(hn:L.length<100)(ht:i<L.length)(ha:L[i]?=some a)(hb:L[zL L i]?=some b):DK 241 [qx L,.int i] fun d=>d=.tup [xI a,xI b]:=by
 refine qI fun Z0 lo=>?_;have hnx:zL L i<L.length:=Nat.mod_lt _ oM;have e1:=qY ha;have e2:=qY hb;have hw:IntKind.i64.wrap ((i:Int)+1)=(i:Int)+1:=qg oM oM;refine qa ?_;intros;rw [hw];refine XB rfl rfl oM ?_;rw [l7 ht];refine qa ?_;intros;exact qc ⟨_,rfl,rfl,rfl⟩
theorem AU{L:List qd}{p:qd}(hl:yy L)(hp:qB 1000 p)(hn:L.length<100):DK 198 [qx L,xI p] fun d=>d=.bool (wQ L p):=by
 refine qI fun Z0 lo=>?_;refine qa ?_;intros;refine qm (fun m E S nk=>∃i:Nat,i+m=L.length/\(∀j,j<i->YN L p j=false)/\E=[(0,qx L),(3,.one (.ptr 0 0)),(5,.bool (z8 L p i)),(6,.int i)]/\S=[(0,.cells [.f (.c (.int .i64 p.1)),.f (.c (.int .i64 p.2))])]/\nk=1)
  ⟨L.length,_,_,_,[],?wk,0,oM,fun j hj=>oM,rfl,rfl,rfl⟩ ?_
 case wk=>exact ql
 rintro m E S nk ⟨i,hi,hno,rfl,rfl,rfl⟩;refine qa ?_;intros;refine qb rfl (fun ht=>?_) (fun ht=>?_)
 ·have ht:i<L.length:=by have:=qG ht;omega
  have hnx:zL L i<L.length:=Nat.mod_lt _ oM;obtain⟨a,ha⟩:∃q,L[i]?=some q:=⟨_,zge ht⟩;obtain⟨b,hb⟩:∃q,L[zL L i]?=some q:=⟨_,zge hnx⟩;have hsa:=hl a (zmg ha);have hsb:=hl b (zmg hb);refine qa ?_;intros;refine qj rfl rfl (gS hn ht ha hb) ?_;rintro _ rfl;refine qa ?_;intros;refine qj rfl rfl (Cr hsa hsb hp) ?_;rintro _ rfl;refine qa ?_;intros;refine qb rfl (fun ho=>?_) (fun ho=>?_)
  ·refine qa ?_;intros;refine qc ⟨_,rfl,rfl,?_⟩;rw [fZ ht (by rw [YN,zg ha,zg hb];exact ho)]
  ·have ho:YN L p i=false:=by rw [YN,zg ha,zg hb];exact ho
   refine qa ?_;intros;refine qj rfl rfl (TX hsa hsb hp) ?_;rintro _ rfl;refine qa ?_;intros;refine qb rfl (fun hq=>?_) (fun hq=>?_)
   ·refine qa ?_;intros;refine⟨m-1,oM,_,_,_,[],?wk1,i+1,oM,?hno,rfl,rfl,rfl⟩
    case hno=>
     intro j hj;by_cases hji:j=i
     ·rw [hji,ho]
     ·exact hno j oM
    case wk1=>
     have:(!z8 L p i)=z8 L p (i+1):=by rw [z8,Z5,zg ha,zg hb,hq];cases z8 L p i<;>rfl
     rw [this];exact ql
   ·have:z8 L p (i+1)=z8 L p i:=by rw [z8,Z5,zg ha,zg hb,hq];cases z8 L p i<;>rfl
    refine qa ?_;intros;refine⟨m-1,oM,_,_,_,[],?wk2,i+1,oM,?hno2,rfl,rfl,rfl⟩
    case hno2=>
     intro j hj;by_cases hji:j=i
     ·rw [hji,ho]
     ·exact hno j oM
    case wk2=>
     rw [this];exact ql
 ·have ht:i=L.length:=by have:=qQ ht;omega
  subst ht;refine qa ?_;intros;refine qc ⟨_,rfl,rfl,?_⟩;rw [mK hno]
def yK(k:Int)(p:qd):Bool:=decide (k=3)||(decide (k=2)&&decide (p.2.tmod 2=0))||(decide (k=1)&&decide ((p.1+p.2).tmod 2=0))
theorem TW{k:Nat}{p:qd}(hk:k<4)(hp:qB 1000 p):DK 197 [.int k,xI p] fun d=>d=.bool (yK k p):=by
 refine qI fun Z0 lo=>?_;have hw:IntKind.i64.wrap (p.1+p.2)=p.1+p.2:=by unfold qB at hp;exact qg oM oM
 match k,hk with
 |0,_=>
  refine qa ?_;intros;exact qc ⟨_,rfl,rfl,rfl⟩
 |1,_=>
  refine qa ?_;intros;refine qc ⟨_,rfl,rfl,?_⟩;exact congrArg DV.bool (by rw [hw];rfl)
 |2,_=>
  by_cases h:p.2.tmod 2=0
  ·have hb:(p.2.tmod 2==0)=true:=by simpa using h
   refine xn ?_;intros;exact qc ⟨_,rfl,rfl,by rw [yK];simp [h]⟩
  ·have hb:(p.2.tmod 2==0)=false:=by simpa using h
   refine xn ?_;intros;exact qc ⟨_,rfl,rfl,by rw [yK];simp [h]⟩
 |3,_=>
  refine qa ?_;intros;exact qc ⟨_,rfl,rfl,rfl⟩
 |k+4,h=>omega
def VB(n:Nat):FuncId:=224+n
theorem TV{p:qd}:DK 224 [xI p] fun d=>d=.bool (yK 0 p):=by
 refine qI fun Z0 lo=>?_;refine qa ?_;intros;exact qc ⟨_,rfl,rfl,rfl⟩
theorem TS{p:qd}:DK 227 [xI p] fun d=>d=.bool (yK 3 p):=by
 refine qI fun Z0 lo=>?_;refine qa ?_;intros;exact qc ⟨_,rfl,rfl,rfl⟩
theorem TT{p:qd}:DK 226 [xI p] fun d=>d=.bool (yK 2 p):=by
 refine qI fun Z0 lo=>?_;refine qa ?_;intros;refine qc ⟨_,rfl,rfl,?_⟩;exact congrArg DV.bool (by rw [yK];by_cases h:p.2.tmod 2=0<;>simp [h])
theorem TU{p:qd}(hp:qB 1000 p):DK 225 [xI p] fun d=>d=.bool (yK 1 p):=by
 refine qI fun Z0 lo=>?_;have hw:IntKind.i64.wrap (p.1+p.2)=p.1+p.2:=by unfold qB at hp;exact qg oM oM
 refine qa ?_;intros;refine qc ⟨_,rfl,rfl,?_⟩;exact congrArg DV.bool (by rw [hw];rfl)
theorem AP{k:Nat}(hk:k<4):DK 186 [.int k] fun d=>d=f4 (VB k):=by
 refine qI fun Z0 lo=>?_
 match k,hk with
 |0,_=>
  refine qa ?_;intros;exact qc ⟨_,rfl,rfl,rfl⟩
 |1,_=>
  refine qa ?_;intros;exact qc ⟨_,rfl,rfl,rfl⟩
 |2,_=>
  refine qa ?_;intros;exact qc ⟨_,rfl,rfl,rfl⟩
 |3,_=>
  refine qa ?_;intros;exact qc ⟨_,rfl,rfl,rfl⟩
 |k+4,h=>omega
structure Ft where
 kind:Int
 tex:Int
 pts:List qd
def w8(f:Ft):List FD:=[.c (.int .i64 f.kind),.c (.int .i64 f.tex),.sl 2 f.pts.length (f.pts.flatMap qh)]
def bM(f:Ft):DV:=.agg [.f (.c (.int .i64 f.kind)),.f (.c (.int .i64 f.tex)),.f (.sl 2 f.pts.length (f.pts.flatMap qh))]
def zm(p:qd):Bool:=decide (0<=p.1)&&decide (p.1<60)&&(decide (0<=p.2)&&decide (p.2<60))
def zD(f:Ft):Bool:=if f.kind=1 then f.pts.length==1&&f.tex==0 else if f.kind=2 then decide (2<=f.pts.length)&&f.tex==0 else if f.kind=3 then decide (3<=f.pts.length)&&decide (0<=f.tex)&&decide (f.tex<=3) else false
def xB(f:Ft):Bool:=decide (1<=f.pts.length)&&decide (f.pts.length<=12)&&f.pts.all zm&&zD f
theorem qZ(a b:Bool):(if a=true then true else b)=(a||b):=by cases a<;>rfl
theorem WB(n:Nat):((n:Int)==1)=(n==1):=by
 by_cases h:n=1
 ·subst h;rfl
 ·have:¬(n:Int)=1:=by omega
  rw [beq_eq_false_iff_ne.2 h,beq_eq_false_iff_ne.2 this]
theorem vh(a b:Bool):(if a=true then b else false)=(a&&b):=by cases a<;>rfl
theorem xJ{p:qd}:zm p=true↔(0<=p.1/\p.1<60)/\0<=p.2/\p.2<60:=by simp [zm]
theorem aG{f:Ft}(h1:1<=f.pts.length)(h2:f.pts.length<=12)(h3:∀(j:Nat) q,j<f.pts.length->f.pts[j]?=some q->zm q=true):xB f=zD f:=by
 rw [xB,decide_eq_true h1,decide_eq_true h2,List.all_eq_true.2]
 ·simp
 ·intro x hx;obtain⟨j,hj⟩:=List.getElem?_of_mem hx;exact h3 j x (zgs hj).1 hj
theorem Ks{f:Ft}{q:qd}{i:Nat}(hq:f.pts[i]?=some q)(h:¬zm q=true):xB f=false:=by
 have:f.pts.all zm=false:=by
  rw [List.all_eq_false];exact⟨q,zmg hq,h⟩
 rw [xB,this];simp
theorem c6{f:Ft}(hn:f.pts.length<1000):DK 140 [bM f] fun d=>d=.bool (xB f):=by
 refine qI fun Z0 lo=>?_;refine qa ?_;intros;refine qb rfl (fun ht=>?_) (fun ht=>?_)
 ·refine qa ?_;intros;refine qc ⟨_,rfl,rfl,?_⟩;rw [qZ] at ht;simp only [Bool.or_eq_true,xF] at ht;refine congrArg DV.bool ?_;rw [xB];rcases ht with h|h
  ·rw [decide_eq_false (show¬1<=f.pts.length by omega)];rfl
  ·rw [decide_eq_false (show¬f.pts.length<=12 by omega),Bool.and_false];rfl
 ·rw [qZ] at ht;simp only [Bool.or_eq_false_iff,decide_eq_false_iff_not] at ht;refine qa ?_;intros;refine qm (fun m E S nk=>∃i:Nat,i+m=f.pts.length/\(∀(j:Nat) q,j<i->f.pts[j]?=some q->zm q=true)/\E=[(1,.one (.ptr 0 0)),(3,.int f.pts.length),(16,qx f.pts),(17,.int f.pts.length),(18,.int i)]/\S=[(0,.cells [.f (.c (.int .i64 f.kind)),.f (.c (.int .i64 f.tex)),.f (.sl 2 f.pts.length (f.pts.flatMap qh))])]/\nk=1)
   ⟨f.pts.length,_,_,_,[],?wk,0,oM,fun j q hj=>oM,rfl,rfl,rfl⟩ ?_
  case wk=>exact ql
  rintro m E S nk ⟨i,hi,hok,rfl,rfl,rfl⟩;refine qa ?_;intros;refine qb rfl (fun ht2=>?_) (fun ht2=>?_)
  ·have ht2:i<f.pts.length:=by have:=qG ht2;omega
   obtain⟨q,hq⟩:∃q,f.pts[i]?=some q:=⟨_,zge ht2⟩;have e1:=qY hq;refine qa ?_;intros;refine qb rfl (fun hb=>?_) (fun hb=>?_)
   ·rw [qZ,qZ,qZ] at hb;simp only [Bool.or_eq_true,xF] at hb;have hb:¬zm q=true:=by rw [xJ];omega
    refine qa ?_;intros;exact qc ⟨_,rfl,rfl,by rw [Ks hq hb]⟩
   ·rw [qZ,qZ,qZ] at hb;simp only [Bool.or_eq_false_iff,decide_eq_false_iff_not] at hb;have hb:zm q=true:=by rw [xJ];omega
    refine qa ?_;intros;refine⟨m-1,oM,_,_,_,[],?wk1,i+1,oM,?hno,rfl,rfl,rfl⟩
    case hno=>
     intro j q' hj hq';by_cases hji:j=i
     ·subst hji;rw [hq] at hq';rw [<-zsi hq'];exact hb
     ·exact hok j q' oM hq'
    case wk1=>exact ql
  ·have ht2:i=f.pts.length:=by have:=qQ ht2;omega
   subst ht2;have hv:=aG oM oM hok;rw [hv];refine qa ?_;intros;refine qb rfl (fun h1=>?_) (fun h1=>?_)
   ·have h1:f.kind=1:=by simpa using h1
    refine qa ?_;intros;refine qc ⟨_,rfl,rfl,congrArg DV.bool ?_⟩;rw [vh,zD,if_pos h1];congr 1;exact WB _
   ·have h1:¬f.kind=1:=by simpa using h1
    refine qa ?_;intros;refine qb rfl (fun h2=>?_) (fun h2=>?_)
    ·have h2:f.kind=2:=by simpa using h2
     refine qa ?_;intros;refine qc ⟨_,rfl,rfl,congrArg DV.bool ?_⟩;rw [vh,zD,if_neg h1,if_pos h2];congr 1;exact decide_eq_decide.2 oM
    ·have h2:¬f.kind=2:=by simpa using h2
     refine qa ?_;intros;refine qb rfl (fun h3=>?_) (fun h3=>?_)
     ·have h3:f.kind=3:=by simpa using h3
      refine qa ?_;intros;refine qc ⟨_,rfl,rfl,congrArg DV.bool ?_⟩;rw [vh,vh,zD,if_neg h1,if_neg h2,if_pos h3];congr 2;exact decide_eq_decide.2 oM
     ·have h3:¬f.kind=3:=by simpa using h3
      refine qa ?_;intros;refine qc ⟨_,rfl,rfl,congrArg DV.bool ?_⟩;rw [zD,if_neg h1,if_neg h2,if_neg h3]
theorem pD{f:Ft}(h:f.pts.length=0):zD f=false:=by
 rw [zD,h];split
 ·rfl
 ·split
  ·rfl
  ·split<;>rfl
theorem DO{f:Ft}(hn:f.pts.length<1000):DK 158 [bM f] fun d=>d=.bool (xB f):=by
 refine qI fun Z0 lo=>?_;refine qa ?_;intros;refine qm (fun m E S nk=>∃i:Nat,i+m=f.pts.length/\(∀(j:Nat) q,j<i->f.pts[j]?=some q->zm q=true)/\E=[(1,.one (.ptr 0 0)),(3,.int f.pts.length),(4,.int i)]/\S=[(0,.cells [.f (.c (.int .i64 f.kind)),.f (.c (.int .i64 f.tex)),.f (.sl 2 f.pts.length (f.pts.flatMap qh))])]/\nk=1)
  ⟨f.pts.length,_,_,_,[],?wk,0,oM,fun j q hj=>oM,rfl,rfl,rfl⟩ ?_
 case wk=>exact ql
 rintro m E S nk ⟨i,hi,hok,rfl,rfl,rfl⟩;refine qa ?_;intros;refine qb rfl (fun ht2=>?_) (fun ht2=>?_)
 ·have ht2:i<f.pts.length:=by have:=qG ht2;omega
  obtain⟨q,hq⟩:∃q,f.pts[i]?=some q:=⟨_,zge ht2⟩;have e1:=qY hq;refine qa ?_;intros;refine qb rfl (fun hb=>?_) (fun hb=>?_)
  ·rw [qZ,qZ,qZ] at hb;simp only [Bool.or_eq_true,xF] at hb;have hb:¬zm q=true:=by rw [xJ];omega
   refine qa ?_;intros;exact qc ⟨_,rfl,rfl,by rw [Ks hq hb]⟩
  ·rw [qZ,qZ,qZ] at hb;simp only [Bool.or_eq_false_iff,decide_eq_false_iff_not] at hb;have hb:zm q=true:=by rw [xJ];omega
   refine qa ?_;intros;refine⟨m-1,oM,_,_,_,[],?wk1,i+1,oM,?hno,rfl,rfl,rfl⟩
   case hno=>
    intro j q' hj hq';by_cases hji:j=i
    ·subst hji;rw [hq] at hq';rw [<-zsi hq'];exact hb
    ·exact hok j q' oM hq'
   case wk1=>exact ql
 ·have ht2:i=f.pts.length:=by have:=qQ ht2;omega
  subst ht2;refine qa ?_;intros;refine qb rfl (fun hg=>?_) (fun hg=>?_)
  ·have hg:=qG hg;refine qa ?_;intros;refine qc ⟨_,rfl,rfl,congrArg DV.bool ?_⟩;rw [xB,decide_eq_false (show¬f.pts.length<=12 by omega),Bool.and_false];rfl
  ·have hg:=qQ hg;have hv:xB f=zD f:=by
    by_cases h0:f.pts.length=0
    ·rw [pD h0,xB,h0];rfl
    ·exact aG oM oM hok
   rw [hv];refine qa ?_;intros;refine qb rfl (fun h1=>?_) (fun h1=>?_)
   ·have h1:f.kind=1:=by simpa using h1
    refine qa ?_;intros;refine qc ⟨_,rfl,rfl,congrArg DV.bool ?_⟩;rw [vh,zD,if_pos h1];congr 1;exact WB _
   ·have h1:¬f.kind=1:=by simpa using h1
    refine qa ?_;intros;refine qb rfl (fun h2=>?_) (fun h2=>?_)
    ·have h2:f.kind=2:=by simpa using h2
     refine qa ?_;intros;refine qc ⟨_,rfl,rfl,congrArg DV.bool ?_⟩;rw [vh,zD,if_neg h1,if_pos h2];congr 1;exact decide_eq_decide.2 oM
    ·have h2:¬f.kind=2:=by simpa using h2
     refine qa ?_;intros;refine qb rfl (fun h3=>?_) (fun h3=>?_)
     ·have h3:f.kind=3:=by simpa using h3
      refine qa ?_;intros;refine qc ⟨_,rfl,rfl,congrArg DV.bool ?_⟩;rw [vh,vh,zD,if_neg h1,if_neg h2,if_pos h3];congr 2;exact decide_eq_decide.2 oM
     ·have h3:¬f.kind=3:=by simpa using h3
      refine qa ?_;intros;refine qc ⟨_,rfl,rfl,congrArg DV.bool ?_⟩;rw [zD,if_neg h1,if_neg h2,if_neg h3]
def xf(lo hi p:qd):Prop:=(lo.1<=p.1/\p.1<=hi.1)/\lo.2<=p.2/\p.2<=hi.2
theorem HH{a b p lo hi:qd}(h:Jc a b p=true)(ha:xf lo hi a)(hb:xf lo hi b):xf lo hi p:=by
 simp only [Jc,xt,xF] at h;unfold xf at *;omega
theorem A6(u v h t:Int):u*(h+t)-t*(u-v)=u*h+t*v:=by
 rw [Int.mul_add,Int.mul_sub,Int.mul_comm t u];omega
theorem hO(a b p:qd):(p.1-a.1)*(b.2-a.2)-(p.2-a.2)*(b.1-a.1)=(p.1-a.1)*(b.2-p.2)+(p.2-a.2)*(p.1-b.1):=by
 rw [<-A6,show b.2-p.2+(p.2-a.2)=b.2-a.2 by omega,show p.1-a.1-(p.1-b.1)=b.1-a.1 by omega]
theorem eP{a b p:qd}(ha:p.1<a.1)(hb:p.1<b.1):kz a b p=xor (decide (a.2<=p.2)) (decide (b.2<=p.2)):=by
 have e:=hO a b p;unfold kz;by_cases h1:a.2<=p.2
 ·by_cases h2:b.2<=p.2
  ·simp [h1,h2]
  ·have m1:(p.1-a.1)*(b.2-p.2)<0:=Int.mul_neg_of_neg_of_pos oM oM;have m2:(p.2-a.2)*(p.1-b.1)<=0:=Int.mul_nonpos_of_nonneg_of_nonpos oM oM;rw [decide_eq_true h1,decide_eq_false h2,if_neg (by decide),if_pos (by omega),decide_eq_true (by omega)];rfl
 ·by_cases h2:b.2<=p.2
  ·have m1:0<=(p.1-a.1)*(b.2-p.2):=Int.mul_nonneg_of_nonpos_of_nonpos oM oM;have m2:0<(p.2-a.2)*(p.1-b.1):=Int.mul_pos_of_neg_of_neg oM oM;rw [decide_eq_false h1,decide_eq_true h2,if_neg (by decide),if_neg (by omega),decide_eq_true (by omega)];rfl
  ·simp [h1,h2]
theorem tI{a b p:qd}(ha:a.1<p.1)(hb:b.1<p.1):kz a b p=false:=by
 have e:=hO a b p;unfold kz;by_cases h1:a.2<=p.2
 ·by_cases h2:b.2<=p.2
  ·simp [h1,h2]
  ·have m1:0<(p.1-a.1)*(b.2-p.2):=Int.mul_pos oM oM;have m2:0<=(p.2-a.2)*(p.1-b.1):=Int.mul_nonneg oM oM;rw [decide_eq_true h1,decide_eq_false h2,if_neg (by decide),if_pos (by omega),decide_eq_false (by omega)]
 ·by_cases h2:b.2<=p.2
  ·have m1:(p.1-a.1)*(b.2-p.2)<=0:=Int.mul_nonpos_of_nonneg_of_nonpos oM oM;have m2:(p.2-a.2)*(p.1-b.1)<0:=Int.mul_neg_of_neg_of_pos oM oM;rw [decide_eq_false h1,decide_eq_true h2,if_neg (by decide),if_neg (by omega),decide_eq_false (by omega)]
  ·simp [h1,h2]
theorem eQ{a b p:qd}(h:decide (a.2<=p.2)=decide (b.2<=p.2)):kz a b p=false:=by rw [kz,if_pos h]
theorem aY{L:List qd}{p:qd}:∀{n:Nat},(∀i,i<n->Z5 L p i=false)->z8 L p n=false
 |0,_=>rfl
 |n+1,h=>by rw [z8,aY (n:=n) (fun i hi=>h i (by omega)),h n (by omega)];rfl
theorem aZ{L:List qd}{p:qd}(h:∀i,i<L.length->p.1<(xW L i).1):∀{n:Nat},n<L.length->z8 L p n=xor (decide ((xW L 0).2<=p.2)) (decide ((xW L n).2<=p.2))
 |0,_=>by rw [z8];simp
 |n+1,hn=>by
  have e:zL L n=n+1:=by rw [zL,Nat.mod_eq_of_lt (by omega)]
  rw [z8,aZ h (n:=n) (by omega),Z5,e,eP (h n (by omega)) (h (n+1) (by omega))];cases decide ((xW L 0).2<=p.2)<;>cases decide ((xW L n).2<=p.2)<;>cases decide ((xW L (n+1)).2<=p.2)<;>rfl
theorem kR{L:List qd}{i:Nat}(hi:i<L.length):xW L i∈L:=by
 rw [xW,zge hi];exact List.getElem_mem hi
theorem jz{L:List qd}{i:Nat}(hi:i<L.length):zL L i<L.length:=Nat.mod_lt _ oM
theorem mL{L:List qd}{lo hi p:qd}(hL:∀q∈L,xf lo hi q)(h:wQ L p=true):xf lo hi p:=by
 have hat:∀i,i<L.length->xf lo hi (xW L i):=fun i hi=>hL _ (kR hi);rw [wQ,Bool.or_eq_true] at h;rcases h with h|h
 ·obtain⟨i,hi,h⟩:=List.any_eq_true.1 h;have hi:=List.mem_range.1 hi;exact HH h (hat i hi) (hat _ (jz hi))
 ·have h0:0<L.length:=by
   cases hl:L.length with
   |zero=>rw [hl] at h;cases h
   |succ=>omega
  have no:(∀i,i<L.length->Z5 L p i=false)->False:=fun hno=>by
   rw [aY hno] at h;cases h
  have h1:lo.2<=p.2:=by
   false_or_by_contra
   refine no fun i hi=>eQ ?_;have g1:=hat i hi;have g2:=hat _ (jz hi);unfold xf at g1 g2;rw [decide_eq_false (by omega),decide_eq_false (by omega)]
  have h2:p.2<=hi.2:=by
   false_or_by_contra
   refine no fun i hi=>eQ ?_;have g1:=hat i hi;have g2:=hat _ (jz hi);unfold xf at g1 g2;rw [decide_eq_true (by omega),decide_eq_true (by omega)]
  have h3:p.1<=hi.1:=by
   false_or_by_contra
   refine no fun i hi=>tI ?_ ?_
   ·have g1:=hat i hi;unfold xf at g1;omega
   ·have g1:=hat _ (jz hi);unfold xf at g1;omega
  have h4:lo.1<=p.1:=by
   false_or_by_contra
   have hl:∀i,i<L.length->p.1<(xW L i).1:=fun i hi=>by
    have g1:=hat i hi;unfold xf at g1;omega
   obtain⟨n,hn⟩:∃n,L.length=n+1:=⟨L.length-1,oM⟩;have e:zL L n=0:=by rw [zL,<-hn,Nat.mod_self]
   rw [hn,z8,aZ hl (n:=n) (by omega),Z5,e,eP (hl n (by omega)) (hl 0 h0)] at h;cases hx:decide ((xW L 0).2<=p.2)<;>cases hy:decide ((xW L n).2<=p.2)<;>rw [hx,hy] at h<;>cases h
  exact⟨⟨h4,h3⟩,h1,h2⟩
def iO(L:List qd):List qd:=(List.range (L.length-1)).flatMap fun i=>xz (xW L i) (xW L (zL L i))
def Wu(L:List qd):List qd:=(List.range L.length).flatMap fun i=>xz (xW L i) (xW L (zL L i))
def KV:List qd:=(List.range 60).flatMap fun (y:Nat)=>(List.range 60).map fun (x:Nat)=>((x:Int),(y:Int))
theorem X4{p:qd}:p∈KV↔zm p=true:=by
 obtain⟨x,y⟩:=p;rw [xJ];simp only [KV,List.mem_flatMap,List.mem_map,List.mem_range,zpi];constructor
 ·rintro ⟨b,hb,a,ha,rfl,rfl⟩;omega
 ·rintro ⟨⟨h1,h2⟩,h3,h4⟩;exact⟨y.toNat,oM,x.toNat,oM,oM,oM⟩
def zI(f:Ft):List qd:=KV.filter fun p=>yK f.tex p&&wQ f.pts p
def qN(f:Ft):List qd:=if f.kind=1 then f.pts else if f.kind=2 then qt (iO f.pts) else qt (Wu f.pts++zI f)
theorem WK{L:List qd}{p:qd}:p∈Wu L↔∃(i:Nat) (a b:qd),L[i]?=some a/\L[zL L i]?=some b/\p∈xz a b:=by
 simp only [Wu,List.mem_flatMap,List.mem_range];constructor
 ·rintro ⟨i,hi,hp⟩;exact⟨i,_,_,zge hi,zge (jz hi),by simpa [xW,zge hi,zge (jz hi)] using hp⟩
 ·rintro ⟨i,a,b,ha,hb,hp⟩;exact⟨i,(zgs ha).1,by rw [zg ha,zg hb];exact hp⟩
theorem Vx{L:List qd}{p:qd}:p∈iO L↔∃(i:Nat) (a b:qd),i<L.length-1/\L[i]?=some a/\L[i+1]?=some b/\p∈xz a b:=by
 simp only [iO,List.mem_flatMap,List.mem_range];constructor
 ·rintro ⟨i,hi,hp⟩;have e:zL L i=i+1:=by rw [zL,Nat.mod_eq_of_lt (by omega)]
  rw [e] at hp;exact⟨i,_,_,hi,zge (by omega),zge (by omega),by simpa [xW,zge (show i<L.length by omega),zge (show i+1<L.length by omega)] using hp⟩
 ·rintro ⟨i,a,b,hi,ha,hb,hp⟩;have e:zL L i=i+1:=by rw [zL,Nat.mod_eq_of_lt (by omega)]
  exact⟨i,hi,by rw [e,zg ha,zg hb];exact hp⟩
theorem aL{l m:List qd}(h:∀p,p∈l↔p∈m):qt l=qt m:=qS.ext (xv l) (xv m) fun p=>by rw [xi,xi,h]
theorem pQ{p:Par}{base:Nat}{Q:qo->Bx->Nat->Prop}{r:List SOper}{A:List Nat}{E E0:qo}{S S0:Bx}{nk n0:Nat}(ρ:List (Nat × Nat))(hw:Wk p ρ n0 E0 S0 E S)(h:DPW p base 0 Q r [] A E0 S0 n0):DPW p base 0 Q r [] A E S nk:=.mk fun Z β H F c QP hS hE hC hA=>by
 obtain⟨β0,h1,h2⟩:=cM hS hE hw;refine h.run Z β0 H F c QP h1 h2 (fun x hx=>?_) ⟨hA.1,fun j hj=>oM⟩;obtain⟨y,hy,_⟩:=hC x hx;cases hy
theorem yS{f:Ft}(h:xB f=true):(1<=f.pts.length/\f.pts.length<=12)/\(∀p∈f.pts,zm p=true)/\zD f=true:=by
 simp only [xB,xt,xF,List.all_eq_true] at h;exact⟨h.1.1,h.1.2,h.2⟩
theorem QM{p:qd}(h:zm p=true):qB 1000 p:=by
 rw [xJ] at h;unfold qB;omega
theorem X1(a b:qd):a∈xz a b:=by
 have h:=Yj a b (k:=0) (by rw [kP];omega);rw [i4] at h;exact zmg h
theorem TR{k:Nat}{p:qd}(hk:k<4)(hp:qB 1000 p):DK (VB k) [xI p] fun d=>d=.bool (yK k p):=by
 match k,hk with
 |0,_=>exact TV
 |1,_=>exact TU hp
 |2,_=>exact TT
 |3,_=>exact TS
 |k+4,h=>omega
theorem CS{k:Nat}(hk:k<4):zR Tryz.prog (VB k)=true:=by
 match k,hk with
 |0,_=>exact (show zR Tryz.prog 224=true by kernel_rfl)
 |1,_=>exact (show zR Tryz.prog 225=true by kernel_rfl)
 |2,_=>exact (show zR Tryz.prog 226=true by kernel_rfl)
 |3,_=>exact (show zR Tryz.prog 227=true by kernel_rfl)
 |k+4,h=>omega
theorem pU{t:Int}{k:Nat}(ht:t=k)(hk:k<4):DK 186 [.int t] fun d=>d=f4 (VB k):=by rw [ht];exact AP hk
def US(f:Ft)(l:List qd)(lo hi:qd):Bx:=[(0,.cells [.f (.c (.int .i64 f.kind)),.f (.c (.int .i64 f.tex)),.f (.sl 2 f.pts.length (f.pts.flatMap qh))]),(1,yM l),(2,.cells [.f (.c (.int .i64 lo.1)),.f (.c (.int .i64 lo.2))]),(3,.cells [.f (.c (.int .i64 hi.1)),.f (.c (.int .i64 hi.2))])]
structure Fill (f:Ft) (l0:List qd) (lo hi:qd) (x y:Int) (l:List qd):Prop where
 nd:l.Nodup
 le:(l.length:Int)<=l0.length+60*(y-lo.2)+(x-lo.1)
 mem:∀p,p∈l↔p∈l0\/(xf lo hi p/\(p.2<y\/(p.2=y/\p.1<x))/\(yK f.tex p&&wQ f.pts p)=true)
theorem Fill.start{f:Ft}{l0:List qd}{lo hi:qd}(h:l0.Nodup):Fill f l0 lo hi lo.1 lo.2 l0:=⟨h,oM,fun p=>⟨.inl,fun h=>h.elim id fun h=>by
 obtain⟨h1,h2,_⟩:=h;unfold xf at h1;omega⟩⟩
theorem Fill.skip{f:Ft}{l0 l:List qd}{lo hi:qd}{x y:Int}(h:Fill f l0 lo hi x y l)(hb:(yK f.tex (x,y)&&wQ f.pts (x,y))=false):Fill f l0 lo hi (x+1) y l:=⟨h.nd,by have:=h.le;omega,fun p=>by
 rw [h.mem];constructor
 ·rintro (h1|⟨h1,h2,h3⟩)
  ·exact .inl h1
  ·exact .inr ⟨h1,oM,h3⟩
 ·rintro (h1|⟨h1,h2,h3⟩)
  ·exact .inl h1
  ·refine .inr ⟨h1,?_,h3⟩;by_cases he:p=(x,y)
   ·rw [he,hb] at h3;cases h3
   ·have:¬(p.1=x/\p.2=y):=fun h=>he (Prod.ext h.1 h.2);omega⟩
theorem Fill.put{f:Ft}{l0 l:List qd}{lo hi:qd}{x y:Int}(h:Fill f l0 lo hi x y l)(hx:xf lo hi (x,y))(hb:(yK f.tex (x,y)&&wQ f.pts (x,y))=true):Fill f l0 lo hi (x+1) y (jO l (x,y)):=⟨KD h.nd,by have:=h.le;have:=(lS l (x,y)).2;omega,fun p=>by
 rw [eL,h.mem];constructor
 ·rintro ((h1|⟨h1,h2,h3⟩)|rfl)
  ·exact .inl h1
  ·exact .inr ⟨h1,oM,h3⟩
  ·exact .inr ⟨hx,.inr ⟨rfl,show x<x+1 by omega⟩,hb⟩
 ·rintro (h1|⟨h1,h2,h3⟩)
  ·exact .inl (.inl h1)
  ·by_cases he:p=(x,y)
   ·exact .inr he
   ·refine .inl (.inr ⟨h1,?_,h3⟩);have:¬(p.1=x/\p.2=y):=fun h=>he (Prod.ext h.1 h.2);omega⟩
theorem Fill.row{f:Ft}{l0 l:List qd}{lo hi:qd}{y:Int}(h:Fill f l0 lo hi (hi.1+1) y l)(hw:hi.1+1-lo.1<=60):Fill f l0 lo hi lo.1 (y+1) l:=⟨h.nd,by have:=h.le;omega,fun p=>by
 rw [h.mem];constructor
 ·rintro (h1|⟨h1,h2,h3⟩)
  ·exact .inl h1
  ·exact .inr ⟨h1,oM,h3⟩
 ·rintro (h1|⟨h1,h2,h3⟩)
  ·exact .inl h1
  ·refine .inr ⟨h1,?_,h3⟩;unfold xf at h1;omega⟩
theorem AY{f:Ft}(hv:xB f=true)(h1:f.kind=1):DK 141 [bM f] fun d=>d=qx (qN f):=by
 obtain⟨⟨hn1,hn2⟩,hin,hk⟩:=yS hv;have hsm:yy f.pts:=fun p hp=>QM (hin p hp);obtain⟨a,ha⟩:∃q,f.pts[0]?=some q:=⟨_,zge oM⟩;have e0:=qY ha;refine zy rA rfl jm fun Z0 lo=>?_;refine qa ?_;intros;refine qj rfl rfl (c6 oM) ?_;rintro _ rfl;rw [hv];refine qa ?_;intros;refine qb rfl (fun ht=>by cases ht) (fun _=>?_);have b1:(f.kind==1)=true:=by simpa using h1
 refine xn ?_;intros;refine qb rfl (fun _=>?_) (fun ht=>by cases ht);refine xn ?_;intros;refine qu (E0:=[(2,.one (.own 1 0 1 2))]) (S0:=[(1,.data (qh a))]) (qf rfl (qw _)) (qf rfl (qw _)) ?_;refine qH 1 rfl qD qD ?_;refine qc ⟨_,rfl,rfl,?_⟩;rw [qN,if_pos h1];have hl:f.pts.length=1:=by
  rw [zD,if_pos h1] at hk;simp at hk;exact hk.1
 obtain⟨x,hx⟩:=List.length_eq_one_iff.1 hl;rw [hx] at ha ⊢;obtain rfl:=zsi ha;rfl
theorem AX{f:Ft}(hv:xB f=true)(h1:¬f.kind=1)(h2:f.kind=2):DK 141 [bM f] fun d=>d=qx (qN f):=by
 obtain⟨⟨hn1,hn2⟩,hin,hk⟩:=yS hv;have hsm:yy f.pts:=fun p hp=>QM (hin p hp);obtain⟨a,ha⟩:∃q,f.pts[0]?=some q:=⟨_,zge oM⟩;have e0:=qY ha;refine zy rA rfl jm fun Z0 lo=>?_;refine qa ?_;intros;refine qj rfl rfl (c6 oM) ?_;rintro _ rfl;rw [hv];refine qa ?_;intros;refine qb rfl (fun ht=>by cases ht) (fun _=>?_);have b1:(f.kind==1)=false:=by simpa using h1
 have b2:(f.kind==2)=true:=by simpa using h2
 refine xn ?_;intros;refine qb rfl (fun ht=>by cases ht) (fun _=>?_);refine xn ?_;intros;refine qb rfl (fun _=>?_) (fun ht=>by cases ht);refine xn ?_;intros;refine ZI rfl rfl (gO hsm oM) ?_;rintro _ _ _ ⟨l,hA,rfl,rfl,rfl⟩;refine pQ (E0:=[(28,.one (.om 0))]) (S0:=[(0,yM l)]) (n0:=1) [(0,1)] ?hw ?_
 case hw=>exact ql
 have hl2:2<=f.pts.length:=by
  rw [zD,if_neg h1,if_pos h2] at hk;simp at hk;exact hk.1
 have hl0:0<l.length:=by
  obtain⟨b,hb⟩:∃q,f.pts[1]?=some q:=⟨_,zge oM⟩;exact List.length_pos_of_mem ((hA.mem _).2 ⟨0,a,b,oM,ha,hb,X1 a b⟩)
 have:=hA.le;refine ko rfl rfl rfl (dO hA.nd hl0 oM _ _ _ _ _) ?_;rintro _ S' _ ⟨rfl,hS,rfl⟩;refine zW (zj _) hS ?_;refine xn ?_;intros;refine qu (qf (k:=2) rfl (qw _)) (qf (k:=6) rfl (qw _)) ?_;have hfl:=qL (qt l);refine qH 6 rfl qD qD ?_;refine qc ⟨_,rfl,rfl,?_⟩;have he:qt l=qN f:=by
  rw [qN,if_neg h1,if_pos h2];exact aL fun p=>by rw [hA.mem,Vx]
 rw [he];rfl
theorem AW{f:Ft}(hv:xB f=true)(h1:¬f.kind=1)(h2:¬f.kind=2):DK 141 [bM f] fun d=>d=qx (qN f):=by
 obtain⟨⟨hn1,hn2⟩,hin,hk⟩:=yS hv;have hsm:yy f.pts:=fun p hp=>QM (hin p hp);obtain⟨a,ha⟩:∃q,f.pts[0]?=some q:=⟨_,zge oM⟩;have e0:=qY ha;refine zy rA rfl jm fun Z0 lo=>?_;refine qa ?_;intros;refine qj rfl rfl (c6 oM) ?_;rintro _ rfl;rw [hv];refine qa ?_;intros;refine qb rfl (fun ht=>by cases ht) (fun _=>?_);have b1:(f.kind==1)=false:=by simpa using h1
 have b2:(f.kind==2)=false:=by simpa using h2
 refine xn ?_;intros;refine qb rfl (fun ht=>by cases ht) (fun _=>?_);refine xn ?_;intros;refine qb rfl (fun ht=>by cases ht) (fun _=>?_);refine xn ?_;intros;refine ZI rfl rfl (AM hsm oM oM) ?_;rintro _ _ _ ⟨l,hA,rfl,rfl,rfl⟩;refine xn ?_;intros;refine qm (fun m E S nk=>∃(i:Nat) (lo hi:qd),i+m=f.pts.length/\zm lo=true/\zm hi=true/\(∀(j:Nat) q,j<i->f.pts[j]?=some q->xf lo hi q)/\E=[(1,.one (.ptr 0 0)),(3,.one (.om 1)),(4,.one (.ptr 2 0)),(5,.one (.ptr 3 0)),(42,qx f.pts),(43,.int f.pts.length),(44,.int i)]/\S=US f l lo hi/\nk=4)
  ⟨f.pts.length,_,_,_,[],?wk,0,a,a,oM,hin a (zmg ha),hin a (zmg ha),fun j q hj=>oM,rfl,rfl,rfl⟩ ?_
 case wk=>exact ql
 rintro m E S nk ⟨i,lo,hi,him,hlo,hhi,hbx,rfl,rfl,rfl⟩;refine qa ?_;intros;refine qb rfl (fun ht2=>?_) (fun ht2=>?_)
 ·have ht2:i<f.pts.length:=by have:=qG ht2;omega
  obtain⟨q,hq⟩:∃q,f.pts[i]?=some q:=⟨_,zge ht2⟩;have e1:=qY hq;have hq60:=hin q (zmg hq);refine qa ?_;intros;refine⟨m-1,oM,_,_,_,[],?wk1,i+1,(min lo.1 q.1,min lo.2 q.2),(max hi.1 q.1,max hi.2 q.2),oM,?g1,?g2,?g3,rfl,rfl,rfl⟩
  case g1=>rw [xJ] at *;simp only;omega
  case g2=>rw [xJ] at *;simp only;omega
  case g3=>
   intro j q' hj hq';by_cases hji:j=i
   ·subst hji;rw [hq] at hq';obtain rfl:=zsi hq';unfold xf;simp only;omega
   ·have:=hbx j q' oM hq';unfold xf at *;simp only;omega
  case wk1=>exact ql
 ·have ht2:i=f.pts.length:=by have:=qQ ht2;omega
  subst ht2;obtain⟨k,hk4,hft⟩:∃k:Nat,k<4/\f.tex=k:=by
   rw [zD,if_neg h1,if_neg h2] at hk;by_cases h3:f.kind=3
   ·rw [if_pos h3] at hk;simp at hk;exact⟨f.tex.toNat,oM,oM⟩
   ·rw [if_neg h3] at hk;cases hk
  have hab:=hbx 0 a oM ha;rw [xJ] at hlo hhi;have hle0:=hA.le;have hfs:=Fill.start (f:=f) (l0:=l) (lo:=lo) (hi:=hi) hA.nd;refine qa ?_;intros;refine qj rfl rfl (pU hft hk4) ?_;rintro _ rfl;refine qa ?_;intros;refine qm (fun m E S nk=>∃(y:Int) (l':List qd),lo.2<=y/\y<=hi.2+1/\m=(hi.2+1-y).toNat/\Fill f l lo hi lo.1 y l'/\E=[(1,.one (.ptr 0 0)),(3,.one (.om 1)),(4,.one (.ptr 2 0)),(5,.one (.ptr 3 0)),(8,f4 (VB k)),(9,.int y)]/\S=US f l' lo hi/\nk=4)
   ⟨_,_,_,_,[],?wk2,lo.2,l,oM,by unfold xf at hab;omega,rfl,hfs,rfl,rfl,rfl⟩ ?_
  case wk2=>exact ql
  rintro m E S nk ⟨y,l1,hy1,hy2,rfl,hF1,rfl,rfl,rfl⟩;refine qa ?_;intros;refine qb rfl (fun hy3=>?_) (fun hy3=>?_)
  ·have hy3:=qG hy3;refine qa ?_;intros;refine qm (fun m E S nk=>∃(x:Int) (l':List qd),lo.1<=x/\x<=hi.1+1/\m=(hi.1+1-x).toNat/\Fill f l lo hi x y l'/\E=[(1,.one (.ptr 0 0)),(3,.one (.om 1)),(4,.one (.ptr 2 0)),(5,.one (.ptr 3 0)),(8,f4 (VB k)),(9,.int y),(10,.int x)]/\S=US f l' lo hi/\nk=4)
    ⟨_,_,_,_,[],?wk3,lo.1,l1,oM,by unfold xf at hab;omega,rfl,hF1,rfl,rfl,rfl⟩ ?_
   case wk3=>exact ql
   rintro m E S nk ⟨x,l2,hx1,hx2,rfl,hF2,rfl,rfl,rfl⟩;refine qa ?_;intros;refine qb rfl (fun hx3=>?_) (fun hx3=>?_)
   ·have hx3:=qG hx3;have hxs:qB 1000 (x,y):=by unfold qB;simp only;omega
    have hib:xf lo hi (x,y):=by unfold xf;simp only;omega
    refine qa ?_;intros;refine TK rfl (CS hk4) rfl rfl (TR (p:=(x,y)) hk4 hxs) ?_;rintro _ rfl;cases hb:yK f.tex (x,y) with
    |false=>
     rw [hft] at hb;rw [hb];refine qa ?_;intros;refine qb rfl (fun ht=>by cases ht) (fun _=>?_);refine qa ?_;intros;refine⟨(hi.1+1-(x+1)).toNat,by omega,_,_,_,[],?wk4,x+1,l2,by omega,by omega,rfl,hF2.skip (by rw [hft,hb];rfl),rfl,rfl,rfl⟩
     case wk4=>exact ql
    |true=>
     rw [hft] at hb;rw [hb];refine qa ?_;intros;refine qj rfl rfl (D4 (p:=(x,y)) hsm hxs oM) ?_;rintro _ rfl;refine qa ?_;intros;refine qb rfl (fun hi2=>?_) (fun hi2=>?_)
     ·have hi2:wQ f.pts (x,y)=true:=by simpa using hi2
      refine qa ?_;intros;refine gJ rfl rfl rfl rfl (lL _ (x,y)) rfl ?_;refine qa ?_;intros;refine⟨(hi.1+1-(x+1)).toNat,by omega,_,_,_,[],?wk5,x+1,jO l2 (x,y),by omega,by omega,rfl,hF2.put hib (by rw [hft,hb,hi2];rfl),rfl,rfl,rfl⟩
      case wk5=>exact ql
     ·have hi2:wQ f.pts (x,y)=false:=by simpa using hi2
      refine qa ?_;intros;refine⟨(hi.1+1-(x+1)).toNat,by omega,_,_,_,[],?wk6,x+1,l2,by omega,by omega,rfl,hF2.skip (by rw [hft,hb,hi2];rfl),rfl,rfl,rfl⟩
      case wk6=>exact ql
   ·have hx3:=qQ hx3;obtain rfl:x=hi.1+1:=by omega
    refine qa ?_;intros;refine⟨(hi.2+1-(y+1)).toNat,oM,_,_,_,[],?wk7,y+1,l2,oM,oM,rfl,hF2.row oM,rfl,rfl,rfl⟩
    case wk7=>exact ql
  ·have hy3:=qQ hy3;obtain rfl:y=hi.2+1:=by omega
   have hl1:=hF1.le;have hl0:0<l1.length:=by
    obtain⟨b,hb⟩:∃q,f.pts[zL f.pts 0]?=some q:=⟨_,zge (jz oM)⟩;exact List.length_pos_of_mem ((hF1.mem _).2 (.inl ((hA.mem _).2 ⟨0,a,b,ha,hb,X1 a b⟩)))
   refine qa ?_;intros;refine pQ (E0:=[(104,.one (.om 0))]) (S0:=[(0,yM l1)]) (n0:=1) [(0,1)] ?hw ?_
   case hw=>exact ql
   refine ko rfl rfl rfl (dO hF1.nd hl0 oM _ _ _ _ _) ?_;rintro _ S' _ ⟨rfl,hS,rfl⟩;refine zW (zj _) hS ?_;refine qa ?_;intros;refine qu (qf (k:=2) rfl (qw _)) (qf (k:=6) rfl (qw _)) ?_;have hfl:=qL (qt l1);refine qH 6 rfl qD qD ?_;refine qc ⟨_,rfl,rfl,?_⟩;have he:qt l1=qN f:=by
    rw [qN,if_neg h1,if_neg h2];refine aL fun p=>?_;rw [hF1.mem,hA.mem,List.mem_append,WK,zI,List.mem_filter,X4];constructor
    ·rintro (h|⟨h,_,h3⟩)
     ·exact .inl h
     ·refine .inr ⟨?_,h3⟩;rw [xJ];unfold xf at h;omega
    ·rintro (h|⟨h,h3⟩)
     ·exact .inl h
     ·have hbp:xf lo hi p:=mL (L:=f.pts) (fun q hq=>by
       obtain⟨j,hj⟩:=List.getElem?_of_mem hq;exact hbx j q (zgs hj).1 hj) (by
       rw [xt] at h3;exact h3.2)
      refine .inr ⟨hbp,?_,h3⟩;unfold xf at hbp;omega
   rw [he];rfl
theorem gW{f:Ft}(hv:xB f=true):DK 141 [bM f] fun d=>d=qx (qN f):=by
 by_cases h1:f.kind=1
 ·exact AY hv h1
 ·by_cases h2:f.kind=2
  ·exact AX hv h1 h2
  ·exact AW hv h1 h2
def QL:Nat->List C->Bool
 |0,[]=>true
 |n+1,.bool false::l=>QL n l
 |_,_=>false
theorem Ym:∀{n:Nat} {l:List C},QL n l=true->l=List.replicate n (.bool false)
 |0,[],_=>rfl
 |0,c::l,h=>by simp [QL] at h
 |n+1,[],h=>by simp [QL] at h
 |n+1,c::l,h=>by
  cases c with
  |bool b=>
   cases b with
   |false=>
    have:=Ym (n:=n) (l:=l) h;rw [this,List.replicate_succ]
   |true=>simp [QL] at h
  |_=>simp [QL] at h
def bC(b:Bool):DC:=.f (.c (.bool b))
def jV(A:List Bool):Bk:=.cells (A.map bC)
theorem vN(ρ:List (Nat × Nat))(A:List Bool):Xc ρ (jV A)=jV A:=by
 simp only [Xc,jV,JX,List.map_map];congr 1
theorem Kl(n:Nat):∀A:List Bool,qE (wX n) (A.map bC)=true
 |[]=>rfl
 |b::A=>by rw [List.map_cons,qE,Kl n A];rfl
theorem vM(n:Nat)(A:List Bool):Wz n (jV A)=true:=Kl n A
theorem Kx{α:Type}:∀(l pre X:List α),l.length=X.length->setLs (pre++X) pre.length l=pre++l
 |[],pre,[],_=>rfl
 |[],_,_::_,h=>by simp at h
 |_::_,_,[],h=>by simp at h
 |c::l,pre,x::X,h=>by
  rw [setLs];have:(pre++x::X).set pre.length c=(pre++[c])++X:=by simp
  rw [this,show pre.length+1=(pre++[c]).length by simp,Kx l (pre++[c]) X (by simpa using h)];simp
theorem sU{α:Type}{l X:List α}(h:l.length=X.length):setLs X 0 l=l:=by simpa using Kx l [] X h
theorem TM {p:Par} {base rs:Nat} {Q:qo->Bx->Nat->Prop} {r:List SOper} {A:List Nat} {E:qo} {i1 i2 i3 n:Nat} {z z':List C} (hz:QL n z=true) (hz':QL n z'=true)
 (h:DPW p base rs Q r [] A ((3,.one (.ptr 0 0))::(9,.agg ((List.replicate n (C.bool false)).map kY))::E) [(0,jV (List.replicate n false))] 1):DPW p base rs Q (⟨i1,some 9,.p (.build z []),none,none,[],false⟩::⟨i2,some 3,.a (.alloc z'),none,none,[],false⟩::⟨i3,none,.e (.store n (.t 3) (.t 9)),none,none,[],false⟩::r) [] A E [] 0:=by
 obtain rfl:=Ym hz;obtain rfl:=Ym hz';refine xT (d:=.agg ((List.replicate n (.bool false)).map kY)) rfl ?_;refine Qz (x:=.cells ((List.replicate n (.bool false)).map kY)) rfl ?_;refine vq (k:=0) (o:=0) rfl rfl rfl (by simp) rfl (by simp [Bk.len]) rfl ?_;have e:QC (.cells ((List.replicate n (C.bool false)).map kY)) 0 ((List.replicate n (C.bool false)).map kY)=jV (List.replicate n false):=by
  rw [QC,sU rfl,jV];simp [bC,kY]
 rw [<-e] at h;exact h
theorem QZ{E:qo}{x i:Opd}{k o len esz:Nat}{kd:IntKind}{j:Int}(hx:ro E x=some (.one (.ptr k o)))(hi:ro E i=some (.one (.f (.c (.int kd j)))))(h0:0<=j)(h1:j<len):yd E (.aaddr len esz x i)=some (.one (.ptr k (o+j.toNat*esz))):=by
 have e:xa j len=some j.toNat:=by
  obtain⟨n,rfl⟩:=Int.eq_ofNat_of_zero_le h0;have:n<len:=by omega
  show (match Nat.blt n len with|true=>some n|false=>none)=_
  rw [show Nat.blt n len=true by simpa using this];rfl
 simp only [yd,hx,hi,e]
theorem AN{p:Par}{E:qo}{S:Bx}{a:Opd}{k o:Nat}{A:List Bool}{b:Bool}(ha:ro E a=some (.one (.ptr k o)))(hk:lk S k=some (jV A))(hb:A[o]?=some b):jd p E S false 1 a=some (.bool b):=by
 have h1:o<A.length:=(zgs hb).1;have e:qT (A.map bC) o 1=some [bC b]:=by
  unfold qT;rw [show Nat.ble (o+1) (A.map bC).length=true by simp;omega];simp only [zoi];rw [<-List.map_drop,List.drop_eq_getElem_cons h1];simp [(zgs hb).2]
 simp only [jd,ha,Zy,hk,jV,e];rfl
theorem G6(A:List Bool)(o:Nat)(b:Bool):QC (jV A) o [bC b]=jV (A.set o b):=by
 rw [jV,QC,setLs,setLs,jV,List.map_set]
def x7(L:List qd)(n:Nat):List qd:=(List.range n).flatMap fun i=>xz (xW L i) (xW L (zL L i))
theorem Zl(L:List qd)(n:Nat):x7 L (n+1)=x7 L n++xz (xW L n) (xW L (zL L n)):=by
 simp [x7,List.range_succ]
theorem Qq{L:List qd}(hl:yy L):∀n,n<=L.length->(x7 L n).length<=2001*n
 |0,_=>by simp [x7]
 |n+1,h=>by
  have h1:=Qq hl n oM;have h2:=jD (hl _ (kR (i:=n) oM)) (hl _ (kR (jz (i:=n) oM)));rw [Zl,List.length_append];omega
theorem LV{L:List qd}{n:Nat}(hl:yy L)(hn:L.length<100)(hnl:n<=L.length):DK 196 [qx L,.int n] fun d=>d=qx (x7 L n):=by
 refine qI fun Z0 lo=>?_;refine qa ?_;intros;refine qm (fun m E S nk=>∃i:Nat,i+m=n/\E=[(0,qx L),(1,.int n),(5,.one (.own 0 0 (x7 L i).length 2)),(6,.int i)]/\S=[(0,.data ((x7 L i).flatMap qh))]/\nk=1)
  ⟨n,_,_,_,[],?wk,0,oM,rfl,rfl,rfl⟩ ?_
 case wk=>exact ql
 rintro m E S nk ⟨i,hi,rfl,rfl,rfl⟩;refine qa ?_;intros;refine qb rfl (fun ht=>?_) (fun ht=>?_)
 ·have ht:i<n:=by have:=qG ht;omega
  have ha:L[i]?=some (xW L i):=by rw [xW,zge (by omega)];rfl
  have hb:L[zL L i]?=some (xW L (zL L i)):=by rw [xW,zge (jz (by omega))];rfl
  have hsa:=hl _ (zmg ha);have hsb:=hl _ (zmg hb);have h1:=Qq hl i oM;have h2:=jD hsa hsb;have hfl:=qL (x7 L i);have hf2:=qL (xz (xW L i) (xW L (zL L i)));refine qa ?_;intros;refine qj rfl rfl (gS oM oM ha hb) ?_;rintro _ rfl;refine qa ?_;intros;refine qj rfl rfl (nL hsa hsb) ?_;rintro _ rfl;refine qy (m:=(xz (xW L i) (xW L (zL L i))).length) (q:=(xz (xW L i) (xW L (zL L i))).flatMap qh) rfl rfl rfl (qp _ hfl) ⟨rfl,rfl,rfl⟩ oM oM (by decide) rfl ?_;rw [<-List.flatMap_append,<-List.length_append,<-Zl];refine qa ?_;intros;refine⟨m-1,oM,_,_,_,[(0,3)],?wk1,i+1,oM,rfl,rfl,rfl⟩
  case wk1=>exact ql
 ·have ht:i=n:=by have:=qQ ht;omega
  subst ht;have hfl:=qL (x7 L i);refine qa ?_;intros;refine qu (qf (k:=4) rfl (qw _)) (qf (k:=0) rfl (qw _)) ?_;refine qH 0 rfl qD qD ?_;exact qc ⟨_,rfl,rfl,rfl⟩
def ji(y n:Nat):List qd:=(List.range n).map fun (x:Nat)=>((x:Int),(y:Int))
def yc(y:Nat):List qd:=(List.range y).flatMap fun (y:Nat)=>ji y 60
theorem XU(y n:Nat):ji y (n+1)=ji y n++[((n:Int),(y:Int))]:=by simp [ji,List.range_succ]
theorem QN(y:Nat):yc (y+1)=yc y++ji y 60:=by simp [yc,List.range_succ]
theorem WV(y n:Nat):(ji y n).length=n:=by simp [ji]
theorem Qr:∀y:Nat,(yc y).length=60*y
 |0=>rfl
 |y+1=>by rw [QN,List.length_append,Qr y,WV];omega
theorem Js:yc 60=KV:=rfl
theorem aQ(y:Nat):∀n,qS (ji y n)
 |0=>List.Pairwise.nil
 |n+1=>by
  rw [XU];refine List.pairwise_append.2 ⟨aQ y n,by simp,fun a ha b hb=>?_⟩;rw [List.mem_singleton] at hb;subst hb;simp only [ji,List.mem_map,List.mem_range] at ha;obtain⟨x,hx,rfl⟩:=ha;rw [wK];exact .inr ⟨rfl,show (x:Int)<(n:Int) by omega⟩
theorem KU:∀n,qS (yc n)
 |0=>List.Pairwise.nil
 |n+1=>by
  rw [QN];refine List.pairwise_append.2 ⟨KU n,aQ n 60,fun a ha b hb=>?_⟩;simp only [yc,ji,List.mem_flatMap,List.mem_map,List.mem_range] at ha hb;obtain⟨y,hy,x,hx,rfl⟩:=ha;obtain⟨x',hx',rfl⟩:=hb;rw [wK];simp only;omega
theorem d3{l:List qd}(h:∀p∈l,zm p=true):KV.filter (fun p=>decide (p∈l))=qt l:=by
 refine qS.ext ?_ (xv l) fun p=>?_
 ·rw [<-Js];exact (KU 60).filter _
 ·rw [List.mem_filter,X4,xi];simp only [xF];exact⟨fun h=>h.2,fun hp=>⟨h p hp,hp⟩⟩
structure Marks (l:List qd) (A:List Bool):Prop where
 len:A.length=3600
 at_:∀p,zm p=true->A[0+p.2.toNat*60+p.1.toNat*1]?=some (decide (p∈l))
theorem Marks.nil:Marks [] (List.replicate 3600 false):=⟨by rw [List.length_replicate],fun p hp=>by
 rw [xJ] at hp;rw [List.getElem?_replicate,if_pos (by omega)];simp⟩
theorem Marks.snoc{l:List qd}{A:List Bool}{q:qd}(h:Marks l A)(hq:zm q=true):Marks (l++[q]) (A.set (0+q.2.toNat*60+q.1.toNat*1) true):=⟨by rw [List.length_set];exact h.len,fun p hp=>by
 have hl:=h.len;have h1:=h.at_ p hp;rw [xJ] at hp hq;rw [List.getElem?_set];by_cases he:p=q
 ·subst he;rw [if_pos rfl,if_pos (by omega),decide_eq_true (by simp)]
 ·have hne:¬(p.1=q.1/\p.2=q.2):=fun h=>he (Prod.ext h.1 h.2);rw [if_neg (by omega),h1];simp [he]⟩
set_option maxRecDepth 100000 in
theorem WG{l:List qd}(hin:∀p∈l,zm p=true)(hn:l.length<1000000):DK 195 [qx l] fun d=>d=qx (qt l):=by
 refine qI fun Z0 lo=>?_;refine yB ?_;refine yq wq (fun base=>?_);refine xT rfl ?_;refine zE ?_;refine yB ?_;refine yq wq (fun base=>?_);refine TM (by kernel_rfl) (by kernel_rfl) ?_;refine qa ?_;intros;refine qm (fun m E S nk=>∃(i:Nat) (A:List Bool),i+m=l.length/\Marks (l.take i) A/\E=[(0,qx l),(3,.one (.ptr 0 0)),(4,.int i)]/\S=[(0,jV A)]/\nk=1)
  ⟨l.length,_,_,_,[],?wk,0,_,oM,Marks.nil,rfl,rfl,rfl⟩ ?_
 case wk=>exact⟨xH,⟨by rw [vN];rfl,vM _ _,rfl,trivial⟩,rfl,rfl⟩
 rintro m E S nk ⟨i,A,hi,hM,rfl,rfl,rfl⟩;refine qa ?_;intros;refine qb rfl (fun ht=>?_) (fun ht=>?_)
 ·have ht:i<l.length:=by have:=qG ht;omega
  obtain⟨q,hq⟩:∃q,l[i]?=some q:=⟨_,zge ht⟩;have e1:=qY hq;have hq6:=hin q (zmg hq);have hq60:=xJ.1 hq6;have b1:decide (q.1>=0)=true:=decide_eq_true hq60.1.1;have b2:decide (q.2>=0)=true:=decide_eq_true hq60.2.1;have b3:decide (q.1<60)=true:=decide_eq_true hq60.1.2;have b4:decide (q.2<60)=true:=decide_eq_true hq60.2.2;refine xn ?_;intros;refine qb rfl (fun _=>?_) (fun ht=>by cases ht);refine xn ?_;intros;refine xT (QZ rfl rfl hq60.2.1 hq60.2.2) ?_;refine xn ?_;intros;refine xT (QZ rfl rfl hq60.1.1 hq60.1.2) ?_;have hlen:0+q.2.toNat*60+q.1.toNat*1+1<=(jV A).len:=by
   simp only [jV,Bk.len,List.length_map,hM.len];omega
  refine vq rfl rfl rfl rfl rfl hlen rfl ?_;refine zE ?_;have hM2:Marks (l.take (i+1)) (A.set (0+q.2.toNat*60+q.1.toNat*1) true):=by
   rw [List.take_add_one,hq];exact hM.snoc hq6
  refine qu (E0:=[(0,qx l),(3,.one (.ptr 0 0)),(4,.int i)]) (S0:=[(0,jV (A.set (0+q.2.toNat*60+q.1.toNat*1) true))]) (qf rfl (qf rfl (qf rfl (qw _)))) (qf (congrArg some (G6 A _ true)) (qw _)) ?_;refine qa ?_;intros;refine⟨m-1,oM,_,_,_,[],?wk1,i+1,_,oM,hM2,rfl,rfl,rfl⟩
  case wk1=>exact⟨xH,⟨by rw [vN];rfl,vM _ _,rfl,trivial⟩,rfl,rfl⟩
 ·have ht:i=l.length:=by have:=qQ ht;omega
  subst ht;rw [List.take_length] at hM;refine qa ?_;intros;refine qm (fun m E S nk=>∃(y:Nat) (out:List qd),y+m=60/\out=(yc y).filter (fun p=>decide (p∈l))/\E=[(3,.one (.ptr 0 0)),(6,.one (.own 1 0 out.length 2)),(7,.int y)]/\S=[(0,jV A),(1,.data (out.flatMap qh))]/\nk=2)
   ⟨60,_,_,_,[],?wk2,0,[],rfl,rfl,rfl,rfl,rfl⟩ ?_
  case wk2=>exact⟨xH,⟨by rw [vN];rfl,vM _ _,rfl,rfl,rfl,rfl,trivial⟩,rfl,rfl⟩
  rintro m E S nk ⟨y,out,hy,ho,rfl,rfl,rfl⟩;refine qa ?_;intros;refine qb rfl (fun hy2=>?_) (fun hy2=>?_)
  ·have hy2:y<60:=by have:=qG hy2;omega
   refine qa ?_;intros;refine qm (fun m E S nk=>∃(x:Nat) (out:List qd),x+m=60/\out=(yc y++ji y x).filter (fun p=>decide (p∈l))/\E=[(3,.one (.ptr 0 0)),(6,.one (.own 1 0 out.length 2)),(7,.int y),(8,.int x)]/\S=[(0,jV A),(1,.data (out.flatMap qh))]/\nk=2)
    ⟨60,_,_,_,[],?wk3,0,out,rfl,by rw [ho];simp [ji],rfl,rfl,rfl⟩ ?_
   case wk3=>exact⟨xH,⟨by rw [vN];rfl,vM _ _,rfl,rfl,rfl,rfl,trivial⟩,rfl,rfl⟩
   rintro m2 E S nk ⟨x,out2,hx,ho2,rfl,rfl,rfl⟩;refine qa ?_;intros;refine qb rfl (fun hx2=>?_) (fun hx2=>?_)
   ·have hx2:x<60:=by have:=qG hx2;omega
    have hp:=hM.at_ ((x:Int),(y:Int)) (by rw [xJ];simp only;omega);have hle:out2.length<=3600:=by
     have h1:out2.length<=(yc y++ji y x).length:=by rw [ho2];exact List.length_filter_le _ _
     have h2:(yc y++ji y x).length=60*y+x:=by rw [List.length_append,Qr,WV]
     omega
    have hfl:=qL out2;refine qa ?_;intros;refine xT (QZ rfl rfl (Int.natCast_nonneg _) oM) ?_;refine qa ?_;intros;refine xT (QZ rfl rfl (Int.natCast_nonneg _) oM) ?_;refine jF (AN rfl rfl hp) ?_;refine qa ?_;intros;refine qb rfl (fun hb=>?_) (fun hb=>?_)
    ·have hb:decide (((x:Int),(y:Int))∈l)=true:=hb;refine qa ?_;intros;refine qy (m:=1) (q:=qh ((x:Int),(y:Int))) rfl rfl rfl (qp _ hfl) ⟨rfl,rfl,_,rfl,rfl⟩ oM oM (by decide) rfl ?_;have h3:(yc y++ji y (x+1)).filter (fun p=>decide (p∈l))=out2++[((x:Int),(y:Int))]:=by rw [XU,<-List.append_assoc,List.filter_append,<-ho2];simp [qG hb]
     rw [show out2.flatMap qh++qh ((x:Int),(y:Int))=(out2++[((x:Int),(y:Int))]).flatMap qh by simp,show out2.length+1=(out2++[((x:Int),(y:Int))]).length by simp];refine qa ?_;intros;refine⟨m2-1,oM,_,_,_,[(1,3)],?wk6,x+1,out2++[((x:Int),(y:Int))],oM,h3.symm,rfl,rfl,rfl⟩
     case wk6=>exact⟨xH,⟨by rw [vN];rfl,vM _ _,rfl,rfl,rfl,rfl,trivial⟩,rfl,rfl⟩
    ·have hb:decide (((x:Int),(y:Int))∈l)=false:=hb;refine qa ?_;intros;refine⟨m2-1,by omega,_,_,_,[],?wk4,x+1,out2,by omega,by rw [XU,<-List.append_assoc,List.filter_append,<-ho2];simp [hb],rfl,rfl,rfl⟩
     case wk4=>exact⟨xH,⟨by rw [vN];rfl,vM _ _,rfl,rfl,rfl,rfl,trivial⟩,rfl,rfl⟩
   ·have hx2:x=60:=by have:=qQ hx2;omega
    subst hx2;refine qa ?_;intros;refine⟨m-1,by omega,_,_,_,[],?wk5,y+1,out2,by omega,by rw [QN];exact ho2,rfl,rfl,rfl⟩
    case wk5=>exact⟨xH,⟨by rw [vN];rfl,vM _ _,rfl,rfl,rfl,rfl,trivial⟩,rfl,rfl⟩
  ·have hy2:y=60:=by have:=qQ hy2;omega
   subst hy2;refine qa ?_;intros;have he:out=qt l:=by rw [ho,Js];exact d3 hin
   have hfl:=qL out;refine qu (qf (k:=2) rfl (qw _)) (qf (k:=1) rfl (qw _)) ?_;refine qH 1 rfl qD qD ?_;refine qc ⟨_,rfl,rfl,?_⟩;rw [<-he];rfl
end Go.Ah
