/- -/
import Derived.Test.YtbfbplnghpdmhaaGreatDoorAb18
set_option linter.unusedSimpArgs false
set_option maxHeartbeats 8000000
set_option linter.unusedVariables false
namespace Go.Ag
open Go.Ab Go.Proofs
theorem Jp:∀{L l:List qc},l.Nodup->(vR l L).Nodup
 |[],_,h=>h
 |q::L,_,h=>Jp (L:=L) (a7 h)
theorem pS(l:List qc)(p:qc):l.length<=(wX l p).length/\(wX l p).length<=l.length+1:=by
 unfold wX;split
 ·omega
 ·rw [List.length_append,List.length_singleton];omega
theorem c7:∀(L l:List qc),l.length<=(vR l L).length/\(vR l L).length<=l.length+L.length
 |[],l=>by simp [vR]
 |q::L,l=>by
  have:=c7 L (wX l q);have:=pS l q;show _<=(vR (wX l q) L).length/\(vR (wX l q) L).length<=_;rw [List.length_cons];omega
theorem CO{l L:List qc}{i:Nat}{p:qc}(h:L[i]?=some p):vR l (L.take (i+1))=wX (vR l (L.take i)) p:=by
 unfold vR;rw [List.take_add_one,h,List.foldl_append];rfl
theorem wL{p q:qc}(hp:qE 1000 p)(hq:qE 1000 q):(xR p q).length<=2001:=by
 have h1:=WM p q;have h2:=Qx p q;unfold qE at hp hq;omega
theorem LV{l:List qc}{a b:qc}(ha:qE 1000 a)(hb:qE 1000 b):ZX 99 [.one (.om 0),zg a,zg b] [(0,j5 l)] 1
 fun d S' nk'=>d=.tup []/\yu [(0,j5 (vR l (xR a b)))] S'/\nk'=1:=by
 refine vb qa5 rfl fun Z β H lo=>?_;have hln:=wL ha hb;refine qb ?_;intros;refine qk rfl rfl (qaW ha hb) ?_;rintro _ rfl;refine qb ?_;intros;refine qm (fun m E S nk=>∃i:Nat,i+m=(xR a b).length/\E=[(0,.one (.om 0)),(10,qz (xR a b)),(11,.int (xR a b).length),(12,.int i)]/\S=[(0,j5 (vR l ((xR a b).take i)))]/\nk=1)
  ⟨(xR a b).length,_,_,_,[],?wk,0,oM,rfl,rfl,rfl⟩ ?_
 case wk=>exact ql
 rintro m E S nk ⟨i,hi,rfl,rfl,rfl⟩;refine qb ?_;intros;refine qd rfl (fun ht=>?_) (fun ht=>?_)
 ·have ht:i<(xR a b).length:=by simpa using ht
  obtain⟨q,hq⟩:∃q,(xR a b)[i]?=some q:=⟨_,zge ht⟩;have e1:=xi hq;refine qb ?_;intros;refine mY rfl rfl rfl rfl (pG _ q) rfl ?_;rw [<-CO hq];refine qb ?_;intros;refine⟨m-1,oM,_,_,_,[],?wk1,i+1,oM,rfl,rfl,rfl⟩
  case wk1=>exact ql
 ·have ht:i=(xR a b).length:=by
   have:¬i<(xR a b).length:=by simpa using ht
   omega
  subst ht;rw [List.take_length];refine qb ?_;intros;exact⟨_,rfl,rfl,_,zK _,rfl,qe rfl (qy _),rfl⟩
def jM(L:List qc):Prop:=∀p∈L,qE 1000 p
structure Along (L:List qc) (n:Nat) (l:List qc):Prop where
 nd:l.Nodup
 le:l.length<=2001*n
 mem:∀p,p∈l↔∃(i:Nat) (a b:qc),i<n/\L[i]?=some a/\L[i+1]?=some b/\p∈xR a b
theorem Along.zero(L:List qc):Along L 0 []:=⟨List.nodup_nil,by simp,fun p=>by simp⟩
theorem Along.succ{L l:List qc}{n:Nat}{a b:qc}(h:Along L n l)(ha:L[n]?=some a)(hb:L[n+1]?=some b)(hl:jM L):Along L (n+1) (vR l (xR a b)):=by
 refine⟨Jp h.nd,?_,fun p=>?_⟩
 ·have h1:=(c7 (xR a b) l).2;have h2:=wL (hl a (zmg ha)) (hl b (zmg hb));have h3:=h.le;omega
 ·rw [VK,h.mem];constructor
  ·rintro (⟨i,a',b',h1,h2,h3,h4⟩|h1)
   ·exact⟨i,a',b',oM,h2,h3,h4⟩
   ·exact⟨n,a,b,oM,ha,hb,h1⟩
  ·rintro ⟨i,a',b',h1,h2,h3,h4⟩;by_cases hi:i=n
   ·subst hi;rw [ha] at h2;rw [hb] at h3;obtain rfl:=zsi h2;obtain rfl:=zsi h3;exact .inr h4
   ·exact .inl ⟨i,a',b',oM,h2,h3,h4⟩
theorem nA{L:List qc}(hl:jM L)(hn:L.length<100):oE 63 [qz L] fun d S nk=>∃l,Along L (L.length-1) l/\d=.one (.om 0)/\S=[(0,j5 l)]/\nk=1:=by
 refine Xp qbz rfl xa fun Z0 lo=>?_;refine qb ?_;intros;refine R7 ?_;refine qb ?_;intros;refine qm (fun m E S nk=>∃(i:Nat) (l:List qc),i+m=L.length/\(i=0\/i<L.length)/\Along L i l/\E=[(0,qz L),(3,.one (.om 0)),(4,.int (i+1:Nat))]/\S=[(0,j5 l)]/\nk=1)
  ⟨L.length,_,_,_,[],?wk,0,[],oM,.inl rfl,Along.zero L,rfl,rfl,rfl⟩ ?_
 case wk=>exact ql
 rintro m E S nk ⟨i,l,hi,hi0,hA,rfl,rfl,rfl⟩;refine qb ?_;intros;refine qd rfl (fun ht=>?_) (fun ht=>?_)
 ·have ht:i+1<L.length:=by have:=xL ht;omega
  obtain⟨a,ha⟩:∃q,L[i]?=some q:=⟨_,zge oM⟩;obtain⟨b,hb⟩:∃q,L[i+1]?=some q:=⟨_,zge ht⟩;have e1:=xi ha;have e2:=xi hb;have hw:IntKind.i64.wrap (((i+1:Nat):Int)-1)=((i:Nat):Int):=by rw [qo (by omega) (by omega)];omega
  refine qb ?_;intros;rw [hw];refine qb ?_;intros;refine vC rfl rfl rfl (LV (hl a (zmg ha)) (hl b (zmg hb)) _ _ _ _ _) ?_;rintro _ S' _ ⟨rfl,hS,rfl⟩;refine yB (zK _) hS ?_;refine qb ?_;intros;refine⟨m-1,oM,_,_,_,[],?wk1,i+1,_,oM,.inr oM,hA.succ ha hb hl,rfl,rfl,rfl⟩
  case wk1=>exact ql
 ·have ht:L.length<=i+1:=by have:=xP ht;omega
  obtain rfl:i=L.length-1:=by omega
  refine qb ?_;intros;exact qf ⟨_,rfl,rfl,_,zK _,l,hA,rfl,rfl,rfl⟩
def yK(L:List qc)(i:Nat):Nat:=(i+1) % L.length
structure Around (L:List qc) (l:List qc):Prop where
 nd:l.Nodup
 le:l.length<=2001*L.length
 mem:∀p,p∈l↔∃(i:Nat) (a b:qc),L[i]?=some a/\L[yK L i]?=some b/\p∈xR a b
theorem Along.around{L l:List qc}{a b:qc}(h:Along L (L.length-1) l)(hl:jM L)(h0:0<L.length)(ha:L[L.length-1]?=some a)(hb:L[0]?=some b):Around L (vR l (xR a b)):=by
 refine⟨Jp h.nd,?_,fun p=>?_⟩
 ·have h1:=(c7 (xR a b) l).2;have h2:=wL (hl a (zmg ha)) (hl b (zmg hb));have h3:=h.le;omega
 ·rw [VK,h.mem];constructor
  ·rintro (⟨i,a',b',h1,h2,h3,h4⟩|h1)
   ·exact⟨i,a',b',h2,by rw [yK,Nat.mod_eq_of_lt (by omega)];exact h3,h4⟩
   ·exact⟨L.length-1,a,b,ha,by rw [yK,show L.length-1+1=L.length by omega,Nat.mod_self];exact hb,h1⟩
  ·rintro ⟨i,a',b',h2,h3,h4⟩;have hi:=(zgs h2).1;by_cases hx:i=L.length-1
   ·subst hx;rw [ha] at h2;rw [yK,show L.length-1+1=L.length by omega,Nat.mod_self,hb] at h3;obtain rfl:=zsi h2;obtain rfl:=zsi h3;exact .inr h4
   ·rw [yK,Nat.mod_eq_of_lt (by omega)] at h3;exact .inl ⟨i,a',b',oM,h2,h3,h4⟩
theorem EK{L:List qc}(hl:jM L)(h0:0<L.length)(hn:L.length<100):oE 64 [qz L] fun d S nk=>∃l,Around L l/\d=.one (.om 0)/\S=[(0,j5 l)]/\nk=1:=by
 refine Xp qby rfl xa fun Z0 lo=>?_;obtain⟨a,ha⟩:∃q,L[L.length-1]?=some q:=⟨_,zge oM⟩;obtain⟨b,hb⟩:∃q,L[0]?=some q:=⟨_,zge oM⟩;have e1:=xi ha;have e2:=xi hb;have hw:IntKind.i64.wrap ((L.length:Int)-1)=((L.length-1:Nat):Int):=by rw [qo (by omega) (by omega)];omega
 refine qb ?_;intros;refine ki rfl rfl (nA hl hn) ?_;rintro _ _ _ ⟨l,hA,rfl,rfl,rfl⟩;refine yB (S0:=[(0,j5 l)]) (zK _) (qe rfl (qy _)) ?_;refine qb ?_;intros;refine qd rfl (fun _=>?_) (fun ht=>?_)
 ·refine qb ?_;intros;rw [hw];refine qb ?_;intros;refine vC rfl rfl rfl (LV (hl a (zmg ha)) (hl b (zmg hb)) _ _ _ _ _) ?_;rintro _ S' _ ⟨rfl,hS,rfl⟩;refine yB (zK _) hS ?_;refine qb ?_;intros;exact qf ⟨_,rfl,rfl,_,zK _,_,hA.around hl h0 ha hb,rfl,rfl,rfl⟩
 ·have:=xP ht;omega
def cI(a b p:qc):Int:=(b.1-a.1)*(p.2-a.2)-(b.2-a.2)*(p.1-a.1)
def WD(a b p:qc):Bool:=decide (cI a b p=0)&&(decide (min a.1 b.1<=p.1)&&decide (p.1<=max a.1 b.1)&&decide (min a.2 b.2<=p.2)&&decide (p.2<=max a.2 b.2))
def Qg(a b p:qc):Bool:=if decide (a.2<=p.2)=decide (b.2<=p.2) then false else if a.2<b.2 then decide ((p.1-a.1)*(b.2-a.2)<(p.2-a.2)*(b.1-a.1)) else decide ((p.2-a.2)*(b.1-a.1)<(p.1-a.1)*(b.2-a.2))
theorem xZ{p q:qc}(hp:qE 1000 p)(hq:qE 1000 q):(-2000<=p.1-q.1/\p.1-q.1<=2000)/\(-2000<=p.2-q.2/\p.2-q.2<=2000):=by
 unfold qE at hp hq;omega
theorem WI{a b:Int}(ha: -2000<=a/\a<=2000)(hb: -2000<=b/\b<=2000):IntKind.i64.wrap (IntKind.i64.wrap a*IntKind.i64.wrap b)=a*b:=by
 rw [qo (n:=a) (by omega) (by omega),qo (n:=b) (by omega) (by omega)];have:=QK (A:=2000) (B:=2000) ha.1 ha.2 hb.1 hb.2;exact qo oM oM
theorem nJ{a b:qc}:WD a b a=true/\WD a b b=true:=by
 have e1:(b.1-a.1)*(b.2-a.2)-(b.2-a.2)*(b.1-a.1)=0:=by rw [Int.mul_comm];omega
 constructor
 ·simp [WD,cI];omega
 ·simp [WD,cI,e1];omega
theorem JN{a b:Int}(h:(a !=b)=false):a=b:=by simpa using h
theorem Kl{a b:Int}(h:(a !=b)=true):a≠b:=by simpa using h
theorem qrM:∀x y z w:Bool,(x&&y&&z&&w)=(if (if (if x=true then y else false)=true then z else false)=true then w else false):=by decide
theorem qrL:∀v x y z w:Bool,(v&&(x&&y&&z&&w))=(if (if (if (if v=true then x else false)=true then y else false)=true then z else false)=true then w else false):=by decide
theorem qt6{a b p:qc}(ha:qE 1000 a)(hb:qE 1000 b)(hp:qE 1000 p):DK 104 [zg a,zg b,zg p] fun d=>d=.bool (WD a b p):=by
 refine qD NY rfl xa fun Z0 lo=>?_;have w1:=WI (xZ hb ha).1 (xZ hp ha).2;have w2:=WI (xZ hb ha).2 (xZ hp ha).1;by_cases h1:p=a
 ·refine qb ?_;intros;refine KV (ve (p:=p) (q:=a) rfl rfl) (b:=true) (by simpa using h1) ?_;refine qb ?_;intros;refine qd rfl (fun _=>?_) (fun ht=>by cases ht);refine qb ?_;intros;exact qf ⟨_,rfl,rfl,by rw [h1,nJ.1]⟩
 ·by_cases h2:p=b
  ·refine qb ?_;intros;refine KV (ve (p:=p) (q:=a) rfl rfl) (b:=false) (by simpa using h1) ?_;refine qb ?_;intros;refine KV (ve (p:=p) (q:=b) rfl rfl) (b:=true) (by simpa using h2) ?_;refine qb ?_;intros;refine qd rfl (fun _=>?_) (fun ht=>by cases ht);refine qb ?_;intros;exact qf ⟨_,rfl,rfl,by rw [h2,nJ.2]⟩
  ·refine qb ?_;intros;refine KV (ve (p:=p) (q:=a) rfl rfl) (b:=false) (by simpa using h1) ?_;refine qb ?_;intros;refine KV (ve (p:=p) (q:=b) rfl rfl) (b:=false) (by simpa using h2) ?_;refine qb ?_;intros;refine qd rfl (fun ht=>by cases ht) (fun _=>?_);refine qb ?_;intros;refine qd rfl (fun ht=>?_) (fun ht=>?_)
   ·have ht:=Kl ht;rw [w1,w2] at ht;refine qb ?_;intros;exact qf ⟨_,rfl,rfl,by rw [WD,decide_eq_false (by unfold cI;omega),Bool.false_and]⟩
   ·have ht:=JN ht;rw [w1,w2] at ht;have e0:cI a b p=0:=by unfold cI;omega
    refine qb ?_;intros;refine qf ⟨_,rfl,rfl,?_⟩;rw [WD,decide_eq_true e0,Bool.true_and];refine congrArg DV.bool ?_;simp only [Bool.false_eq_true,if_false,if_true];rw [show (if b.1>a.1 then b.1 else a.1)=max a.1 b.1 by omega,show (if b.2>a.2 then b.2 else a.2)=max a.2 b.2 by omega,show (if b.2<a.2 then b.2 else a.2)=min a.2 b.2 by omega]
    exact (qrM _ _ _ _).symm
theorem qaM{a b p:qc}(ha:qE 1000 a)(hb:qE 1000 b)(hp:qE 1000 p):DK 139 [zg a,zg b,zg p] fun d=>d=.int (cI a b p):=by
 refine qD ND rfl xa fun Z0 lo=>?_;have w1:=WI (xZ hb ha).1 (xZ hp ha).2;have w2:=WI (xZ hb ha).2 (xZ hp ha).1;have b1:=QK (A:=2000) (B:=2000) (xZ hb ha).1.1 (xZ hb ha).1.2 (xZ hp ha).2.1 (xZ hp ha).2.2;have b2:=QK (A:=2000) (B:=2000) (xZ hb ha).2.1 (xZ hb ha).2.2 (xZ hp ha).1.1 (xZ hp ha).1.2;refine qb ?_;intros;refine qf ⟨_,rfl,rfl,?_⟩;refine congrArg DV.int ?_;rw [w1,w2];exact qo oM oM
theorem qpx{a b p:qc}(ha:qE 1000 a)(hb:qE 1000 b)(hp:qE 1000 p):DK 123 [zg a,zg b,zg p] fun d=>d=.bool (WD a b p):=by
 refine qD NJ rfl xa fun Z0 lo=>?_;refine qb ?_;intros;refine qk rfl rfl (qaM ha hb hp) ?_;rintro _ rfl;refine qb ?_;intros;refine qf ⟨_,rfl,rfl,?_⟩;refine congrArg DV.bool ?_;simp only [Bool.false_eq_true,if_false,if_true];rw [show (if b.1>a.1 then b.1 else a.1)=max a.1 b.1 by omega,show (if b.1<a.1 then b.1 else a.1)=min a.1 b.1 by omega,show (if b.2>a.2 then b.2 else a.2)=max a.2 b.2 by omega,show (if b.2<a.2 then b.2 else a.2)=min a.2 b.2 by omega,show (cI a b p==0)=decide (cI a b p=0) from rfl]
 exact (qrL _ _ _ _ _).symm
theorem qpy{a b p:qc}(ha:qE 1000 a)(hb:qE 1000 b)(hp:qE 1000 p):DK 105 [zg a,zg b,zg p] fun d=>d=.bool (Qg a b p):=by
 refine qD NX rfl xa fun Z0 lo=>?_;have w1:=WI (xZ hp ha).2 (xZ hb ha).1;have w2:=WI (xZ hp ha).1 (xZ hb ha).2;refine qb ?_;intros;refine qd rfl (fun ht=>?_) (fun ht=>?_)
 ·refine qb ?_;intros;refine qf ⟨_,rfl,rfl,?_⟩;rw [Qg,if_pos (by simpa using ht)]
 ·refine qb ?_;intros;refine qd rfl (fun h2=>?_) (fun h2=>?_)
  ·refine qb ?_;intros;refine qf ⟨_,rfl,rfl,?_⟩;have h2:=xL h2;rw [Qg,if_neg (by simpa using ht),if_pos (by omega),<-w1,<-w2]
  ·refine qb ?_;intros;refine qf ⟨_,rfl,rfl,?_⟩;have h2:=xP h2;rw [Qg,if_neg (by simpa using ht),if_neg (by omega),<-w1,<-w2]
theorem qaT{a b p:qc}(ha:qE 1000 a)(hb:qE 1000 b)(hp:qE 1000 p):DK 124 [zg a,zg b,zg p] fun d=>d=.bool (Qg a b p):=by
 refine qD NI rfl xa fun Z0 lo=>?_;have w1:=WI (xZ hp ha).2 (xZ hb ha).1;have w2:=WI (xZ hp ha).1 (xZ hb ha).2;refine qb ?_;intros;refine qd rfl (fun ht=>?_) (fun ht=>?_)
 ·refine qb ?_;intros;refine qf ⟨_,rfl,rfl,?_⟩;rw [Qg,if_pos (by simpa using ht)]
 ·refine qb ?_;intros;refine qd rfl (fun h2=>?_) (fun h2=>?_)
  ·refine qb ?_;intros;refine qf ⟨_,rfl,rfl,?_⟩;have h2:=xL h2;rw [Qg,if_neg (by simpa using ht),if_pos (by omega),<-w1,<-w2]
  ·refine qb ?_;intros;refine qf ⟨_,rfl,rfl,?_⟩;have h2:=xP h2;rw [Qg,if_neg (by simpa using ht),if_neg (by omega),<-w1,<-w2]
def xH(L:List qc)(i:Nat):qc:=(L[i]?).getD (0,0)
def J2(L:List qc)(p:qc)(i:Nat):Bool:=WD (xH L i) (xH L (yK L i)) p
def Jk(L:List qc)(p:qc)(i:Nat):Bool:=Qg (xH L i) (xH L (yK L i)) p
def y4(L:List qc)(p:qc):Nat->Bool
 |0=>false
 |n+1=>xor (y4 L p n) (Jk L p n)
def vN(L:List qc)(p:qc):Bool:=(List.range L.length).any (J2 L p)||y4 L p L.length
theorem xT{L:List qc}{i:Nat}{a:qc}(h:L[i]?=some a):xH L i=a:=by rw [xH,h];rfl
theorem lZ{L:List qc}{p:qc}{i:Nat}(hi:i<L.length)(h:J2 L p i=true):vN L p=true:=by
 rw [vN,List.any_eq_true.2 ⟨i,List.mem_range.2 hi,h⟩,Bool.true_or]
theorem rE{L:List qc}{p:qc}(h:∀i,i<L.length->J2 L p i=false):vN L p=y4 L p L.length:=by
 have:(List.range L.length).any (J2 L p)=false:=by
  rw [List.any_eq_false];intro i hi;rw [h i (List.mem_range.1 hi)];decide
 rw [vN,this,Bool.false_or]
theorem p8{L:List qc}{i:Nat}(_:i<L.length):Int.tmod ((i:Int)+1) (L.length:Int)=((yK L i:Nat):Int):=by
 rw [Int.tmod_eq_emod_of_nonneg (by omega)];simp [yK]
theorem IQ{L:List qc}{p:qc}(hl:jM L)(hp:qE 1000 p)(hn:L.length<100):DK 66 [qz L,zg p] fun d=>d=.bool (vN L p):=by
 refine qD qbw rfl xa fun Z0 lo=>?_;refine qb ?_;intros;refine qm (fun m E S nk=>∃i:Nat,i+m=L.length/\(∀j,j<i->J2 L p j=false)/\E=[(0,qz L),(3,.one (.ptr 0 0)),(5,.bool (y4 L p i)),(9,qz L),(10,.int L.length),(11,.int i)]/\S=[(0,.cells [.f (.c (.int .i64 p.1)),.f (.c (.int .i64 p.2))])]/\nk=1)
  ⟨L.length,_,_,_,[],?wk,0,oM,fun j hj=>oM,rfl,rfl,rfl⟩ ?_
 case wk=>exact ql
 rintro m E S nk ⟨i,hi,hno,rfl,rfl,rfl⟩;refine qb ?_;intros;refine qd rfl (fun ht=>?_) (fun ht=>?_)
 ·have ht:i<L.length:=by have:=xL ht;omega
  have hnx:yK L i<L.length:=Nat.mod_lt _ oM;obtain⟨a,ha⟩:∃q,L[i]?=some q:=⟨_,zge ht⟩;obtain⟨b,hb⟩:∃q,L[yK L i]?=some q:=⟨_,zge hnx⟩;have e1:=xi ha;have e2:=xi hb;have hsa:=hl a (zmg ha);have hsb:=hl b (zmg hb);have hw:IntKind.i64.wrap ((i:Int)+1)=(i:Int)+1:=qo oM oM;refine qb ?_;intros;rw [hw];refine b8 rfl rfl oM ?_;rw [p8 ht];refine qb ?_;intros;refine qk rfl rfl (qt6 hsa hsb hp) ?_;rintro _ rfl;refine qb ?_;intros;refine qd rfl (fun ho=>?_) (fun ho=>?_)
  ·refine qb ?_;intros;refine qf ⟨_,rfl,rfl,?_⟩;rw [lZ ht (by rw [J2,xT ha,xT hb];exact ho)]
  ·have ho:J2 L p i=false:=by rw [J2,xT ha,xT hb];exact ho
   refine qb ?_;intros;refine qk rfl rfl (qpy hsa hsb hp) ?_;rintro _ rfl;refine qb ?_;intros;refine qd rfl (fun hq=>?_) (fun hq=>?_)
   ·refine qb ?_;intros;refine⟨m-1,oM,_,_,_,[],?wk1,i+1,oM,?hno,rfl,rfl,rfl⟩
    case hno=>
     intro j hj;by_cases hji:j=i
     ·rw [hji,ho]
     ·exact hno j oM
    case wk1=>
     have:(!y4 L p i)=y4 L p (i+1):=by rw [y4,Jk,xT ha,xT hb,hq];cases y4 L p i<;>rfl
     rw [this];exact ql
   ·have:y4 L p (i+1)=y4 L p i:=by rw [y4,Jk,xT ha,xT hb,hq];cases y4 L p i<;>rfl
    refine qb ?_;intros;refine⟨m-1,oM,_,_,_,[],?wk2,i+1,oM,?hno2,rfl,rfl,rfl⟩
    case hno2=>
     intro j hj;by_cases hji:j=i
     ·rw [hji,ho]
     ·exact hno j oM
    case wk2=>
     rw [this];exact ql
 ·have ht:i=L.length:=by have:=xP ht;omega
  subst ht;refine qb ?_;intros;refine qf ⟨_,rfl,rfl,?_⟩;rw [rE hno]
theorem nE{L:List qc}{i:Nat}{a b:qc}(hn:L.length<100)(ht:i<L.length)(ha:L[i]?=some a)(hb:L[yK L i]?=some b):DK 121 [qz L,.int i] fun d=>d=.tup [zg a,zg b]:=by
 refine qD NL rfl xa fun Z0 lo=>?_;have hnx:yK L i<L.length:=Nat.mod_lt _ oM;have e1:=xi ha;have e2:=xi hb;have hw:IntKind.i64.wrap ((i:Int)+1)=(i:Int)+1:=qo oM oM;refine qb ?_;intros;rw [hw];refine b8 rfl rfl oM ?_;rw [p8 ht];refine qb ?_;intros;exact qf ⟨_,rfl,rfl,rfl⟩
theorem EP{L:List qc}{p:qc}(hl:jM L)(hp:qE 1000 p)(hn:L.length<100):DK 109 [qz L,zg p] fun d=>d=.bool (vN L p):=by
 refine qD NU rfl xa fun Z0 lo=>?_;refine qb ?_;intros;refine qm (fun m E S nk=>∃i:Nat,i+m=L.length/\(∀j,j<i->J2 L p j=false)/\E=[(0,qz L),(3,.one (.ptr 0 0)),(5,.bool (y4 L p i)),(6,.int i)]/\S=[(0,.cells [.f (.c (.int .i64 p.1)),.f (.c (.int .i64 p.2))])]/\nk=1)
  ⟨L.length,_,_,_,[],?wk,0,oM,fun j hj=>oM,rfl,rfl,rfl⟩ ?_
 case wk=>exact ql
 rintro m E S nk ⟨i,hi,hno,rfl,rfl,rfl⟩;refine qb ?_;intros;refine qd rfl (fun ht=>?_) (fun ht=>?_)
 ·have ht:i<L.length:=by have:=xL ht;omega
  have hnx:yK L i<L.length:=Nat.mod_lt _ oM;obtain⟨a,ha⟩:∃q,L[i]?=some q:=⟨_,zge ht⟩;obtain⟨b,hb⟩:∃q,L[yK L i]?=some q:=⟨_,zge hnx⟩;have hsa:=hl a (zmg ha);have hsb:=hl b (zmg hb);refine qb ?_;intros;refine qk rfl rfl (nE hn ht ha hb) ?_;rintro _ rfl;refine qb ?_;intros;refine qk rfl rfl (qpx hsa hsb hp) ?_;rintro _ rfl;refine qb ?_;intros;refine qd rfl (fun ho=>?_) (fun ho=>?_)
  ·refine qb ?_;intros;refine qf ⟨_,rfl,rfl,?_⟩;rw [lZ ht (by rw [J2,xT ha,xT hb];exact ho)]
  ·have ho:J2 L p i=false:=by rw [J2,xT ha,xT hb];exact ho
   refine qb ?_;intros;refine qk rfl rfl (qaT hsa hsb hp) ?_;rintro _ rfl;refine qb ?_;intros;refine qd rfl (fun hq=>?_) (fun hq=>?_)
   ·refine qb ?_;intros;refine⟨m-1,oM,_,_,_,[],?wk1,i+1,oM,?hno,rfl,rfl,rfl⟩
    case hno=>
     intro j hj;by_cases hji:j=i
     ·rw [hji,ho]
     ·exact hno j oM
    case wk1=>
     have:(!y4 L p i)=y4 L p (i+1):=by rw [y4,Jk,xT ha,xT hb,hq];cases y4 L p i<;>rfl
     rw [this];exact ql
   ·have:y4 L p (i+1)=y4 L p i:=by rw [y4,Jk,xT ha,xT hb,hq];cases y4 L p i<;>rfl
    refine qb ?_;intros;refine⟨m-1,oM,_,_,_,[],?wk2,i+1,oM,?hno2,rfl,rfl,rfl⟩
    case hno2=>
     intro j hj;by_cases hji:j=i
     ·rw [hji,ho]
     ·exact hno j oM
    case wk2=>
     rw [this];exact ql
 ·have ht:i=L.length:=by have:=xP ht;omega
  subst ht;refine qb ?_;intros;refine qf ⟨_,rfl,rfl,?_⟩;rw [rE hno]
def j4(k:Int)(p:qc):Bool:=decide (k=3)||(decide (k=2)&&decide (p.2.tmod 2=0))||(decide (k=1)&&decide ((p.1+p.2).tmod 2=0))
theorem qaS{k:Nat}{p:qc}(hk:k<4)(hp:qE 1000 p):DK 108 [.int k,zg p] fun d=>d=.bool (j4 k p):=by
 refine qD NV rfl xa fun Z0 lo=>?_;have hw:IntKind.i64.wrap (p.1+p.2)=p.1+p.2:=by unfold qE at hp;exact qo oM oM
 match k,hk with
 |0,_=>
  refine qb ?_;intros;exact qf ⟨_,rfl,rfl,rfl⟩
 |1,_=>
  refine qb ?_;intros;refine qf ⟨_,rfl,rfl,?_⟩;exact congrArg DV.bool (by rw [hw];rfl)
 |2,_=>
  by_cases h:p.2.tmod 2=0
  ·have hb:(p.2.tmod 2==0)=true:=by simpa using h
   refine qU ?_;intros;exact qf ⟨_,rfl,rfl,by rw [j4];simp [h]⟩
  ·have hb:(p.2.tmod 2==0)=false:=by simpa using h
   refine qU ?_;intros;exact qf ⟨_,rfl,rfl,by rw [j4];simp [h]⟩
 |3,_=>
  refine qb ?_;intros;exact qf ⟨_,rfl,rfl,rfl⟩
 |k+4,h=>omega
def cW(n:Nat):FuncId:=100+n
theorem qaR{p:qc}:DK 100 [zg p] fun d=>d=.bool (j4 0 p):=by
 refine qD N5 rfl xa fun Z0 lo=>?_;refine qb ?_;intros;exact qf ⟨_,rfl,rfl,rfl⟩
theorem qaO{p:qc}:DK 103 [zg p] fun d=>d=.bool (j4 3 p):=by
 refine qD NZ rfl xa fun Z0 lo=>?_;refine qb ?_;intros;exact qf ⟨_,rfl,rfl,rfl⟩
theorem qaP{p:qc}:DK 102 [zg p] fun d=>d=.bool (j4 2 p):=by
 refine qD N3 rfl xa fun Z0 lo=>?_;refine qb ?_;intros;refine qf ⟨_,rfl,rfl,?_⟩;exact congrArg DV.bool (by rw [j4];by_cases h:p.2.tmod 2=0<;>simp [h])
theorem qaQ{p:qc}(hp:qE 1000 p):DK 101 [zg p] fun d=>d=.bool (j4 1 p):=by
 refine qD N4 rfl xa fun Z0 lo=>?_;have hw:IntKind.i64.wrap (p.1+p.2)=p.1+p.2:=by unfold qE at hp;exact qo oM oM
 refine qb ?_;intros;refine qf ⟨_,rfl,rfl,?_⟩;exact congrArg DV.bool (by rw [hw];rfl)
theorem EM{k:Nat}(hk:k<4):DK 65 [.int k] fun d=>d=mA (cW k):=by
 refine qD qbx rfl xa fun Z0 lo=>?_
 match k,hk with
 |0,_=>
  refine qb ?_;intros;exact qf ⟨_,rfl,rfl,rfl⟩
 |1,_=>
  refine qb ?_;intros;exact qf ⟨_,rfl,rfl,rfl⟩
 |2,_=>
  refine qb ?_;intros;exact qf ⟨_,rfl,rfl,rfl⟩
 |3,_=>
  refine qb ?_;intros;exact qf ⟨_,rfl,rfl,rfl⟩
 |k+4,h=>omega
structure Ft where
 kind:Int
 tex:Int
 pts:List qc
def zt(f:Ft):List FD:=[.c (.int .i64 f.kind),.c (.int .i64 f.tex),.sl 2 f.pts.length (f.pts.flatMap qh)]
def e8(f:Ft):DV:=.agg [.f (.c (.int .i64 f.kind)),.f (.c (.int .i64 f.tex)),.f (.sl 2 f.pts.length (f.pts.flatMap qh))]
def zP(p:qc):Bool:=decide (0<=p.1)&&decide (p.1<60)&&(decide (0<=p.2)&&decide (p.2<60))
def yk(f:Ft):Bool:=if f.kind=1 then f.pts.length==1&&f.tex==0 else if f.kind=2 then decide (2<=f.pts.length)&&f.tex==0 else if f.kind=3 then decide (3<=f.pts.length)&&decide (0<=f.tex)&&decide (f.tex<=3) else false
def zd(f:Ft):Bool:=decide (1<=f.pts.length)&&decide (f.pts.length<=12)&&f.pts.all zP&&yk f
theorem xG(a b:Bool):(if a=true then true else b)=(a||b):=by cases a<;>rfl
theorem Vj(n:Nat):((n:Int)==1)=(n==1):=by
 by_cases h:n=1
 ·subst h;rfl
 ·have:¬(n:Int)=1:=by omega
  rw [beq_eq_false_iff_ne.2 h,beq_eq_false_iff_ne.2 this]
theorem Xy(a b:Bool):(if a=true then b else false)=(a&&b):=by cases a<;>rfl
theorem zu{p:qc}:zP p=true↔(0<=p.1/\p.1<60)/\0<=p.2/\p.2<60:=by simp [zP]
theorem d4{f:Ft}(h1:1<=f.pts.length)(h2:f.pts.length<=12)(h3:∀(j:Nat) q,j<f.pts.length->f.pts[j]?=some q->zP q=true):zd f=yk f:=by
 rw [zd,decide_eq_true h1,decide_eq_true h2,List.all_eq_true.2]
 ·simp
 ·intro x hx;obtain⟨j,hj⟩:=List.getElem?_of_mem hx;exact h3 j x (zgs hj).1 hj
theorem aN{f:Ft}{q:qc}{i:Nat}(hq:f.pts[i]?=some q)(h:¬zP q=true):zd f=false:=by
 have:f.pts.all zP=false:=by
  rw [List.all_eq_false];exact⟨q,zmg hq,h⟩
 rw [zd,this];simp
theorem KZ{f:Ft}(hn:f.pts.length<1000):DK 61 [e8 f] fun d=>d=.bool (zd f):=by
 refine qD qbB rfl xa fun Z0 lo=>?_;refine qb ?_;intros;refine qd rfl (fun ht=>?_) (fun ht=>?_)
 ·refine qb ?_;intros;refine qf ⟨_,rfl,rfl,?_⟩;rw [xG] at ht;simp only [Bool.or_eq_true,xV] at ht;refine congrArg DV.bool ?_;rw [zd];rcases ht with h|h
  ·rw [decide_eq_false (show¬1<=f.pts.length by omega)];rfl
  ·rw [decide_eq_false (show¬f.pts.length<=12 by omega),Bool.and_false];rfl
 ·rw [xG] at ht;simp only [Bool.or_eq_false_iff,decide_eq_false_iff_not] at ht;refine qb ?_;intros;refine qm (fun m E S nk=>∃i:Nat,i+m=f.pts.length/\(∀(j:Nat) q,j<i->f.pts[j]?=some q->zP q=true)/\E=[(1,.one (.ptr 0 0)),(3,.int f.pts.length),(16,qz f.pts),(17,.int f.pts.length),(18,.int i)]/\S=[(0,.cells [.f (.c (.int .i64 f.kind)),.f (.c (.int .i64 f.tex)),.f (.sl 2 f.pts.length (f.pts.flatMap qh))])]/\nk=1)
   ⟨f.pts.length,_,_,_,[],?wk,0,oM,fun j q hj=>oM,rfl,rfl,rfl⟩ ?_
  case wk=>exact ql
  rintro m E S nk ⟨i,hi,hok,rfl,rfl,rfl⟩;refine qb ?_;intros;refine qd rfl (fun ht2=>?_) (fun ht2=>?_)
  ·have ht2:i<f.pts.length:=by have:=xL ht2;omega
   obtain⟨q,hq⟩:∃q,f.pts[i]?=some q:=⟨_,zge ht2⟩;have e1:=xi hq;refine qb ?_;intros;refine qd rfl (fun hb=>?_) (fun hb=>?_)
   ·rw [xG,xG,xG] at hb;simp only [Bool.or_eq_true,xV] at hb;have hb:¬zP q=true:=by rw [zu];omega
    refine qb ?_;intros;exact qf ⟨_,rfl,rfl,by rw [aN hq hb]⟩
   ·rw [xG,xG,xG] at hb;simp only [Bool.or_eq_false_iff,decide_eq_false_iff_not] at hb;have hb:zP q=true:=by rw [zu];omega
    refine qb ?_;intros;refine⟨m-1,oM,_,_,_,[],?wk1,i+1,oM,?hno,rfl,rfl,rfl⟩
    case hno=>
     intro j q' hj hq';by_cases hji:j=i
     ·subst hji;rw [hq] at hq';rw [<-zsi hq'];exact hb
     ·exact hok j q' oM hq'
    case wk1=>exact ql
  ·have ht2:i=f.pts.length:=by have:=xP ht2;omega
   subst ht2;have hv:=d4 oM oM hok;rw [hv];refine qb ?_;intros;refine qd rfl (fun h1=>?_) (fun h1=>?_)
   ·have h1:f.kind=1:=by simpa using h1
    refine qb ?_;intros;refine qf ⟨_,rfl,rfl,congrArg DV.bool ?_⟩;rw [Xy,yk,if_pos h1];congr 1;exact Vj _
   ·have h1:¬f.kind=1:=by simpa using h1
    refine qb ?_;intros;refine qd rfl (fun h2=>?_) (fun h2=>?_)
    ·have h2:f.kind=2:=by simpa using h2
     refine qb ?_;intros;refine qf ⟨_,rfl,rfl,congrArg DV.bool ?_⟩;rw [Xy,yk,if_neg h1,if_pos h2];congr 1;exact decide_eq_decide.2 oM
    ·have h2:¬f.kind=2:=by simpa using h2
     refine qb ?_;intros;refine qd rfl (fun h3=>?_) (fun h3=>?_)
     ·have h3:f.kind=3:=by simpa using h3
      refine qb ?_;intros;refine qf ⟨_,rfl,rfl,congrArg DV.bool ?_⟩;rw [Xy,Xy,yk,if_neg h1,if_neg h2,if_pos h3];congr 2;exact decide_eq_decide.2 oM
     ·have h3:¬f.kind=3:=by simpa using h3
      refine qb ?_;intros;refine qf ⟨_,rfl,rfl,congrArg DV.bool ?_⟩;rw [yk,if_neg h1,if_neg h2,if_neg h3]
theorem tY{f:Ft}(h:f.pts.length=0):yk f=false:=by
 rw [yk,h];split
 ·rfl
 ·split
  ·rfl
  ·split<;>rfl
theorem IO{f:Ft}(hn:f.pts.length<1000):DK 76 [e8 f] fun d=>d=.bool (zd f):=by
 refine qD qbq rfl xa fun Z0 lo=>?_;refine qb ?_;intros;refine qm (fun m E S nk=>∃i:Nat,i+m=f.pts.length/\(∀(j:Nat) q,j<i->f.pts[j]?=some q->zP q=true)/\E=[(1,.one (.ptr 0 0)),(3,.int f.pts.length),(4,.int i)]/\S=[(0,.cells [.f (.c (.int .i64 f.kind)),.f (.c (.int .i64 f.tex)),.f (.sl 2 f.pts.length (f.pts.flatMap qh))])]/\nk=1)
  ⟨f.pts.length,_,_,_,[],?wk,0,oM,fun j q hj=>oM,rfl,rfl,rfl⟩ ?_
 case wk=>exact ql
 rintro m E S nk ⟨i,hi,hok,rfl,rfl,rfl⟩;refine qb ?_;intros;refine qd rfl (fun ht2=>?_) (fun ht2=>?_)
 ·have ht2:i<f.pts.length:=by have:=xL ht2;omega
  obtain⟨q,hq⟩:∃q,f.pts[i]?=some q:=⟨_,zge ht2⟩;have e1:=xi hq;refine qb ?_;intros;refine qd rfl (fun hb=>?_) (fun hb=>?_)
  ·rw [xG,xG,xG] at hb;simp only [Bool.or_eq_true,xV] at hb;have hb:¬zP q=true:=by rw [zu];omega
   refine qb ?_;intros;exact qf ⟨_,rfl,rfl,by rw [aN hq hb]⟩
  ·rw [xG,xG,xG] at hb;simp only [Bool.or_eq_false_iff,decide_eq_false_iff_not] at hb;have hb:zP q=true:=by rw [zu];omega
   refine qb ?_;intros;refine⟨m-1,oM,_,_,_,[],?wk1,i+1,oM,?hno,rfl,rfl,rfl⟩
   case hno=>
    intro j q' hj hq';by_cases hji:j=i
    ·subst hji;rw [hq] at hq';rw [<-zsi hq'];exact hb
    ·exact hok j q' oM hq'
   case wk1=>exact ql
 ·have ht2:i=f.pts.length:=by have:=xP ht2;omega
  subst ht2;refine qb ?_;intros;refine qd rfl (fun hg=>?_) (fun hg=>?_)
  ·have hg:=xL hg;refine qb ?_;intros;refine qf ⟨_,rfl,rfl,congrArg DV.bool ?_⟩;rw [zd,decide_eq_false (show¬f.pts.length<=12 by omega),Bool.and_false];rfl
  ·have hg:=xP hg;have hv:zd f=yk f:=by
    by_cases h0:f.pts.length=0
    ·rw [tY h0,zd,h0];rfl
    ·exact d4 oM oM hok
   rw [hv];refine qb ?_;intros;refine qd rfl (fun h1=>?_) (fun h1=>?_)
   ·have h1:f.kind=1:=by simpa using h1
    refine qb ?_;intros;refine qf ⟨_,rfl,rfl,congrArg DV.bool ?_⟩;rw [Xy,yk,if_pos h1];congr 1;exact Vj _
   ·have h1:¬f.kind=1:=by simpa using h1
    refine qb ?_;intros;refine qd rfl (fun h2=>?_) (fun h2=>?_)
    ·have h2:f.kind=2:=by simpa using h2
     refine qb ?_;intros;refine qf ⟨_,rfl,rfl,congrArg DV.bool ?_⟩;rw [Xy,yk,if_neg h1,if_pos h2];congr 1;exact decide_eq_decide.2 oM
    ·have h2:¬f.kind=2:=by simpa using h2
     refine qb ?_;intros;refine qd rfl (fun h3=>?_) (fun h3=>?_)
     ·have h3:f.kind=3:=by simpa using h3
      refine qb ?_;intros;refine qf ⟨_,rfl,rfl,congrArg DV.bool ?_⟩;rw [Xy,Xy,yk,if_neg h1,if_neg h2,if_pos h3];congr 2;exact decide_eq_decide.2 oM
     ·have h3:¬f.kind=3:=by simpa using h3
      refine qb ?_;intros;refine qf ⟨_,rfl,rfl,congrArg DV.bool ?_⟩;rw [yk,if_neg h1,if_neg h2,if_neg h3]
def xJ(lo hi p:qc):Prop:=(lo.1<=p.1/\p.1<=hi.1)/\lo.2<=p.2/\p.2<=hi.2
theorem O3{a b p lo hi:qc}(h:WD a b p=true)(ha:xJ lo hi a)(hb:xJ lo hi b):xJ lo hi p:=by
 simp only [WD,xD,xV] at h;unfold xJ at *;omega
theorem E5(u v h t:Int):u*(h+t)-t*(u-v)=u*h+t*v:=by
 rw [Int.mul_add,Int.mul_sub,Int.mul_comm t u];omega
theorem nK(a b p:qc):(p.1-a.1)*(b.2-a.2)-(p.2-a.2)*(b.1-a.1)=(p.1-a.1)*(b.2-p.2)+(p.2-a.2)*(p.1-b.1):=by
 rw [<-E5,show b.2-p.2+(p.2-a.2)=b.2-a.2 by omega,show p.1-a.1-(p.1-b.1)=b.1-a.1 by omega]
theorem iZ{a b p:qc}(ha:p.1<a.1)(hb:p.1<b.1):Qg a b p=xor (decide (a.2<=p.2)) (decide (b.2<=p.2)):=by
 have e:=nK a b p;unfold Qg;by_cases h1:a.2<=p.2
 ·by_cases h2:b.2<=p.2
  ·simp [h1,h2]
  ·have m1:(p.1-a.1)*(b.2-p.2)<0:=Int.mul_neg_of_neg_of_pos oM oM;have m2:(p.2-a.2)*(p.1-b.1)<=0:=Int.mul_nonpos_of_nonneg_of_nonpos oM oM;rw [decide_eq_true h1,decide_eq_false h2,if_neg (by decide),if_pos (by omega),decide_eq_true (by omega)];rfl
 ·by_cases h2:b.2<=p.2
  ·have m1:0<=(p.1-a.1)*(b.2-p.2):=Int.mul_nonneg_of_nonpos_of_nonpos oM oM;have m2:0<(p.2-a.2)*(p.1-b.1):=Int.mul_pos_of_neg_of_neg oM oM;rw [decide_eq_false h1,decide_eq_true h2,if_neg (by decide),if_neg (by omega),decide_eq_true (by omega)];rfl
  ·simp [h1,h2]
theorem CT{a b p:qc}(ha:a.1<p.1)(hb:b.1<p.1):Qg a b p=false:=by
 have e:=nK a b p;unfold Qg;by_cases h1:a.2<=p.2
 ·by_cases h2:b.2<=p.2
  ·simp [h1,h2]
  ·have m1:0<(p.1-a.1)*(b.2-p.2):=Int.mul_pos oM oM;have m2:0<=(p.2-a.2)*(p.1-b.1):=Int.mul_nonneg oM oM;rw [decide_eq_true h1,decide_eq_false h2,if_neg (by decide),if_pos (by omega),decide_eq_false (by omega)]
 ·by_cases h2:b.2<=p.2
  ·have m1:(p.1-a.1)*(b.2-p.2)<=0:=Int.mul_nonpos_of_nonneg_of_nonpos oM oM;have m2:(p.2-a.2)*(p.1-b.1)<0:=Int.mul_neg_of_neg_of_pos oM oM;rw [decide_eq_false h1,decide_eq_true h2,if_neg (by decide),if_neg (by omega),decide_eq_false (by omega)]
  ·simp [h1,h2]
theorem i4{a b p:qc}(h:decide (a.2<=p.2)=decide (b.2<=p.2)):Qg a b p=false:=by rw [Qg,if_pos h]
theorem eO{L:List qc}{p:qc}:∀{n:Nat},(∀i,i<n->Jk L p i=false)->y4 L p n=false
 |0,_=>rfl
 |n+1,h=>by rw [y4,eO (n:=n) (fun i hi=>h i (by omega)),h n (by omega)];rfl
theorem eP{L:List qc}{p:qc}(h:∀i,i<L.length->p.1<(xH L i).1):∀{n:Nat},n<L.length->y4 L p n=xor (decide ((xH L 0).2<=p.2)) (decide ((xH L n).2<=p.2))
 |0,_=>by rw [y4];simp
 |n+1,hn=>by
  have e:yK L n=n+1:=by rw [yK,Nat.mod_eq_of_lt (by omega)]
  rw [y4,eP h (n:=n) (by omega),Jk,e,iZ (h n (by omega)) (h (n+1) (by omega))];cases decide ((xH L 0).2<=p.2)<;>cases decide ((xH L n).2<=p.2)<;>cases decide ((xH L (n+1)).2<=p.2)<;>rfl
theorem QA{L:List qc}{i:Nat}(hi:i<L.length):xH L i∈L:=by
 rw [xH,zge hi];exact List.getElem_mem hi
theorem wF{L:List qc}{i:Nat}(hi:i<L.length):yK L i<L.length:=Nat.mod_lt _ oM
theorem rF{L:List qc}{lo hi p:qc}(hL:∀q∈L,xJ lo hi q)(h:vN L p=true):xJ lo hi p:=by
 have hat:∀i,i<L.length->xJ lo hi (xH L i):=fun i hi=>hL _ (QA hi);rw [vN,Bool.or_eq_true] at h;rcases h with h|h
 ·obtain⟨i,hi,h⟩:=List.any_eq_true.1 h;have hi:=List.mem_range.1 hi;exact O3 h (hat i hi) (hat _ (wF hi))
 ·have h0:0<L.length:=by
   cases hl:L.length with
   |zero=>rw [hl] at h;cases h
   |succ=>omega
  have no:(∀i,i<L.length->Jk L p i=false)->False:=fun hno=>by
   rw [eO hno] at h;cases h
  have h1:lo.2<=p.2:=by
   false_or_by_contra
   refine no fun i hi=>i4 ?_;have g1:=hat i hi;have g2:=hat _ (wF hi);unfold xJ at g1 g2;rw [decide_eq_false (by omega),decide_eq_false (by omega)]
  have h2:p.2<=hi.2:=by
   false_or_by_contra
   refine no fun i hi=>i4 ?_;have g1:=hat i hi;have g2:=hat _ (wF hi);unfold xJ at g1 g2;rw [decide_eq_true (by omega),decide_eq_true (by omega)]
  have h3:p.1<=hi.1:=by
   false_or_by_contra
   refine no fun i hi=>CT ?_ ?_
   ·have g1:=hat i hi;unfold xJ at g1;omega
   ·have g1:=hat _ (wF hi);unfold xJ at g1;omega
  have h4:lo.1<=p.1:=by
   false_or_by_contra
   have hl:∀i,i<L.length->p.1<(xH L i).1:=fun i hi=>by
    have g1:=hat i hi;unfold xJ at g1;omega
   obtain⟨n,hn⟩:∃n,L.length=n+1:=⟨L.length-1,oM⟩;have e:yK L n=0:=by rw [yK,<-hn,Nat.mod_self]
   rw [hn,y4,eP hl (n:=n) (by omega),Jk,e,iZ (hl n (by omega)) (hl 0 h0)] at h;cases hx:decide ((xH L 0).2<=p.2)<;>cases hy:decide ((xH L n).2<=p.2)<;>rw [hx,hy] at h<;>cases h
  exact⟨⟨h4,h3⟩,h1,h2⟩
def n4(L:List qc):List qc:=(List.range (L.length-1)).flatMap fun i=>xR (xH L i) (xH L (yK L i))
def K6(L:List qc):List qc:=(List.range L.length).flatMap fun i=>xR (xH L i) (xH L (yK L i))
def bQ:List qc:=(List.range 60).flatMap fun (y:Nat)=>(List.range 60).map fun (x:Nat)=>((x:Int),(y:Int))
theorem Yl{p:qc}:p∈bQ↔zP p=true:=by
 obtain⟨x,y⟩:=p;rw [zu];simp only [bQ,List.mem_flatMap,List.mem_map,List.mem_range,zpi];constructor
 ·rintro ⟨b,hb,a,ha,rfl,rfl⟩;omega
 ·rintro ⟨⟨h1,h2⟩,h3,h4⟩;exact⟨y.toNat,oM,x.toNat,oM,oM,oM⟩
def yp(f:Ft):List qc:=bQ.filter fun p=>j4 f.tex p&&vN f.pts p
def xd(f:Ft):List qc:=if f.kind=1 then f.pts else if f.kind=2 then qr (n4 f.pts) else qr (K6 f.pts++yp f)
theorem Vr{L:List qc}{p:qc}:p∈K6 L↔∃(i:Nat) (a b:qc),L[i]?=some a/\L[yK L i]?=some b/\p∈xR a b:=by
 simp only [K6,List.mem_flatMap,List.mem_range];constructor
 ·rintro ⟨i,hi,hp⟩;exact⟨i,_,_,zge hi,zge (wF hi),by simpa [xH,zge hi,zge (wF hi)] using hp⟩
 ·rintro ⟨i,a,b,ha,hb,hp⟩;exact⟨i,(zgs ha).1,by rw [xT ha,xT hb];exact hp⟩
theorem cR{L:List qc}{p:qc}:p∈n4 L↔∃(i:Nat) (a b:qc),i<L.length-1/\L[i]?=some a/\L[i+1]?=some b/\p∈xR a b:=by
 simp only [n4,List.mem_flatMap,List.mem_range];constructor
 ·rintro ⟨i,hi,hp⟩;have e:yK L i=i+1:=by rw [yK,Nat.mod_eq_of_lt (by omega)]
  rw [e] at hp;exact⟨i,_,_,hi,zge (by omega),zge (by omega),by simpa [xH,zge (show i<L.length by omega),zge (show i+1<L.length by omega)] using hp⟩
 ·rintro ⟨i,a,b,hi,ha,hb,hp⟩;have e:yK L i=i+1:=by rw [yK,Nat.mod_eq_of_lt (by omega)]
  exact⟨i,hi,by rw [e,xT ha,xT hb];exact hp⟩
theorem d8{l m:List qc}(h:∀p,p∈l↔p∈m):qr l=qr m:=qJ.ext (xg l) (xg m) fun p=>by rw [qO,qO,h]
theorem uT{p:Par}{base:Nat}{Q:qq->Bx->Nat->Prop}{r:List SOper}{A:List Nat}{E E0:qq}{S S0:Bx}{nk n0:Nat}(ρ:List (Nat × Nat))(hw:Wk p ρ n0 E0 S0 E S)(h:DPW p base 0 Q r [] A E0 S0 n0):DPW p base 0 Q r [] A E S nk:=.mk fun Z β H F c hS hE hC hA=>by
 obtain⟨β0,h1,h2⟩:=fV hS hE hw;refine h.run Z β0 H F c h1 h2 (fun x hx=>?_) ⟨hA.1,fun j hj=>oM⟩;obtain⟨y,hy,_⟩:=hC x hx;cases hy
theorem jl{f:Ft}(h:zd f=true):(1<=f.pts.length/\f.pts.length<=12)/\(∀p∈f.pts,zP p=true)/\yk f=true:=by
 simp only [zd,xD,xV,List.all_eq_true] at h;exact⟨h.1.1,h.1.2,h.2⟩
theorem Zb{p:qc}(h:zP p=true):qE 1000 p:=by
 rw [zu] at h;unfold qE;omega
theorem Yh(a b:qc):a∈xR a b:=by
 have h:=Jw a b (k:=0) (by rw [Qx];omega);rw [oN] at h;exact zmg h
theorem qaN{k:Nat}{p:qc}(hk:k<4)(hp:qE 1000 p):DK (cW k) [zg p] fun d=>d=.bool (j4 k p):=by
 match k,hk with
 |0,_=>exact qaR
 |1,_=>exact qaQ hp
 |2,_=>exact qaP
 |3,_=>exact qaO
 |k+4,h=>omega
theorem G0{k:Nat}(hk:k<4):qA Tryz.prog (cW k)=true:=by
 match k,hk with
 |0,_=>exact (show qA Tryz.prog 100=true by kernel_rfl)
 |1,_=>exact (show qA Tryz.prog 101=true by kernel_rfl)
 |2,_=>exact (show qA Tryz.prog 102=true by kernel_rfl)
 |3,_=>exact (show qA Tryz.prog 103=true by kernel_rfl)
 |k+4,h=>omega
theorem u0{t:Int}{k:Nat}(ht:t=k)(hk:k<4):DK 65 [.int t] fun d=>d=mA (cW k):=by rw [ht];exact EM hk
def arS(f:Ft)(l:List qc)(lo hi:qc):Bx:=[(0,.cells [.f (.c (.int .i64 f.kind)),.f (.c (.int .i64 f.tex)),.f (.sl 2 f.pts.length (f.pts.flatMap qh))]),(1,j5 l),(2,.cells [.f (.c (.int .i64 lo.1)),.f (.c (.int .i64 lo.2))]),(3,.cells [.f (.c (.int .i64 hi.1)),.f (.c (.int .i64 hi.2))])]
structure Fill (f:Ft) (l0:List qc) (lo hi:qc) (x y:Int) (l:List qc):Prop where
 nd:l.Nodup
 le:(l.length:Int)<=l0.length+60*(y-lo.2)+(x-lo.1)
 mem:∀p,p∈l↔p∈l0\/(xJ lo hi p/\(p.2<y\/(p.2=y/\p.1<x))/\(j4 f.tex p&&vN f.pts p)=true)
theorem Fill.start{f:Ft}{l0:List qc}{lo hi:qc}(h:l0.Nodup):Fill f l0 lo hi lo.1 lo.2 l0:=⟨h,oM,fun p=>⟨.inl,fun h=>h.elim id fun h=>by
 obtain⟨h1,h2,_⟩:=h;unfold xJ at h1;omega⟩⟩
theorem Fill.skip{f:Ft}{l0 l:List qc}{lo hi:qc}{x y:Int}(h:Fill f l0 lo hi x y l)(hb:(j4 f.tex (x,y)&&vN f.pts (x,y))=false):Fill f l0 lo hi (x+1) y l:=⟨h.nd,by have:=h.le;omega,fun p=>by
 rw [h.mem];constructor
 ·rintro (h1|⟨h1,h2,h3⟩)
  ·exact .inl h1
  ·exact .inr ⟨h1,oM,h3⟩
 ·rintro (h1|⟨h1,h2,h3⟩)
  ·exact .inl h1
  ·refine .inr ⟨h1,?_,h3⟩;by_cases he:p=(x,y)
   ·rw [he,hb] at h3;cases h3
   ·have:¬(p.1=x/\p.2=y):=fun h=>he (Prod.ext h.1 h.2);omega⟩
theorem Fill.put{f:Ft}{l0 l:List qc}{lo hi:qc}{x y:Int}(h:Fill f l0 lo hi x y l)(hx:xJ lo hi (x,y))(hb:(j4 f.tex (x,y)&&vN f.pts (x,y))=true):Fill f l0 lo hi (x+1) y (wX l (x,y)):=⟨a7 h.nd,by have:=h.le;have:=(pS l (x,y)).2;omega,fun p=>by
 rw [iT,h.mem];constructor
 ·rintro ((h1|⟨h1,h2,h3⟩)|rfl)
  ·exact .inl h1
  ·exact .inr ⟨h1,oM,h3⟩
  ·exact .inr ⟨hx,.inr ⟨rfl,show x<x+1 by omega⟩,hb⟩
 ·rintro (h1|⟨h1,h2,h3⟩)
  ·exact .inl (.inl h1)
  ·by_cases he:p=(x,y)
   ·exact .inr he
   ·refine .inl (.inr ⟨h1,?_,h3⟩);have:¬(p.1=x/\p.2=y):=fun h=>he (Prod.ext h.1 h.2);omega⟩
theorem Fill.row{f:Ft}{l0 l:List qc}{lo hi:qc}{y:Int}(h:Fill f l0 lo hi (hi.1+1) y l)(hw:hi.1+1-lo.1<=60):Fill f l0 lo hi lo.1 (y+1) l:=⟨h.nd,by have:=h.le;omega,fun p=>by
 rw [h.mem];constructor
 ·rintro (h1|⟨h1,h2,h3⟩)
  ·exact .inl h1
  ·exact .inr ⟨h1,oM,h3⟩
 ·rintro (h1|⟨h1,h2,h3⟩)
  ·exact .inl h1
  ·refine .inr ⟨h1,?_,h3⟩;unfold xJ at h1;omega⟩
theorem EU{f:Ft}(hv:zd f=true)(h1:f.kind=1):DK 32 [e8 f] fun d=>d=qz (xd f):=by
 obtain⟨⟨hn1,hn2⟩,hin,hk⟩:=jl hv;have hsm:jM f.pts:=fun p hp=>Zb (hin p hp);obtain⟨a,ha⟩:∃q,f.pts[0]?=some q:=⟨_,zge oM⟩;have e0:=xi ha;refine qD AA rfl xa fun Z0 lo=>?_;refine qb ?_;intros;refine qk rfl rfl (KZ oM) ?_;rintro _ rfl;rw [hv];refine qb ?_;intros;refine qd rfl (fun ht=>by cases ht) (fun _=>?_);have b1:(f.kind==1)=true:=by simpa using h1
 refine qU ?_;intros;refine qd rfl (fun _=>?_) (fun ht=>by cases ht);refine qU ?_;intros;refine qu (E0:=[(2,.one (.own 1 0 1 2))]) (S0:=[(1,.data (qh a))]) (qe rfl (qy _)) (qe rfl (qy _)) ?_;refine xn 1 rfl qR qR ?_;refine qf ⟨_,rfl,rfl,?_⟩;rw [xd,if_pos h1];have hl:f.pts.length=1:=by
  rw [yk,if_pos h1] at hk;simp at hk;exact hk.1
 obtain⟨x,hx⟩:=List.length_eq_one_iff.1 hl;rw [hx] at ha ⊢;obtain rfl:=zsi ha;rfl
theorem ET{f:Ft}(hv:zd f=true)(h1:¬f.kind=1)(h2:f.kind=2):DK 32 [e8 f] fun d=>d=qz (xd f):=by
 obtain⟨⟨hn1,hn2⟩,hin,hk⟩:=jl hv;have hsm:jM f.pts:=fun p hp=>Zb (hin p hp);obtain⟨a,ha⟩:∃q,f.pts[0]?=some q:=⟨_,zge oM⟩;have e0:=xi ha;refine qD AA rfl xa fun Z0 lo=>?_;refine qb ?_;intros;refine qk rfl rfl (KZ oM) ?_;rintro _ rfl;rw [hv];refine qb ?_;intros;refine qd rfl (fun ht=>by cases ht) (fun _=>?_);have b1:(f.kind==1)=false:=by simpa using h1
 have b2:(f.kind==2)=true:=by simpa using h2
 refine qU ?_;intros;refine qd rfl (fun ht=>by cases ht) (fun _=>?_);refine qU ?_;intros;refine qd rfl (fun _=>?_) (fun ht=>by cases ht);refine qU ?_;intros;refine ki rfl rfl (nA hsm oM) ?_;rintro _ _ _ ⟨l,hA,rfl,rfl,rfl⟩;refine uT (E0:=[(28,.one (.om 0))]) (S0:=[(0,j5 l)]) (n0:=1) [(0,1)] ?hw ?_
 case hw=>exact ql
 have hl2:2<=f.pts.length:=by
  rw [yk,if_neg h1,if_pos h2] at hk;simp at hk;exact hk.1
 have hl0:0<l.length:=by
  obtain⟨b,hb⟩:∃q,f.pts[1]?=some q:=⟨_,zge oM⟩;exact List.length_pos_of_mem ((hA.mem _).2 ⟨0,a,b,oM,ha,hb,Yh a b⟩)
 have:=hA.le;refine vC rfl rfl rfl (gR hA.nd hl0 oM _ _ _ _ _) ?_;rintro _ S' _ ⟨rfl,hS,rfl⟩;refine yB (zK _) hS ?_;refine qU ?_;intros;refine qu (qe (k:=2) rfl (qy _)) (qe (k:=6) rfl (qy _)) ?_;have hfl:=xc (qr l);refine xn 6 rfl qR qR ?_;refine qf ⟨_,rfl,rfl,?_⟩;have he:qr l=xd f:=by
  rw [xd,if_neg h1,if_pos h2];exact d8 fun p=>by rw [hA.mem,cR]
 rw [he];rfl
theorem ES{f:Ft}(hv:zd f=true)(h1:¬f.kind=1)(h2:¬f.kind=2):DK 32 [e8 f] fun d=>d=qz (xd f):=by
 obtain⟨⟨hn1,hn2⟩,hin,hk⟩:=jl hv;have hsm:jM f.pts:=fun p hp=>Zb (hin p hp);obtain⟨a,ha⟩:∃q,f.pts[0]?=some q:=⟨_,zge oM⟩;have e0:=xi ha;refine qD AA rfl xa fun Z0 lo=>?_;refine qb ?_;intros;refine qk rfl rfl (KZ oM) ?_;rintro _ rfl;rw [hv];refine qb ?_;intros;refine qd rfl (fun ht=>by cases ht) (fun _=>?_);have b1:(f.kind==1)=false:=by simpa using h1
 have b2:(f.kind==2)=false:=by simpa using h2
 refine qU ?_;intros;refine qd rfl (fun ht=>by cases ht) (fun _=>?_);refine qU ?_;intros;refine qd rfl (fun ht=>by cases ht) (fun _=>?_);refine qU ?_;intros;refine ki rfl rfl (EK hsm oM oM) ?_;rintro _ _ _ ⟨l,hA,rfl,rfl,rfl⟩;refine qU ?_;intros;refine qm (fun m E S nk=>∃(i:Nat) (lo hi:qc),i+m=f.pts.length/\zP lo=true/\zP hi=true/\(∀(j:Nat) q,j<i->f.pts[j]?=some q->xJ lo hi q)/\E=[(1,.one (.ptr 0 0)),(3,.one (.om 1)),(4,.one (.ptr 2 0)),(5,.one (.ptr 3 0)),(42,qz f.pts),(43,.int f.pts.length),(44,.int i)]/\S=arS f l lo hi/\nk=4)
  ⟨f.pts.length,_,_,_,[],?wk,0,a,a,oM,hin a (zmg ha),hin a (zmg ha),fun j q hj=>oM,rfl,rfl,rfl⟩ ?_
 case wk=>exact ql
 rintro m E S nk ⟨i,lo,hi,him,hlo,hhi,hbx,rfl,rfl,rfl⟩;refine qb ?_;intros;refine qd rfl (fun ht2=>?_) (fun ht2=>?_)
 ·have ht2:i<f.pts.length:=by have:=xL ht2;omega
  obtain⟨q,hq⟩:∃q,f.pts[i]?=some q:=⟨_,zge ht2⟩;have e1:=xi hq;have hq60:=hin q (zmg hq);refine qb ?_;intros;refine⟨m-1,oM,_,_,_,[],?wk1,i+1,(min lo.1 q.1,min lo.2 q.2),(max hi.1 q.1,max hi.2 q.2),oM,?g1,?g2,?g3,rfl,rfl,rfl⟩
  case g1=>rw [zu] at *;simp only;omega
  case g2=>rw [zu] at *;simp only;omega
  case g3=>
   intro j q' hj hq';by_cases hji:j=i
   ·subst hji;rw [hq] at hq';obtain rfl:=zsi hq';unfold xJ;simp only;omega
   ·have:=hbx j q' oM hq';unfold xJ at *;simp only;omega
  case wk1=>exact ql
 ·have ht2:i=f.pts.length:=by have:=xP ht2;omega
  subst ht2;obtain⟨k,hk4,hft⟩:∃k:Nat,k<4/\f.tex=k:=by
   rw [yk,if_neg h1,if_neg h2] at hk;by_cases h3:f.kind=3
   ·rw [if_pos h3] at hk;simp at hk;exact⟨f.tex.toNat,oM,oM⟩
   ·rw [if_neg h3] at hk;cases hk
  have hab:=hbx 0 a oM ha;rw [zu] at hlo hhi;have hle0:=hA.le;have hfs:=Fill.start (f:=f) (l0:=l) (lo:=lo) (hi:=hi) hA.nd;refine qb ?_;intros;refine qk rfl rfl (u0 hft hk4) ?_;rintro _ rfl;refine qb ?_;intros;refine qm (fun m E S nk=>∃(y:Int) (l':List qc),lo.2<=y/\y<=hi.2+1/\m=(hi.2+1-y).toNat/\Fill f l lo hi lo.1 y l'/\E=[(1,.one (.ptr 0 0)),(3,.one (.om 1)),(4,.one (.ptr 2 0)),(5,.one (.ptr 3 0)),(8,mA (cW k)),(9,.int y)]/\S=arS f l' lo hi/\nk=4)
   ⟨_,_,_,_,[],?wk2,lo.2,l,oM,by unfold xJ at hab;omega,rfl,hfs,rfl,rfl,rfl⟩ ?_
  case wk2=>exact ql
  rintro m E S nk ⟨y,l1,hy1,hy2,rfl,hF1,rfl,rfl,rfl⟩;refine qb ?_;intros;refine qd rfl (fun hy3=>?_) (fun hy3=>?_)
  ·have hy3:=xL hy3;refine qb ?_;intros;refine qm (fun m E S nk=>∃(x:Int) (l':List qc),lo.1<=x/\x<=hi.1+1/\m=(hi.1+1-x).toNat/\Fill f l lo hi x y l'/\E=[(1,.one (.ptr 0 0)),(3,.one (.om 1)),(4,.one (.ptr 2 0)),(5,.one (.ptr 3 0)),(8,mA (cW k)),(9,.int y),(10,.int x)]/\S=arS f l' lo hi/\nk=4)
    ⟨_,_,_,_,[],?wk3,lo.1,l1,oM,by unfold xJ at hab;omega,rfl,hF1,rfl,rfl,rfl⟩ ?_
   case wk3=>exact ql
   rintro m E S nk ⟨x,l2,hx1,hx2,rfl,hF2,rfl,rfl,rfl⟩;refine qb ?_;intros;refine qd rfl (fun hx3=>?_) (fun hx3=>?_)
   ·have hx3:=xL hx3;have hxs:qE 1000 (x,y):=by unfold qE;simp only;omega
    have hib:xJ lo hi (x,y):=by unfold xJ;simp only;omega
    refine qb ?_;intros;refine qaG rfl (G0 hk4) rfl rfl (qaN (p:=(x,y)) hk4 hxs) ?_;rintro _ rfl;cases hb:j4 f.tex (x,y) with
    |false=>
     rw [hft] at hb;rw [hb];refine qb ?_;intros;refine qd rfl (fun ht=>by cases ht) (fun _=>?_);refine qb ?_;intros;refine⟨(hi.1+1-(x+1)).toNat,by omega,_,_,_,[],?wk4,x+1,l2,by omega,by omega,rfl,hF2.skip (by rw [hft,hb];rfl),rfl,rfl,rfl⟩
     case wk4=>exact ql
    |true=>
     rw [hft] at hb;rw [hb];refine qb ?_;intros;refine qk rfl rfl (IQ (p:=(x,y)) hsm hxs oM) ?_;rintro _ rfl;refine qb ?_;intros;refine qd rfl (fun hi2=>?_) (fun hi2=>?_)
     ·have hi2:vN f.pts (x,y)=true:=by simpa using hi2
      refine qb ?_;intros;refine mY rfl rfl rfl rfl (pG _ (x,y)) rfl ?_;refine qb ?_;intros;refine⟨(hi.1+1-(x+1)).toNat,by omega,_,_,_,[],?wk5,x+1,wX l2 (x,y),by omega,by omega,rfl,hF2.put hib (by rw [hft,hb,hi2];rfl),rfl,rfl,rfl⟩
      case wk5=>exact ql
     ·have hi2:vN f.pts (x,y)=false:=by simpa using hi2
      refine qb ?_;intros;refine⟨(hi.1+1-(x+1)).toNat,by omega,_,_,_,[],?wk6,x+1,l2,by omega,by omega,rfl,hF2.skip (by rw [hft,hb,hi2];rfl),rfl,rfl,rfl⟩
      case wk6=>exact ql
   ·have hx3:=xP hx3;obtain rfl:x=hi.1+1:=by omega
    refine qb ?_;intros;refine⟨(hi.2+1-(y+1)).toNat,oM,_,_,_,[],?wk7,y+1,l2,oM,oM,rfl,hF2.row oM,rfl,rfl,rfl⟩
    case wk7=>exact ql
  ·have hy3:=xP hy3;obtain rfl:y=hi.2+1:=by omega
   have hl1:=hF1.le;have hl0:0<l1.length:=by
    obtain⟨b,hb⟩:∃q,f.pts[yK f.pts 0]?=some q:=⟨_,zge (wF oM)⟩;exact List.length_pos_of_mem ((hF1.mem _).2 (.inl ((hA.mem _).2 ⟨0,a,b,ha,hb,Yh a b⟩)))
   refine qb ?_;intros;refine uT (E0:=[(104,.one (.om 0))]) (S0:=[(0,j5 l1)]) (n0:=1) [(0,1)] ?hw ?_
   case hw=>exact ql
   refine vC rfl rfl rfl (gR hF1.nd hl0 oM _ _ _ _ _) ?_;rintro _ S' _ ⟨rfl,hS,rfl⟩;refine yB (zK _) hS ?_;refine qb ?_;intros;refine qu (qe (k:=2) rfl (qy _)) (qe (k:=6) rfl (qy _)) ?_;have hfl:=xc (qr l1);refine xn 6 rfl qR qR ?_;refine qf ⟨_,rfl,rfl,?_⟩;have he:qr l1=xd f:=by
    rw [xd,if_neg h1,if_neg h2];refine d8 fun p=>?_;rw [hF1.mem,hA.mem,List.mem_append,Vr,yp,List.mem_filter,Yl];constructor
    ·rintro (h|⟨h,_,h3⟩)
     ·exact .inl h
     ·refine .inr ⟨?_,h3⟩;rw [zu];unfold xJ at h;omega
    ·rintro (h|⟨h,h3⟩)
     ·exact .inl h
     ·have hbp:xJ lo hi p:=rF (L:=f.pts) (fun q hq=>by
       obtain⟨j,hj⟩:=List.getElem?_of_mem hq;exact hbx j q (zgs hj).1 hj) (by
       rw [xD] at h3;exact h3.2)
      refine .inr ⟨hbp,?_,h3⟩;unfold xJ at hbp;omega
   rw [he];rfl
theorem JG{f:Ft}(hv:zd f=true):DK 32 [e8 f] fun d=>d=qz (xd f):=by
 by_cases h1:f.kind=1
 ·exact EU hv h1
 ·by_cases h2:f.kind=2
  ·exact ET hv h1 h2
  ·exact ES hv h1 h2
def Za:Nat->List C->Bool
 |0,[]=>true
 |n+1,.bool false::l=>Za n l
 |_,_=>false
theorem Jx:∀{n:Nat} {l:List C},Za n l=true->l=List.replicate n (.bool false)
 |0,[],_=>rfl
 |0,c::l,h=>by simp [Za] at h
 |n+1,[],h=>by simp [Za] at h
 |n+1,c::l,h=>by
  cases c with
  |bool b=>
   cases b with
   |false=>
    have:=Jx (n:=n) (l:=l) h;rw [this,List.replicate_succ]
   |true=>simp [Za] at h
  |_=>simp [Za] at h
def bC(b:Bool):DC:=.f (.c (.bool b))
def ka(A:List Bool):Bk:=.cells (A.map bC)
theorem Xb(ρ:List (Nat × Nat))(A:List Bool):XH ρ (ka A)=ka A:=by
 simp only [XH,ka,Kv,List.map_map];congr 1
theorem aA(n:Nat):∀A:List Bool,qV (vM n) (A.map bC)=true
 |[]=>rfl
 |b::A=>by rw [List.map_cons,qV,aA n A];rfl
theorem Q8(n:Nat)(A:List Bool):Wn n (ka A)=true:=aA n A
theorem aR{α:Type}:∀(l pre X:List α),l.length=X.length->setLs (pre++X) pre.length l=pre++l
 |[],pre,[],_=>rfl
 |[],_,_::_,h=>by simp at h
 |_::_,_,[],h=>by simp at h
 |c::l,pre,x::X,h=>by
  rw [setLs];have:(pre++x::X).set pre.length c=(pre++[c])++X:=by simp
  rw [this,show pre.length+1=(pre++[c]).length by simp,aR l (pre++[c]) X (by simpa using h)];simp
theorem B2{α:Type}{l X:List α}(h:l.length=X.length):setLs X 0 l=l:=by simpa using aR l [] X h
theorem qaJ {p:Par} {base rs:Nat} {Q:qq->Bx->Nat->Prop} {r:List SOper} {A:List Nat} {E:qq} {i1 i2 i3 n:Nat} {z z':List C} (hz:Za n z=true) (hz':Za n z'=true)
 (h:DPW p base rs Q r [] A ((3,.one (.ptr 0 0))::(9,.agg ((List.replicate n (C.bool false)).map QD))::E) [(0,ka (List.replicate n false))] 1):DPW p base rs Q (⟨i1,some 9,.p (.build z []),none,none,[],false⟩::⟨i2,some 3,.a (.alloc z'),none,none,[],false⟩::⟨i3,none,.e (.store n (.t 3) (.t 9)),none,none,[],false⟩::r) [] A E [] 0:=by
 obtain rfl:=Jx hz;obtain rfl:=Jx hz';refine zJ (d:=.agg ((List.replicate n (.bool false)).map QD)) rfl ?_;refine Xm (x:=.cells ((List.replicate n (.bool false)).map QD)) rfl ?_;refine vB (k:=0) (o:=0) rfl rfl rfl (by simp) rfl (by simp [Bk.len]) rfl ?_;have e:Q2 (.cells ((List.replicate n (C.bool false)).map QD)) 0 ((List.replicate n (C.bool false)).map QD)=ka (List.replicate n false):=by
  rw [Q2,B2 rfl,ka];simp [bC,QD]
 rw [<-e] at h;exact h
theorem Zp{E:qq}{x i:Opd}{k o len esz:Nat}{kd:IntKind}{j:Int}(hx:ro E x=some (.one (.ptr k o)))(hi:ro E i=some (.one (.f (.c (.int kd j)))))(h0:0<=j)(h1:j<len):jg E (.aaddr len esz x i)=some (.one (.ptr k (o+j.toNat*esz))):=by
 have e:xN j len=some j.toNat:=by
  obtain⟨n,rfl⟩:=Int.eq_ofNat_of_zero_le h0;have:n<len:=by omega
  show (match Nat.blt n len with|true=>some n|false=>none)=_
  rw [show Nat.blt n len=true by simpa using this];rfl
 simp only [jg,hx,hi,e]
theorem EL{p:Par}{E:qq}{S:Bx}{a:Opd}{k o:Nat}{A:List Bool}{b:Bool}(ha:ro E a=some (.one (.ptr k o)))(hk:lk S k=some (ka A))(hb:A[o]?=some b):wi p E S false 1 a=some (.bool b):=by
 have h1:o<A.length:=(zgs hb).1;have e:xK (A.map bC) o 1=some [bC b]:=by
  unfold xK;rw [show Nat.ble (o+1) (A.map bC).length=true by simp;omega];simp only [zoi];rw [<-List.map_drop,List.drop_eq_getElem_cons h1];simp [(zgs hb).2]
 simp only [wi,ha,YM,hk,ka,e];rfl
theorem OR(A:List Bool)(o:Nat)(b:Bool):Q2 (ka A) o [bC b]=ka (A.set o b):=by
 rw [ka,Q2,setLs,setLs,ka,List.map_set]
def zX(L:List qc)(n:Nat):List qc:=(List.range n).flatMap fun i=>xR (xH L i) (xH L (yK L i))
theorem Yy(L:List qc)(n:Nat):zX L (n+1)=zX L n++xR (xH L n) (xH L (yK L n)):=by
 simp [zX,List.range_succ]
theorem XM{L:List qc}(hl:jM L):∀n,n<=L.length->(zX L n).length<=2001*n
 |0,_=>by simp [zX]
 |n+1,h=>by
  have h1:=XM hl n oM;have h2:=wL (hl _ (QA (i:=n) oM)) (hl _ (QA (wF (i:=n) oM)));rw [Yy,List.length_append];omega
theorem SM{L:List qc}{n:Nat}(hl:jM L)(hn:L.length<100)(hnl:n<=L.length):DK 107 [qz L,.int n] fun d=>d=qz (zX L n):=by
 refine qD AC rfl xa fun Z0 lo=>?_;refine qb ?_;intros;refine qm (fun m E S nk=>∃i:Nat,i+m=n/\E=[(0,qz L),(1,.int n),(5,.one (.own 0 0 (zX L i).length 2)),(6,.int i)]/\S=[(0,.data ((zX L i).flatMap qh))]/\nk=1)
  ⟨n,_,_,_,[],?wk,0,oM,rfl,rfl,rfl⟩ ?_
 case wk=>exact ql
 rintro m E S nk ⟨i,hi,rfl,rfl,rfl⟩;refine qb ?_;intros;refine qd rfl (fun ht=>?_) (fun ht=>?_)
 ·have ht:i<n:=by have:=xL ht;omega
  have ha:L[i]?=some (xH L i):=by rw [xH,zge (by omega)];rfl
  have hb:L[yK L i]?=some (xH L (yK L i)):=by rw [xH,zge (wF (by omega))];rfl
  have hsa:=hl _ (zmg ha);have hsb:=hl _ (zmg hb);have h1:=XM hl i oM;have h2:=wL hsa hsb;have hfl:=xc (zX L i);have hf2:=xc (xR (xH L i) (xH L (yK L i)));refine qb ?_;intros;refine qk rfl rfl (nE oM oM ha hb) ?_;rintro _ rfl;refine qb ?_;intros;refine qk rfl rfl (r4 hsa hsb) ?_;rintro _ rfl;refine qY (m:=(xR (xH L i) (xH L (yK L i))).length) (q:=(xR (xH L i) (xH L (yK L i))).flatMap qh) rfl rfl rfl (qI _ hfl) ⟨rfl,rfl,rfl⟩ oM oM (by decide) rfl ?_;rw [<-List.flatMap_append,<-List.length_append,<-Yy];refine qb ?_;intros;refine⟨m-1,oM,_,_,_,[(0,3)],?wk1,i+1,oM,rfl,rfl,rfl⟩
  case wk1=>exact ql
 ·have ht:i=n:=by have:=xP ht;omega
  subst ht;have hfl:=xc (zX L i);refine qb ?_;intros;refine qu (qe (k:=4) rfl (qy _)) (qe (k:=0) rfl (qy _)) ?_;refine xn 0 rfl qR qR ?_;exact qf ⟨_,rfl,rfl,rfl⟩
def wm(y n:Nat):List qc:=(List.range n).map fun (x:Nat)=>((x:Int),(y:Int))
def ja(y:Nat):List qc:=(List.range y).flatMap fun (y:Nat)=>wm y 60
theorem Z8(y n:Nat):wm y (n+1)=wm y n++[((n:Int),(y:Int))]:=by simp [wm,List.range_succ]
theorem Zc(y:Nat):ja (y+1)=ja y++wm y 60:=by simp [ja,List.range_succ]
theorem VF(y n:Nat):(wm y n).length=n:=by simp [wm]
theorem XP:∀y:Nat,(ja y).length=60*y
 |0=>rfl
 |y+1=>by rw [Zc,List.length_append,XP y,VF];omega
theorem WQ:ja 60=bQ:=rfl
theorem eE(y:Nat):∀n,qJ (wm y n)
 |0=>List.Pairwise.nil
 |n+1=>by
  rw [Z8];refine List.pairwise_append.2 ⟨eE y n,by simp,fun a ha b hb=>?_⟩;rw [List.mem_singleton] at hb;subst hb;simp only [wm,List.mem_map,List.mem_range] at ha;obtain⟨x,hx,rfl⟩:=ha;rw [jH];exact .inr ⟨rfl,show (x:Int)<(n:Int) by omega⟩
theorem bP:∀n,qJ (ja n)
 |0=>List.Pairwise.nil
 |n+1=>by
  rw [Zc];refine List.pairwise_append.2 ⟨bP n,eE n 60,fun a ha b hb=>?_⟩;simp only [ja,wm,List.mem_flatMap,List.mem_map,List.mem_range] at ha hb;obtain⟨y,hy,x,hx,rfl⟩:=ha;obtain⟨x',hx',rfl⟩:=hb;rw [jH];simp only;omega
theorem hY{l:List qc}(h:∀p∈l,zP p=true):bQ.filter (fun p=>decide (p∈l))=qr l:=by
 refine qJ.ext ?_ (xg l) fun p=>?_
 ·rw [<-WQ];exact (bP 60).filter _
 ·rw [List.mem_filter,Yl,qO];simp only [xV];exact⟨fun h=>h.2,fun hp=>⟨h p hp,hp⟩⟩
structure Marks (l:List qc) (A:List Bool):Prop where
 len:A.length=3600
 at_:∀p,zP p=true->A[0+p.2.toNat*60+p.1.toNat*1]?=some (decide (p∈l))
theorem Marks.nil:Marks [] (List.replicate 3600 false):=⟨by rw [List.length_replicate],fun p hp=>by
 rw [zu] at hp;rw [List.getElem?_replicate,if_pos (by omega)];simp⟩
theorem Marks.snoc{l:List qc}{A:List Bool}{q:qc}(h:Marks l A)(hq:zP q=true):Marks (l++[q]) (A.set (0+q.2.toNat*60+q.1.toNat*1) true):=⟨by rw [List.length_set];exact h.len,fun p hp=>by
 have hl:=h.len;have h1:=h.at_ p hp;rw [zu] at hp hq;rw [List.getElem?_set];by_cases he:p=q
 ·subst he;rw [if_pos rfl,if_pos (by omega),decide_eq_true (by simp)]
 ·have hne:¬(p.1=q.1/\p.2=q.2):=fun h=>he (Prod.ext h.1 h.2);rw [if_neg (by omega),h1];simp [he]⟩
set_option maxRecDepth 100000 in
theorem Vo{l:List qc}(hin:∀p∈l,zP p=true)(hn:l.length<1000000):DK 106 [qz l] fun d=>d=qz (qr l):=by
 refine qD NW rfl xa fun Z0 lo=>?_;refine jp ?_;refine jq j3 (fun base=>?_);refine zJ rfl ?_;refine yA ?_;refine jp ?_;refine jq j3 (fun base=>?_);refine qaJ (by kernel_rfl) (by kernel_rfl) ?_;refine qb ?_;intros;refine qm (fun m E S nk=>∃(i:Nat) (A:List Bool),i+m=l.length/\Marks (l.take i) A/\E=[(0,qz l),(3,.one (.ptr 0 0)),(4,.int i)]/\S=[(0,ka A)]/\nk=1)
  ⟨l.length,_,_,_,[],?wk,0,_,oM,Marks.nil,rfl,rfl,rfl⟩ ?_
 case wk=>exact⟨ze,⟨by rw [Xb];rfl,Q8 _ _,rfl,trivial⟩,rfl,rfl⟩
 rintro m E S nk ⟨i,A,hi,hM,rfl,rfl,rfl⟩;refine qb ?_;intros;refine qd rfl (fun ht=>?_) (fun ht=>?_)
 ·have ht:i<l.length:=by have:=xL ht;omega
  obtain⟨q,hq⟩:∃q,l[i]?=some q:=⟨_,zge ht⟩;have e1:=xi hq;have hq6:=hin q (zmg hq);have hq60:=zu.1 hq6;have b1:decide (q.1>=0)=true:=decide_eq_true hq60.1.1;have b2:decide (q.2>=0)=true:=decide_eq_true hq60.2.1;have b3:decide (q.1<60)=true:=decide_eq_true hq60.1.2;have b4:decide (q.2<60)=true:=decide_eq_true hq60.2.2;refine qU ?_;intros;refine qd rfl (fun _=>?_) (fun ht=>by cases ht);refine qU ?_;intros;refine zJ (Zp rfl rfl hq60.2.1 hq60.2.2) ?_;refine qU ?_;intros;refine zJ (Zp rfl rfl hq60.1.1 hq60.1.2) ?_;have hlen:0+q.2.toNat*60+q.1.toNat*1+1<=(ka A).len:=by
   simp only [ka,Bk.len,List.length_map,hM.len];omega
  refine vB rfl rfl rfl rfl rfl hlen rfl ?_;refine yA ?_;have hM2:Marks (l.take (i+1)) (A.set (0+q.2.toNat*60+q.1.toNat*1) true):=by
   rw [List.take_add_one,hq];exact hM.snoc hq6
  refine qu (E0:=[(0,qz l),(3,.one (.ptr 0 0)),(4,.int i)]) (S0:=[(0,ka (A.set (0+q.2.toNat*60+q.1.toNat*1) true))]) (qe rfl (qe rfl (qe rfl (qy _)))) (qe (congrArg some (OR A _ true)) (qy _)) ?_;refine qb ?_;intros;refine⟨m-1,oM,_,_,_,[],?wk1,i+1,_,oM,hM2,rfl,rfl,rfl⟩
  case wk1=>exact⟨ze,⟨by rw [Xb];rfl,Q8 _ _,rfl,trivial⟩,rfl,rfl⟩
 ·have ht:i=l.length:=by have:=xP ht;omega
  subst ht;rw [List.take_length] at hM;refine qb ?_;intros;refine qm (fun m E S nk=>∃(y:Nat) (out:List qc),y+m=60/\out=(ja y).filter (fun p=>decide (p∈l))/\E=[(3,.one (.ptr 0 0)),(6,.one (.own 1 0 out.length 2)),(7,.int y)]/\S=[(0,ka A),(1,.data (out.flatMap qh))]/\nk=2)
   ⟨60,_,_,_,[],?wk2,0,[],rfl,rfl,rfl,rfl,rfl⟩ ?_
  case wk2=>exact⟨ze,⟨by rw [Xb];rfl,Q8 _ _,rfl,rfl,rfl,rfl,trivial⟩,rfl,rfl⟩
  rintro m E S nk ⟨y,out,hy,ho,rfl,rfl,rfl⟩;refine qb ?_;intros;refine qd rfl (fun hy2=>?_) (fun hy2=>?_)
  ·have hy2:y<60:=by have:=xL hy2;omega
   refine qb ?_;intros;refine qm (fun m E S nk=>∃(x:Nat) (out:List qc),x+m=60/\out=(ja y++wm y x).filter (fun p=>decide (p∈l))/\E=[(3,.one (.ptr 0 0)),(6,.one (.own 1 0 out.length 2)),(7,.int y),(8,.int x)]/\S=[(0,ka A),(1,.data (out.flatMap qh))]/\nk=2)
    ⟨60,_,_,_,[],?wk3,0,out,rfl,by rw [ho];simp [wm],rfl,rfl,rfl⟩ ?_
   case wk3=>exact⟨ze,⟨by rw [Xb];rfl,Q8 _ _,rfl,rfl,rfl,rfl,trivial⟩,rfl,rfl⟩
   rintro m2 E S nk ⟨x,out2,hx,ho2,rfl,rfl,rfl⟩;refine qb ?_;intros;refine qd rfl (fun hx2=>?_) (fun hx2=>?_)
   ·have hx2:x<60:=by have:=xL hx2;omega
    have hp:=hM.at_ ((x:Int),(y:Int)) (by rw [zu];simp only;omega);have hle:out2.length<=3600:=by
     have h1:out2.length<=(ja y++wm y x).length:=by rw [ho2];exact List.length_filter_le _ _
     have h2:(ja y++wm y x).length=60*y+x:=by rw [List.length_append,XP,VF]
     omega
    have hfl:=xc out2;refine qb ?_;intros;refine zJ (Zp rfl rfl (Int.natCast_nonneg _) oM) ?_;refine qb ?_;intros;refine zJ (Zp rfl rfl (Int.natCast_nonneg _) oM) ?_;refine jG (EL rfl rfl hp) ?_;refine qb ?_;intros;refine qd rfl (fun hb=>?_) (fun hb=>?_)
    ·have hb:decide (((x:Int),(y:Int))∈l)=true:=hb;refine qb ?_;intros;refine qY (m:=1) (q:=qh ((x:Int),(y:Int))) rfl rfl rfl (qI _ hfl) ⟨rfl,rfl,_,rfl,rfl⟩ oM oM (by decide) rfl ?_;have h3:(ja y++wm y (x+1)).filter (fun p=>decide (p∈l))=out2++[((x:Int),(y:Int))]:=by rw [Z8,<-List.append_assoc,List.filter_append,<-ho2];simp [xL hb]
     rw [show out2.flatMap qh++qh ((x:Int),(y:Int))=(out2++[((x:Int),(y:Int))]).flatMap qh by simp,show out2.length+1=(out2++[((x:Int),(y:Int))]).length by simp];refine qb ?_;intros;refine⟨m2-1,oM,_,_,_,[(1,3)],?wk6,x+1,out2++[((x:Int),(y:Int))],oM,h3.symm,rfl,rfl,rfl⟩
     case wk6=>exact⟨ze,⟨by rw [Xb];rfl,Q8 _ _,rfl,rfl,rfl,rfl,trivial⟩,rfl,rfl⟩
    ·have hb:decide (((x:Int),(y:Int))∈l)=false:=hb;refine qb ?_;intros;refine⟨m2-1,by omega,_,_,_,[],?wk4,x+1,out2,by omega,by rw [Z8,<-List.append_assoc,List.filter_append,<-ho2];simp [hb],rfl,rfl,rfl⟩
     case wk4=>exact⟨ze,⟨by rw [Xb];rfl,Q8 _ _,rfl,rfl,rfl,rfl,trivial⟩,rfl,rfl⟩
   ·have hx2:x=60:=by have:=xP hx2;omega
    subst hx2;refine qb ?_;intros;refine⟨m-1,by omega,_,_,_,[],?wk5,y+1,out2,by omega,by rw [Zc];exact ho2,rfl,rfl,rfl⟩
    case wk5=>exact⟨ze,⟨by rw [Xb];rfl,Q8 _ _,rfl,rfl,rfl,rfl,trivial⟩,rfl,rfl⟩
  ·have hy2:y=60:=by have:=xP hy2;omega
   subst hy2;refine qb ?_;intros;have he:out=qr l:=by rw [ho,WQ];exact hY hin
   have hfl:=xc out;refine qu (qe (k:=2) rfl (qy _)) (qe (k:=1) rfl (qy _)) ?_;refine xn 1 rfl qR qR ?_;refine qf ⟨_,rfl,rfl,?_⟩;rw [<-he];rfl
theorem II{L:List qc}{n:Nat}(hl:jM L)(hn:L.length<100)(hnl:n<=L.length):oE 107 [qz L,.int n] fun d S nk=>d=.one (.own 0 0 (zX L n).length 2)/\S=[(0,.data ((zX L n).flatMap qh))]/\nk=1:=by
 refine Xp AC rfl xa fun Z0 lo=>?_;refine qb ?_;intros;refine qm (fun m E S nk=>∃i:Nat,i+m=n/\E=[(0,qz L),(1,.int n),(5,.one (.own 0 0 (zX L i).length 2)),(6,.int i)]/\S=[(0,.data ((zX L i).flatMap qh))]/\nk=1)
  ⟨n,_,_,_,[],?wk,0,oM,rfl,rfl,rfl⟩ ?_
 case wk=>exact ql
 rintro m E S nk ⟨i,hi,rfl,rfl,rfl⟩;refine qb ?_;intros;refine qd rfl (fun ht=>?_) (fun ht=>?_)
 ·have ht:i<n:=by have:=xL ht;omega
  have ha:L[i]?=some (xH L i):=by rw [xH,zge (by omega)];rfl
  have hb:L[yK L i]?=some (xH L (yK L i)):=by rw [xH,zge (wF (by omega))];rfl
  have hsa:=hl _ (zmg ha);have hsb:=hl _ (zmg hb);have h1:=XM hl i oM;have h2:=wL hsa hsb;have hfl:=xc (zX L i);have hf2:=xc (xR (xH L i) (xH L (yK L i)));refine qb ?_;intros;refine qk rfl rfl (nE oM oM ha hb) ?_;rintro _ rfl;refine qb ?_;intros;refine qk rfl rfl (r4 hsa hsb) ?_;rintro _ rfl;refine qY (m:=(xR (xH L i) (xH L (yK L i))).length) (q:=(xR (xH L i) (xH L (yK L i))).flatMap qh) rfl rfl rfl (qI _ hfl) ⟨rfl,rfl,rfl⟩ oM oM (by decide) rfl ?_;rw [<-List.flatMap_append,<-List.length_append,<-Yy];refine qb ?_;intros;refine⟨m-1,oM,_,_,_,[(0,3)],?wk1,i+1,oM,rfl,rfl,rfl⟩
  case wk1=>exact ql
 ·have ht:i=n:=by have:=xP ht;omega
  subst ht;have hfl:=xc (zX L i);refine qb ?_;intros;exact qf ⟨_,rfl,rfl,_,zK _,rfl,rfl,rfl⟩
theorem tW{a b p:qc}(ha:zP a=true)(hb:zP b=true)(h:p∈xR a b):zP p=true:=by
 obtain⟨k,hk⟩:=List.getElem?_of_mem h;have h1:=(zgs hk).1;rw [WM] at h1;have hf:=Qx a b;have h2:(k:Int)<=xy a b:=by omega
 rw [Jw a b h2] at hk;obtain rfl:=zsi hk;have h3:=eV a b h2;rw [zu] at *;omega
theorem Vk{L:List qc}(hL:∀p∈L,zP p=true){n:Nat}(hn:n<=L.length){p:qc}(h:p∈zX L n):zP p=true:=by
 simp only [zX,List.mem_flatMap,List.mem_range] at h;obtain⟨i,hi,hp⟩:=h;exact tW (hL _ (QA oM)) (hL _ (QA (wF oM))) hp
theorem SH{t:Int}{k:Nat}{p:qc}(ht:t=k)(hk:k<4)(hp:qE 1000 p):DK 108 [.int t,zg p] fun d=>d=.bool (j4 t p):=by rw [ht];exact qaS hk hp
theorem fK{f:Ft}(hv:zd f=true):DK 78 [e8 f] fun d=>d=qz (xd f):=by
 obtain⟨⟨hn1,hn2⟩,hin,hk⟩:=jl hv;have hsm:jM f.pts:=fun p hp=>Zb (hin p hp);refine qD qbo rfl xa fun Z0 lo=>?_;by_cases h1:f.kind=1
 ·have b1:(f.kind==1)=true:=by simpa using h1
  refine qU ?_;intros;refine qd rfl (fun _=>?_) (fun ht=>by cases ht);refine qU ?_;intros;refine qf ⟨_,rfl,rfl,?_⟩;rw [xd,if_pos h1];rfl
 ·have b1:(f.kind==1)=false:=by simpa using h1
  by_cases h2:f.kind=2
  ·have b2:(f.kind==2)=true:=by simpa using h2
   have hw:IntKind.i64.wrap ((f.pts.length:Int)-1)=((f.pts.length-1:Nat):Int):=by rw [qo (by omega) (by omega)];omega
   have hll:=XM hsm (f.pts.length-1) oM;refine qU ?_;intros;refine qd rfl (fun ht=>by cases ht) (fun _=>?_);refine qU ?_;intros;refine qd rfl (fun _=>?_) (fun ht=>by cases ht);refine qU ?_;intros;rw [hw];refine qk rfl rfl (SM hsm oM oM) ?_;rintro _ rfl;refine qk rfl rfl (Vo (fun p hp=>Vk hin oM hp) oM) ?_;rintro _ rfl;refine qU ?_;intros;refine qf ⟨_,rfl,rfl,?_⟩;rw [xd,if_neg h1,if_pos h2];rfl
  ·have b2:(f.kind==2)=false:=by simpa using h2
   obtain⟨k,hk4,hft⟩:∃k:Nat,k<4/\f.tex=k:=by
    rw [yk,if_neg h1,if_neg h2] at hk;by_cases h3:f.kind=3
    ·rw [if_pos h3] at hk;simp at hk;exact⟨f.tex.toNat,oM,oM⟩
    ·rw [if_neg h3] at hk;cases hk
   have hll:=XM hsm f.pts.length oM;refine qU ?_;intros;refine qd rfl (fun ht=>by cases ht) (fun _=>?_);refine qU ?_;intros;refine qd rfl (fun ht=>by cases ht) (fun _=>?_);refine qU ?_;intros;refine ki rfl rfl (II hsm oM oM) ?_;rintro _ _ _ ⟨rfl,rfl,rfl⟩;refine zJ rfl ?_;refine qb ?_;intros;refine qm (fun m E S nk=>∃(y:Nat) (out:List qc),y+m=60/\out=zX f.pts f.pts.length++(ja y).filter (fun p=>j4 f.tex p&&vN f.pts p)/\E=[(1,.one (.ptr 0 0)),(3,.one (.own 1 0 out.length 2)),(4,.int y)]/\S=[(0,.cells [.f (.c (.int .i64 f.kind)),.f (.c (.int .i64 f.tex)),.f (.sl 2 f.pts.length (f.pts.flatMap qh))]),(1,.data (out.flatMap qh))]/\nk=2)
    ⟨60,_,_,_,[],?wk2,0,zX f.pts f.pts.length,rfl,by simp [ja],rfl,rfl,rfl⟩ ?_
   case wk2=>exact ql
   rintro m E S nk ⟨y,out,hy,ho,rfl,rfl,rfl⟩;refine qb ?_;intros;refine qd rfl (fun hy2=>?_) (fun hy2=>?_)
   ·have hy2:y<60:=by have:=xL hy2;omega
    refine qb ?_;intros;refine qm (fun m E S nk=>∃(x:Nat) (out:List qc),x+m=60/\out=zX f.pts f.pts.length++(ja y++wm y x).filter (fun p=>j4 f.tex p&&vN f.pts p)/\E=[(1,.one (.ptr 0 0)),(3,.one (.own 1 0 out.length 2)),(4,.int y),(5,.int x)]/\S=[(0,.cells [.f (.c (.int .i64 f.kind)),.f (.c (.int .i64 f.tex)),.f (.sl 2 f.pts.length (f.pts.flatMap qh))]),(1,.data (out.flatMap qh))]/\nk=2)
     ⟨60,_,_,_,[],?wk3,0,out,rfl,by rw [ho];simp [wm],rfl,rfl,rfl⟩ ?_
    case wk3=>exact ql
    rintro m2 E S nk ⟨x,out2,hx,ho2,rfl,rfl,rfl⟩;refine qb ?_;intros;refine qd rfl (fun hx2=>?_) (fun hx2=>?_)
    ·have hx2:x<60:=by have:=xL hx2;omega
     have hxs:qE 1000 ((x:Int),(y:Int)):=by unfold qE;simp only;omega
     have hle:out2.length<=100000:=by
      have h1:((ja y++wm y x).filter (fun p=>j4 f.tex p&&vN f.pts p)).length<=(ja y++wm y x).length:=List.length_filter_le _ _;have h2:(ja y++wm y x).length=60*y+x:=by rw [List.length_append,XP,VF]
      rw [ho2,List.length_append];omega
     have hfl:=xc out2;have hstep:zX f.pts f.pts.length++(ja y++wm y (x+1)).filter (fun p=>j4 f.tex p&&vN f.pts p)=out2++(if (j4 f.tex ((x:Int),(y:Int))&&vN f.pts ((x:Int),(y:Int)))=true then [((x:Int),(y:Int))] else []):=by
      rw [Z8,<-List.append_assoc,List.filter_append,<-List.append_assoc,<-ho2];congr 1;rw [List.filter_cons,List.filter_nil]
     refine qb ?_;intros;refine qk rfl rfl (SH hft hk4 hxs) ?_;rintro _ rfl;cases hb:j4 f.tex ((x:Int),(y:Int)) with
     |false=>
      rw [hb,Bool.false_and,if_neg (by decide),List.append_nil] at hstep;refine qb ?_;intros;refine qd rfl (fun ht=>by cases ht) (fun _=>?_);refine qb ?_;intros;refine⟨m2-1,oM,_,_,_,[],?wk4,x+1,out2,oM,hstep.symm,rfl,rfl,rfl⟩
      case wk4=>exact ql
     |true=>
      rw [hb,Bool.true_and] at hstep;refine qb ?_;intros;refine qk rfl rfl (EP (p:=((x:Int),(y:Int))) hsm hxs oM) ?_;rintro _ rfl;refine qb ?_;intros;refine qd rfl (fun hi2=>?_) (fun hi2=>?_)
      ·have hi2:vN f.pts ((x:Int),(y:Int))=true:=by simpa using hi2
       rw [hi2,if_pos rfl] at hstep;refine qb ?_;intros;refine qY (m:=1) (q:=qh ((x:Int),(y:Int))) rfl rfl rfl (qI _ hfl) ⟨rfl,rfl,_,rfl,rfl⟩ oM oM (by decide) rfl ?_;rw [show out2.flatMap qh++qh ((x:Int),(y:Int))=(out2++[((x:Int),(y:Int))]).flatMap qh by simp,show out2.length+1=(out2++[((x:Int),(y:Int))]).length by simp];refine qb ?_;intros;refine⟨m2-1,oM,_,_,_,[(1,4)],?wk6,x+1,out2++[((x:Int),(y:Int))],oM,hstep.symm,rfl,rfl,rfl⟩
       case wk6=>exact ql
      ·have hi2:vN f.pts ((x:Int),(y:Int))=false:=by simpa using hi2
       rw [hi2,if_neg (by decide),List.append_nil] at hstep;refine qb ?_;intros;refine⟨m2-1,oM,_,_,_,[],?wk7,x+1,out2,oM,hstep.symm,rfl,rfl,rfl⟩
       case wk7=>exact ql
    ·have hx2:x=60:=by have:=xP hx2;omega
     subst hx2;refine qb ?_;intros;refine⟨m-1,by omega,_,_,_,[],?wk5,y+1,out2,by omega,by rw [Zc];exact ho2,rfl,rfl,rfl⟩
     case wk5=>exact ql
   ·have hy2:y=60:=by have:=xP hy2;omega
    subst hy2;have hfl:=xc out;have hout:out=K6 f.pts++yp f:=ho;have hin2:∀p∈out,zP p=true:=fun p hp=>by
     rw [hout,List.mem_append] at hp;rcases hp with hp|hp
     ·exact Vk hin (Nat.le_refl _) hp
     ·exact Yl.1 (List.mem_filter.1 hp).1
    have hol:out.length<1000000:=by
     have h1:((ja 60).filter (fun p=>j4 f.tex p&&vN f.pts p)).length<=(ja 60).length:=List.length_filter_le _ _;rw [XP] at h1;rw [ho,List.length_append];omega
    refine qb ?_;intros;refine yB (E0:=[(54,.one (.own 1 0 out.length 2))]) (S0:=[(1,.data (out.flatMap qh))]) (qe rfl (qy _)) (qe rfl (qy _)) ?_;refine XQ 1 rfl qR qR ?_;refine qk (ds:=[qz out]) rfl rfl (Vo hin2 hol) ?_;rintro _ rfl;refine qb ?_;intros;refine qf ⟨_,rfl,rfl,?_⟩;rw [xd,if_neg h1,if_neg h2,<-hout];rfl
structure Pic where
 w:Int
 h:Int
 gap:Int
 fs:List Ft
def jR(p:Pic):List DC:=[.f (.c (.int .i64 p.w)),.f (.c (.int .i64 p.h)),.f (.c (.int .i64 p.gap)),.f (.sl 3 p.fs.length (p.fs.flatMap zt))]
def yW(p:Pic):DV:=.agg (jR p)
theorem ZK{l:List Ft}{i:Nat}{x:Ft}(h:l[i]?=some x):xK (l.flatMap zt) (i*3) 3=some (zt x):=XE (e:=3) (fun _=>rfl) h
theorem KN(l:List Ft):(l.flatMap zt).length=l.length*3:=YB (f:=zt) (e:=3) (fun _=>rfl) l
def yz(p:Pic):Bool:=(decide (4<=p.w)&&decide (p.w<=60)&&decide (p.w.tmod 2=0))&&(decide (3<=p.h)&&decide (p.h<=60)&&decide (p.h.tmod 3=0))
def jF(p:Pic):Bool:=(decide (2<=p.gap)&&decide (p.gap<=6))&&(decide (1<=p.fs.length)&&decide (p.fs.length<=8))
def XX(w h:Int)(q:qc):Bool:=decide (q.1<w)&&decide (q.2<h)
def QR(p:Pic)(f:Ft):Bool:=zd f&&f.pts.all (XX p.w p.h)
def qx(p:Pic):Bool:=(yz p&&jF p)&&p.fs.all (QR p)
def Xr(p:Pic):Prop:=p.fs.length<1000/\∀f∈p.fs,f.pts.length<1000
theorem AJ{a:Int}:(a !=0)=!decide (a=0):=by
 by_cases h:a=0
 ·simp [h]
 ·rw [decide_eq_false h];simpa using h
theorem uA{p:Pic}(h:(p.w<4\/60<p.w\/¬p.w.tmod 2=0\/p.h<3\/60<p.h\/¬p.h.tmod 3=0)):yz p=false:=by
 rw [Bool.eq_false_iff];intro h2;simp only [yz,xD,xV] at h2;omega
theorem ky{α:Type}{f:α->Bool}{l:List α}{i:Nat}{x:α}(hx:l[i]?=some x)(h:f x=false):l.all f=false:=by
 rw [List.all_eq_false];exact⟨x,zmg hx,by rw [h];decide⟩
theorem ZU{α:Type}{f:α->Bool}{l:List α}(h:∀(j:Nat) x,j<l.length->l[j]?=some x->f x=true):l.all f=true:=by
 rw [List.all_eq_true];intro x hx;obtain⟨j,hj⟩:=List.getElem?_of_mem hx;exact h j x (zgs hj).1 hj
theorem W9{p:Pic}(hF:Xr p):DK 57 [yW p] fun d=>d=.bool (qx p):=by
 refine qD qbF rfl xa fun Z0 lo=>?_;refine qb ?_;intros;refine qd rfl (fun ht=>?_) (fun ht=>?_)
 ·rw [xG,xG,xG,xG,xG] at ht;simp only [AJ,Bool.or_eq_true,xV,Bool.not_eq_true',decide_eq_false_iff_not] at ht;refine qb ?_;intros;refine qf ⟨_,rfl,rfl,?_⟩;rw [qx,uA (by omega)];rfl
 ·rw [xG,xG,xG,xG,xG] at ht;simp only [AJ,Bool.or_eq_false_iff,decide_eq_false_iff_not,Bool.not_eq_false',xV] at ht;have hh:yz p=true:=by simp only [yz,xD,xV];omega
  refine qb ?_;intros;refine qd rfl (fun ht2=>?_) (fun ht2=>?_)
  ·rw [xG,xG,xG] at ht2;simp only [Bool.or_eq_true,xV] at ht2;have hg:jF p=false:=by
    rw [Bool.eq_false_iff];intro h2;simp only [jF,xD,xV] at h2;omega
   refine qb ?_;intros;refine qf ⟨_,rfl,rfl,?_⟩;rw [qx,hg,Bool.and_false];rfl
  ·rw [xG,xG,xG] at ht2;simp only [Bool.or_eq_false_iff,decide_eq_false_iff_not] at ht2;have hg:jF p=true:=by simp only [jF,xD,xV];omega
   have hv:qx p=p.fs.all (QR p):=by rw [qx,hh,hg];rfl
   rw [hv];refine qb ?_;intros;refine qm (fun m E S nk=>∃i:Nat,i+m=p.fs.length/\(∀(j:Nat) f,j<i->p.fs[j]?=some f->QR p f=true)/\E=[(1,.one (.ptr 0 0)),(58,.one (.f (.sl 3 p.fs.length (p.fs.flatMap zt)))),(59,.int p.fs.length),(60,.int i)]/\S=[(0,.cells (jR p))]/\nk=1)
    ⟨p.fs.length,_,_,_,[],?wk,0,oM,fun j q hj=>oM,rfl,rfl,rfl⟩ ?_
   case wk=>exact ql
   rintro m E S nk ⟨i,hi,hok,rfl,rfl,rfl⟩;refine qb ?_;intros;refine qd rfl (fun hi2=>?_) (fun hi2=>?_)
   ·have hi2:i<p.fs.length:=by have:=xL hi2;omega
    obtain⟨f,hf⟩:∃f,p.fs[i]?=some f:=⟨_,zge hi2⟩;have e1:=ZK hf;have hfl:=hF.2 f (zmg hf);refine qb ?_;intros;refine qk rfl rfl (KZ hfl) ?_;rintro _ rfl;refine qb ?_;intros;refine qd rfl (fun hv1=>?_) (fun hv1=>?_)
    ·have hv1:zd f=false:=by simpa using hv1
     refine qb ?_;intros;refine qf ⟨_,rfl,rfl,?_⟩;rw [ky hf (by rw [QR,hv1];rfl)]
    ·have hv1:zd f=true:=by simpa using hv1
     refine qb ?_;intros;refine qm (fun m E S nk=>∃j:Nat,j+m=f.pts.length/\(∀(k:Nat) q,k<j->f.pts[k]?=some q->XX p.w p.h q=true)/\E=[(1,.one (.ptr 0 0)),(58,.one (.f (.sl 3 p.fs.length (p.fs.flatMap zt)))),(59,.int p.fs.length),(60,.int i),(68,qz f.pts),(69,.int f.pts.length),(70,.int j)]/\S=[(0,.cells (jR p))]/\nk=1)
      ⟨f.pts.length,_,_,_,[],?wk2,0,oM,fun j q hj=>oM,rfl,rfl,rfl⟩ ?_
     case wk2=>exact ql
     rintro m2 E S nk ⟨j,hj,hok2,rfl,rfl,rfl⟩;refine qb ?_;intros;refine qd rfl (fun hj2=>?_) (fun hj2=>?_)
     ·have hj2:j<f.pts.length:=by have:=xL hj2;omega
      obtain⟨q,hq⟩:∃q,f.pts[j]?=some q:=⟨_,zge hj2⟩;have e2:=xi hq;refine qb ?_;intros;refine qd rfl (fun hb=>?_) (fun hb=>?_)
      ·rw [xG] at hb;simp only [Bool.or_eq_true,xV] at hb;have hb:XX p.w p.h q=false:=by
        rw [Bool.eq_false_iff];intro h2;simp only [XX,xD,xV] at h2;omega
       refine qb ?_;intros;refine qf ⟨_,rfl,rfl,?_⟩;rw [ky hf (by rw [QR,ky hq hb,Bool.and_false])]
      ·rw [xG] at hb;simp only [Bool.or_eq_false_iff,decide_eq_false_iff_not] at hb;have hb:XX p.w p.h q=true:=by simp only [XX,xD,xV];omega
       refine qb ?_;intros;refine⟨m2-1,oM,_,_,_,[],?wk3,j+1,oM,?hno,rfl,rfl,rfl⟩
       case hno=>
        intro k q' hk hq';by_cases hkj:k=j
        ·subst hkj;rw [hq] at hq';rw [<-zsi hq'];exact hb
        ·exact hok2 k q' oM hq'
       case wk3=>exact ql
     ·have hj2:j=f.pts.length:=by have:=xP hj2;omega
      subst hj2;refine qb ?_;intros;refine⟨m-1,oM,_,_,_,[],?wk4,i+1,oM,?hno2,rfl,rfl,rfl⟩
      case hno2=>
       intro k f' hk hf';by_cases hki:k=i
       ·subst hki;rw [hf] at hf';rw [<-zsi hf',QR,hv1,ZU hok2];rfl
       ·exact hok k f' oM hf'
      case wk4=>exact ql
   ·have hi2:i=p.fs.length:=by have:=xP hi2;omega
    subst hi2;refine qb ?_;intros;refine qf ⟨_,rfl,rfl,?_⟩;rw [ZU hok]
def Yd(w h:Int)(q:qc):Bool:=(decide (0<=q.1)&&decide (q.1<w))&&(decide (0<=q.2)&&decide (q.2<h))
theorem Yc{w h:Int}{q:qc}(hb:q.1<0\/q.1>=w\/q.2<0\/q.2>=h):Yd w h q=false:=by
 rw [Bool.eq_false_iff];intro h2;simp only [Yd,xD,xV] at h2;omega
theorem oT{l:List qc}{w h:Int}(hn:l.length<1000000):DK 77 [qz l,.int w,.int h] fun d=>d=.bool (l.all (Yd w h)):=by
 refine qD qbp rfl xa fun Z0 lo=>?_;refine qb ?_;intros;refine qm (fun m E S nk=>∃i:Nat,i+m=l.length/\(∀(j:Nat) q,j<i->l[j]?=some q->Yd w h q=true)/\E=[(0,qz l),(1,.int w),(2,.int h),(7,.int i)]/\S=[]/\nk=0)
  ⟨l.length,_,_,_,[],?wk,0,oM,fun j q hj=>oM,rfl,rfl,rfl⟩ ?_
 case wk=>exact ql
 rintro m E S nk ⟨i,hi,hok,rfl,rfl,rfl⟩;refine qb ?_;intros;refine qd rfl (fun ht=>?_) (fun ht=>?_)
 ·have ht:i<l.length:=by have:=xL ht;omega
  obtain⟨q,hq⟩:∃q,l[i]?=some q:=⟨_,zge ht⟩;have e1:=xi hq;by_cases h1:q.1<0
  ·have b1:decide (q.1<0)=true:=decide_eq_true h1;refine qU ?_;intros;refine qd rfl (fun _=>?_) (fun ht=>by cases ht);refine qU ?_;intros;refine qf ⟨_,rfl,rfl,?_⟩;rw [ky hq (Yc (by omega))]
  ·have b1:decide (q.1<0)=false:=decide_eq_false h1;by_cases h2:q.1>=w
   ·have b2:decide (q.1>=w)=true:=decide_eq_true h2;refine qU ?_;intros;refine qd rfl (fun _=>?_) (fun ht=>by cases ht);refine qU ?_;intros;refine qf ⟨_,rfl,rfl,?_⟩;rw [ky hq (Yc (by omega))]
   ·have b2:decide (q.1>=w)=false:=decide_eq_false h2;by_cases h3:q.2<0
    ·have b3:decide (q.2<0)=true:=decide_eq_true h3;refine qU ?_;intros;refine qd rfl (fun _=>?_) (fun ht=>by cases ht);refine qU ?_;intros;refine qf ⟨_,rfl,rfl,?_⟩;rw [ky hq (Yc (by omega))]
    ·have b3:decide (q.2<0)=false:=decide_eq_false h3;by_cases h4:q.2>=h
     ·have b4:decide (q.2>=h)=true:=decide_eq_true h4;refine qU ?_;intros;refine qd rfl (fun _=>?_) (fun ht=>by cases ht);refine qU ?_;intros;refine qf ⟨_,rfl,rfl,?_⟩;rw [ky hq (Yc (by omega))]
     ·have b4:decide (q.2>=h)=false:=decide_eq_false h4;refine qU ?_;intros;refine qd rfl (fun ht=>by cases ht) (fun _=>?_);refine qU ?_;intros;refine⟨m-1,oM,_,_,_,[],?wk1,i+1,oM,?hno,rfl,rfl,rfl⟩
      case hno=>
       intro k q' hk hq';by_cases hki:k=i
       ·subst hki;rw [hq] at hq';rw [<-zsi hq'];simp only [Yd,xD,xV];omega
       ·exact hok k q' oM hq'
      case wk1=>exact ql
 ·have ht:i=l.length:=by have:=xP ht;omega
  subst ht;refine qb ?_;intros;refine qf ⟨_,rfl,rfl,?_⟩;rw [ZU hok]
theorem Xw{f:Ft}{lo hi:qc}(h:∀q∈f.pts,xJ lo hi q):∀p∈xd f,xJ lo hi p:=by
 have hline:∀{a b p:qc},xJ lo hi a->xJ lo hi b->p∈xR a b->xJ lo hi p:=by
  intro a b p ha hb hp;obtain⟨k,hk⟩:=List.getElem?_of_mem hp;have h1:=(zgs hk).1;rw [WM] at h1;have hf:=Qx a b;have h2:(k:Int)<=xy a b:=by omega
  rw [Jw a b h2] at hk;obtain rfl:=zsi hk;have h3:=eV a b h2;unfold xJ at *;omega
 have hlines:∀{n:Nat} {p:qc},n<=f.pts.length->p∈zX f.pts n->xJ lo hi p:=by
  intro n p hn hp;simp only [zX,List.mem_flatMap,List.mem_range] at hp;obtain⟨i,hi,hp⟩:=hp;exact hline (h _ (QA oM)) (h _ (QA (wF oM))) hp
 intro p hp;unfold xd at hp;split at hp
 ·exact h p hp
 ·split at hp
  ·rw [qO] at hp;exact hlines (n:=f.pts.length-1) oM hp
  ·rw [qO,List.mem_append] at hp;rcases hp with hp|hp
   ·exact hlines (Nat.le_refl _) hp
   ·have:=(List.mem_filter.1 hp).2;rw [xD] at this;exact rF h this.2
theorem tV(a b:qc):b∈xR a b:=by
 have hf:=Qx a b;have h:=Jw a b (k:=(xy a b).toNat) oM;rw [oO] at h;exact zmg h
theorem cM{f:Ft}(hv:zd f=true){q:qc}(hq:q∈f.pts):q∈xd f:=by
 obtain⟨⟨hn1,hn2⟩,hin,hk⟩:=jl hv;obtain⟨i,hi⟩:=List.getElem?_of_mem hq;have hlt:=(zgs hi).1;have hsome:∀j,j<f.pts.length->f.pts[j]?=some (xH f.pts j):=fun j hj=>by rw [xH,zge hj];rfl
 unfold xd;split
 ·exact hq
 ·split
  ·rename_i h1 h2;have hl2:2<=f.pts.length:=by
    rw [yk,if_neg h1,if_pos h2] at hk;simp at hk;exact hk.1
   rw [qO,cR];by_cases hl:i<f.pts.length-1
   ·exact⟨i,_,_,hl,hi,hsome _ oM,Yh _ _⟩
   ·obtain rfl:i=(f.pts.length-2)+1:=by omega
    exact⟨f.pts.length-2,_,_,oM,hsome _ oM,hi,tV _ _⟩
  ·rw [qO,List.mem_append];exact .inl (Vr.2 ⟨i,_,_,hi,hsome _ (wF hlt),Yh _ _⟩)
theorem DE{f:Ft}(hv:zd f=true)(w h:Int):(xd f).all (Yd w h)=f.pts.all (XX w h):=by
 obtain⟨_,hin,_⟩:=jl hv;rw [Bool.eq_iff_iff,List.all_eq_true,List.all_eq_true];constructor
 ·intro h1 q hq;have:=h1 q (cM hv hq);simp only [Yd,XX,xD,xV] at *;omega
 ·intro h1 q hq;have:=Xw (lo:=(0,0)) (hi:=(w-1,h-1)) (fun q hq=>by
   have g1:=h1 q hq;have g2:=hin q hq;rw [zu] at g2;simp only [XX,xD,xV] at g1;unfold xJ;simp only;omega) q hq
  unfold xJ at this;simp only [Yd,xD,xV] at *;omega
theorem Zx{f:Ft}(hv:zd f=true):∀p∈xd f,zP p=true:=by
 intro p hp;obtain⟨_,hin,_⟩:=jl hv;have:=Xw (lo:=(0,0)) (hi:=(59,59)) (fun q hq=>by
  have g2:=hin q hq;rw [zu] at g2;unfold xJ;simp only;omega) p hp
 unfold xJ at this;rw [zu];simp only at this;omega
theorem J3{f:Ft}(hv:zd f=true):(xd f).Nodup:=by
 obtain⟨⟨hn1,hn2⟩,hin,hk⟩:=jl hv;unfold xd;split
 ·rename_i h1;have hl:f.pts.length=1:=by
   rw [yk,if_pos h1] at hk;simp at hk;exact hk.1
  obtain⟨x,hx⟩:=List.length_eq_one_iff.1 hl;rw [hx];simp
 ·split
  ·exact (xg _).nodup
  ·exact (xg _).nodup
theorem Xv{f:Ft}(hv:zd f=true):(xd f).length<=3600:=by
 have:=wA (J3 hv) fun x hx=>Yl.2 (Zx hv x hx);rw [<-WQ,XP] at this;omega
theorem JF{p:Pic}(hF:Xr p):DK 45 [yW p] fun d=>d=.bool (qx p):=by
 refine qD qbQ rfl xa fun Z0 lo=>?_;refine qb ?_;intros;refine qd rfl (fun ht=>?_) (fun ht=>?_)
 ·rw [xG,xG,xG,xG,xG,xG,xG,xG,xG] at ht;simp only [AJ,Bool.or_eq_true,xV,Bool.not_eq_true',decide_eq_false_iff_not] at ht;refine qb ?_;intros;refine qf ⟨_,rfl,rfl,?_⟩;have hb:(yz p&&jF p)=false:=by
   rw [Bool.eq_false_iff];intro h2;simp only [yz,jF,xD,xV] at h2;omega
  rw [qx,hb];rfl
 ·rw [xG,xG,xG,xG,xG,xG,xG,xG,xG] at ht;simp only [AJ,Bool.or_eq_false_iff,decide_eq_false_iff_not,Bool.not_eq_false',xV] at ht;have hh:yz p=true:=by simp only [yz,xD,xV];omega
  have hg:jF p=true:=by simp only [jF,xD,xV];omega
  have hv:qx p=p.fs.all (QR p):=by rw [qx,hh,hg];rfl
  rw [hv];refine qb ?_;intros;refine qm (fun m E S nk=>∃i:Nat,i+m=p.fs.length/\(∀(j:Nat) f,j<i->p.fs[j]?=some f->QR p f=true)/\E=[(1,.one (.ptr 0 0)),(3,.int i)]/\S=[(0,.cells (jR p))]/\nk=1)
   ⟨p.fs.length,_,_,_,[],?wk,0,oM,fun j q hj=>oM,rfl,rfl,rfl⟩ ?_
  case wk=>exact ql
  rintro m E S nk ⟨i,hi,hok,rfl,rfl,rfl⟩;refine qb ?_;intros;refine qd rfl (fun hi2=>?_) (fun hi2=>?_)
  ·have hi2:i<p.fs.length:=by have:=xL hi2;omega
   obtain⟨f,hf⟩:∃f,p.fs[i]?=some f:=⟨_,zge hi2⟩;have e1:=ZK hf;have hfl:=hF.2 f (zmg hf);refine qb ?_;intros;refine qk rfl rfl (IO hfl) ?_;rintro _ rfl;cases hv1:zd f with
   |false=>
    refine qb ?_;intros;refine qd rfl (fun _=>?_) (fun ht=>by cases ht);refine qb ?_;intros;refine qf ⟨_,rfl,rfl,?_⟩;rw [ky hf (by rw [QR,hv1];rfl)]
   |true=>
    refine qb ?_;intros;refine qk rfl rfl (fK hv1) ?_;rintro _ rfl;refine qb ?_;intros;refine qk rfl rfl (oT (by have:=Xv hv1;omega)) ?_;rintro _ rfl;rw [DE hv1];refine qb ?_;intros;refine qd rfl (fun hb=>?_) (fun hb=>?_)
    ·have hb:f.pts.all (XX p.w p.h)=false:=by simpa using hb
     refine qb ?_;intros;refine qf ⟨_,rfl,rfl,?_⟩;rw [ky hf (by rw [QR,hb,Bool.and_false])]
    ·have hb:f.pts.all (XX p.w p.h)=true:=by simpa using hb
     refine qb ?_;intros;refine⟨m-1,oM,_,_,_,[],?wk4,i+1,oM,?hno2,rfl,rfl,rfl⟩
     case hno2=>
      intro k f' hk hf';by_cases hki:k=i
      ·subst hki;rw [hf] at hf';rw [<-zsi hf',QR,hv1,hb];rfl
      ·exact hok k f' oM hf'
     case wk4=>exact ql
  ·have hi2:i=p.fs.length:=by have:=xP hi2;omega
   subst hi2;refine qb ?_;intros;refine qf ⟨_,rfl,rfl,?_⟩;rw [ZU hok]
end Go.Ag
