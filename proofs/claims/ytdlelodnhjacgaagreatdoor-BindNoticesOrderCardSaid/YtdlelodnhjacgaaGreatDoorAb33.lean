/- -/
import Derived.Test.YtdlelodnhjacgaaGreatDoorAb17
set_option linter.unusedSimpArgs false
set_option linter.unusedVariables false
set_option maxRecDepth 8000
set_option maxHeartbeats 16000000
namespace Go.Ai
open Go.Ab Go.Proofs
theorem ID{n:Nat}(hn:n<=99999):jg 52 [.int n] fun d S nk=>d=.tup [.one (.own 0 0 (ze n).length 1),.int 0]/\S=[(0,.data ((ze n).flatMap qU))]/\nk=1:=by
 refine wv fun Z0 lo=>?_;refine ql ?_;intros;refine qN (fun m E S nk=>∃(k:Nat) (out:List Int),k+m=5/\out=(List.range k).foldl (yb n) [60]/\out.length<=k+1/\E=[(0,.int n),(4,.one (.own 0 0 out.length 1)),(5,.int (jX k))]/\S=[(0,.data (out.flatMap qU))]/\nk=1) 5 ⟨0,[60],by omega,rfl,by simp,rfl,rfl,rfl⟩ ?_;rintro m E S nk ⟨k,out,hk,hout,hlen,rfl,rfl,rfl⟩;have hsucc:(List.range (k+1)).foldl (yb n) [60]=yb n out k:=by rw [XY,eN,<-hout];rfl
 by_cases h5:k=5
 ·subst h5;have h0:jX 5=0:=rfl;refine ql ?_;intros;subst hout;exact qb ⟨_,O,O,_,qg (k:=0) O (qv _),O,O,O⟩
 ·obtain⟨p1,p2,p3,p4,p5⟩:=ST k oM;have hdg:=pL (n:=n/jX k % 10) (kp _ qr);have e3:((jX k/Int.toNat 10:Nat):Int)=((jX (k+1):Nat):Int):=by rw [p3];rfl
  refine ql ?_;intros;refine xG O (fun h=>?_) (fun h=>?_)
  ·have h:jX k<=n:=by have:=xo h;omega
   rw [yb,if_pos (.inl h)] at hsucc;refine ql ?_;intros;refine Zh O O hdg ?_;intros;exact qG ⟨k+1,_,by omega,hsucc.symm,by simp;omega,rfl,rfl,rfl⟩
  ·have h:¬jX k<=n:=by have:=zK h;omega
   by_cases h4:k=4
   ·have p5:=p5 h4;rw [yb,if_pos (.inr h4)] at hsucc;refine ql ?_;intros;refine Zh O O hdg ?_;intros;exact qG ⟨k+1,_,by omega,hsucc.symm,by simp;omega,rfl,rfl,rfl⟩
   ·have p4:=p4 h4;rw [yb,if_neg (by omega)] at hsucc;refine ql ?_;intros;exact qG ⟨k+1,_,oM,hsucc.symm,oM,O,O,O⟩
def wI:List Int:=[1,3,9,25,17,11,27,19,10,26,5,7,13,29,21,15,31,23,14,30,37,39,58,45,61,53]
theorem bS:DK 73 [] fun d=>d=.one (.f (.sl 1 26 (wI.flatMap qU))):=by
 refine xr ?_;intros;exact qP 0 O O ⟨_,O,O,O⟩
abbrev TS(n k:Nat):DV:=.agg [.f (FD.int n),.f (FD.int k)]
theorem BF{n k:Nat}(hn:1<=n/\n<=9999)(hk:k<=2):DK 72 [TS n k] fun d=>d=.bool true:=by
 refine xr ?_;intros;exact qb ⟨_,O,O,O⟩
def zJ(n:Nat)(back:Bool):Nat:=if back then 2*n else 2*n-1
def jt(n k:Nat)(back:Bool):List Int:=ze (zJ n back)++(if k=0 then [] else [48,wI.getD (k-1) default])
theorem U1{n k:Nat}{back:Bool}(hn:1<=n/\n<=9999)(hk:k<=2):DK 38 [TS n k,.bool back] fun d=>d=.tup [qq (jt n k back),.int 0]:=by
 have hnp:=kS (zJ n back);have hkk:((k:Int)-1).toNat=k-1:=oM;have hw:=ID (n:=zJ n back) (by unfold zJ;split<;>omega);have hs1:back=false->((2:Int)*n-1)=((zJ n back:Nat):Int):=fun h=>by rw [h];unfold zJ;simp;omega
 have hs2:back=true->((2:Int)*n)=((zJ n back:Nat):Int):=fun h=>by rw [h];unfold zJ;simp
 unfold jt;refine xr ?_;intros;refine qf O O (BF hn hk) ?_;rintro _ rfl;cases back
 all_goals
  refine qc ?_;intros
  first
   |rw [hs1 rfl]
   |rw [hs2 rfl]
  refine zw O O hw ?_;rintro _ _ _ ⟨rfl,rfl,rfl⟩;refine qc ?_;intros;refine qh O (fun g=>?_) (fun g=>?_)
  ·rw [if_neg (by omega)];refine qc ?_;intros;refine qS O O bS ?_;intros;refine VC (f:=qU) (l:=wI) O O (by omega) (by show _<26;omega) O (by decide) (fun _=>O) ?_;rw [hkk];refine qc ?_;intros;refine Wf O ?_;refine zn (f:=qU) [48,wI.getD (k-1) default] O O O ⟨O,O,_,O,O⟩ O O oM oM qr (fun _=>O) O ?_;refine qc ?_;intros;exact yV 4 5 O O O ⟨_,O,O,O⟩
  ·rw [if_pos (by omega),yI];refine qc ?_;intros;exact yV 4 5 O O O ⟨_,O,O,O⟩
def zM(ink part:Nat):List Int:=if ink=0 then [] else if part=0 then ze ink else [48,wI.getD (part-1) default]++ze ink
theorem Hm{ink part:Nat}(h1:1<=ink/\ink<=9999)(hp:part<=26):DK 39 [.int ink,.int part] fun d=>d=.tup [qq (zM ink part),.int 0]:=by
 have hnp:=kS ink;have hkk:((part:Int)-1).toNat=part-1:=oM;unfold zM;rw [if_neg (by omega)];refine xr ?_;intros;refine qf O O (VH (n:=ink) oM) ?_;rintro _ rfl;generalize ze ink=q at *;refine qc ?_;intros;refine qX O (fun g=>?_) (fun g=>?_)
 ·rw [if_pos (by omega)];exact jJ
 ·rw [if_neg (by omega)];refine qc ?_;intros;refine qS O O bS ?_;intros;refine VC (f:=qU) (l:=wI) O O (by omega) (by show _<26;omega) O (by decide) (fun _=>O) ?_;rw [hkk];refine qc ?_;intros;refine zn (f:=qU) (l:=[48,wI.getD (part-1) default]) q O O O ⟨O,O,O⟩ O O oM oM qr (fun _=>O) O ?_;refine qc ?_;intros;exact yV 4 5 O O O ⟨_,O,O,O⟩
def zy(w n k:Nat)(back:Bool)(ink part:Nat):List Int:=zM ink part++List.replicate (w-(jt n k back).length-(zM ink part).length) 0++jt n k back
abbrev lT(w n k:Nat)(back:Bool)(ink part:Nat):DV:=.agg [.f (FD.int w),.f (FD.int n),.f (FD.int k),.f (.c (.bool back)),.f (FD.int ink),.f (FD.int part)]
theorem V5(n k:Nat)(back:Bool):(jt n k back).length<=8:=by
 have:=kS (zJ n back);unfold jt;rw [qE];split<;>simp<;>omega
theorem WZ(ink part:Nat):(zM ink part).length<=8:=by
 have:=kS ink;unfold zM;split
 ·simp
 ·split
  ·omega
  ·rw [qE];simp;omega
theorem ZJ{w n k ink part:Nat}{back:Bool}(hw:24<=w/\w<=60)(hn:1<=n/\n<=9999)(hk:k<=2)(hi:ink<=9999)(hp:part<=26)(h0:ink=0->part=0):DK 23 [lT w n k back ink part] fun d=>d=.tup [qq (zy w n k back ink part),.int 0]:=by
 have hP:=V5 n k back;have hI:=WZ ink part;have hP2:=U1 (back:=back) hn hk;unfold zy;refine xr ?_;intros;refine qf O O hP2 ?_;rintro _ rfl;generalize jt n k back=p at *;by_cases hz:ink=0
 ·have hz2:=h0 hz;obtain⟨q,hq⟩:∃q,q=zM ink part:=⟨_,rfl⟩;have hq0:q=[]:=by rw [hq,hz];rfl
  rw [<-hq] at hI ⊢;have hql:q.length=0:=by rw [hq0];rfl
  refine qc ?_;intros;refine iM (f:=qU) q O O O ⟨O,O,_,O,(by rw [hq0];rfl)⟩ hql (by omega) (by omega) (by decide) O ?_;refine qc ?_;intros;refine qN (fun m E S nk=>∃(z:Nat) (o:List Int),z+m=w-p.length-q.length/\o=q++List.replicate z 0/\o.length=q.length+z/\E=[(1,.one (.ptr 0 0)),(4,qq p),(8,.one (.own 3 0 o.length 1))]/\S=[(0,.cells [.f (FD.int w),.f (FD.int n),.f (FD.int k),.f (.c (.bool back)),.f (FD.int ink),.f (FD.int part)]),(3,.data (o.flatMap qU))]/\nk=4) (w-p.length-q.length) ⟨0,q,by omega,by simp,by omega,rfl,rfl,rfl⟩ ?_;rintro m E S nk ⟨z,o,hm,ho,hol,rfl,rfl,rfl⟩;refine qc ?_;intros;refine qh O (fun g=>?_) (fun g=>?_)
  ·refine qc ?_;intros;exact qG ⟨z+1,o++[0],by omega,by rw [ho,j5,<-L1],by simp;omega,rfl,rfl,rfl⟩
  ·refine qc ?_;intros;refine yV 2 3 O O O ⟨_,O,O,?_⟩;rw [show w-p.length-q.length=z by omega,<-ho]
 ·have hI2:=Hm (ink:=ink) (part:=part) oM hp;generalize zM ink part=q at *;refine qc ?_;intros;refine qS O O hI2 ?_;intros;refine qN (fun m E S nk=>∃(z:Nat) (o:List Int),z+m=w-p.length-q.length/\o=q++List.replicate z 0/\o.length=q.length+z/\E=[(1,.one (.ptr 0 0)),(4,qq p),(8,.one (.own 3 0 o.length 1))]/\S=[(0,.cells [.f (FD.int w),.f (FD.int n),.f (FD.int k),.f (.c (.bool back)),.f (FD.int ink),.f (FD.int part)]),(3,.data (o.flatMap qU))]/\nk=4) (w-p.length-q.length) ⟨0,q,by omega,by simp,by omega,rfl,rfl,rfl⟩ ?_;rintro m E S nk ⟨z,o,hm,ho,hol,rfl,rfl,rfl⟩;refine qc ?_;intros;refine qh O (fun g=>?_) (fun g=>?_)
  ·refine qc ?_;intros;exact qG ⟨z+1,o++[0],by omega,by rw [ho,j5,<-L1],by simp;omega,rfl,rfl,rfl⟩
  ·refine qc ?_;intros;refine yV 2 3 O O O ⟨_,O,O,?_⟩;rw [show w-p.length-q.length=z by omega,<-ho]
end Go.Ai
