/- -/
import Derived.Test.YtbfbplnghpdmhaaGreatDoorAb18
set_option linter.unusedSimpArgs false
set_option maxHeartbeats 8000000
set_option linter.unusedVariables false
namespace Go.Ag
open Go.Ab Go.Proofs
def uZ(v:Int)(n:Nat):Bool:=IntKind.u8.wrap (((BitVec.ofInt 8 (v.fdiv (2^n))&&& BitVec.ofInt 8 1).toNat:Nat):Int)==1
def zC(v:Int)(j:Nat):Bool:=uZ (if j % 4<2 then 60 else v) (3*(j % 2)+j/4)
def qN(q:qc)(j:Nat):qc:=(2*q.1+(j % 4:Nat),3*q.2+(j/4:Nat))
def wV(v:Int)(q:qc)(k:Nat):List qc:=((List.range k).filter (zC v)).map (qN q)
theorem yM{v:Int}{q:qc}{k:Nat}(h:zC v k=true):wV v q (k+1)=wV v q k++[qN q k]:=by
 simp [wV,List.range_succ,h]
theorem yN{v:Int}{q:qc}{k:Nat}(h:zC v k=false):wV v q (k+1)=wV v q k:=by
 simp [wV,List.range_succ,h]
theorem Xo(v:Int)(q:qc)(k:Nat):(wV v q k).length<=k:=by
 unfold wV;rw [List.length_map];exact Nat.le_trans (List.length_filter_le _ _) (by simp)
def qS(i:Nat)(q:qc):List qc:=wV (Vb i) q 12
theorem XZ{i:Nat}{q:qc}(hi:i<8)(hq:qC 1000000 q):DK 34 [.int i,zd q] fun d=>d=qz (qS i q):=by
 refine qD qbD rfl qX fun Z0 lo=>?_;unfold qC at hq;have w1:IntKind.i64.wrap (2*q.1)=2*q.1:=qq oM oM;have w2:IntKind.i64.wrap (3*q.2)=3*q.2:=qq oM oM;refine qb ?_;intros;refine qk rfl rfl (RX hi) ?_;rintro _ rfl;unfold fW qS;generalize Vb i=v;refine qb ?_;intros;refine vB 6 2 rfl ?_;refine ql (fun m E S nk=>∃(r:Nat) (out:List qc),r+m=3/\out=wV v q (4*r)/\E=[(3,.one (.ptr 0 0)),(5,.one (.f (.sl 1 2 [.c (.int .u8 60),.c (.int .u8 v)]))),(6,.one (.own 1 0 out.length 2)),(11,.int r)]/\S=[(0,.cells [.f (.c (.int .i64 q.1)),.f (.c (.int .i64 q.2))]),(1,.data (out.flatMap qh))]/\nk=2) ⟨3,_,_,_,[],?wk,0,[],oM,rfl,rfl,rfl,rfl⟩ ?_
 case wk=>exact qm
 rintro m E S nk ⟨r,out,hr,ho,rfl,rfl,rfl⟩;refine qb ?_;intros;refine qe rfl (fun ht=>?_) (fun ht=>?_)
 ·have ht:r<3:=by have:=xC ht;omega
  match r,ht with
  |0,_=>
   refine qb ?_;intros;refine ql (fun m E S nk=>∃(c:Nat) (out:List qc),c+m=4/\out=wV v q (0+c)/\E=[(3,.one (.ptr 0 0)),(5,.one (.f (.sl 1 2 [.c (.int .u8 60),.c (.int .u8 v)]))),(6,.one (.own 1 0 out.length 2)),(7,.int (0:Nat)),(11,.int (0:Nat)),(16,.int 4),(17,.int c)]/\S=[(0,.cells [.f (.c (.int .i64 q.1)),.f (.c (.int .i64 q.2))]),(1,.data (out.flatMap qh))]/\nk=2) ⟨4,_,_,_,[],?wk0,0,out,oM,ho,rfl,rfl,rfl⟩ ?_
   case wk0=>exact qm
   rintro m2 E S nk ⟨c,out,hc,ho,rfl,rfl,rfl⟩;have hol:=Xo v q (0+c);rw [<-ho] at hol;have hfl:=xb out;refine qb ?_;intros;refine qe rfl (fun ht2=>?_) (fun ht2=>?_)
   ·have ht2:c<4:=by have:=xC ht2;omega
    match c,ht2 with
    |0,_=>
     have w3:IntKind.i64.wrap (2*q.1+((0:Nat):Int))=2*q.1+((0:Nat):Int):=qq oM oM;have w4:IntKind.i64.wrap (3*q.2+((0:Nat):Int))=3*q.2+((0:Nat):Int):=qq oM oM;refine qb ?_;intros;refine zV (j:=0) (q:=[.c (.int .u8 60)]) rfl rfl (by decide) (by decide) rfl ?_;refine qb ?_;intros;refine qe rfl (fun hb=>?_) (fun hb=>?_)
     ·have hb:zC v 0=true:=hb;refine qb ?_;intros;refine qV (m:=1) (q:=qh (qN q 0)) rfl rfl rfl (qH _ hfl) ⟨rfl,rfl,_,rfl,by rw [w1,w2,w3,w4];rfl⟩ (by omega) (by omega) (by decide) rfl ?_;rw [show out.flatMap qh++qh (qN q 0)=(out++[qN q 0]).flatMap qh by simp,show out.length+1=(out++[qN q 0]).length by simp];refine qb ?_;intros;refine⟨m2-1,by omega,_,_,_,[(1,3)],?wa,1,out++[qN q 0],by omega,by rw [ho];exact (yM hb).symm,rfl,rfl,rfl⟩
      case wa=>exact qm
     ·have hb:zC v 0=false:=hb;refine qb ?_;intros;refine⟨m2-1,by omega,_,_,_,[],?wb,1,out,by omega,by rw [ho];exact (yN hb).symm,rfl,rfl,rfl⟩
      case wb=>exact qm
    |1,_=>
     have w3:IntKind.i64.wrap (2*q.1+((1:Nat):Int))=2*q.1+((1:Nat):Int):=qq oM oM;have w4:IntKind.i64.wrap (3*q.2+((0:Nat):Int))=3*q.2+((0:Nat):Int):=qq oM oM;refine qb ?_;intros;refine zV (j:=0) (q:=[.c (.int .u8 60)]) rfl rfl (by decide) (by decide) rfl ?_;refine qb ?_;intros;refine qe rfl (fun hb=>?_) (fun hb=>?_)
     ·have hb:zC v 1=true:=hb;refine qb ?_;intros;refine qV (m:=1) (q:=qh (qN q 1)) rfl rfl rfl (qH _ hfl) ⟨rfl,rfl,_,rfl,by rw [w1,w2,w3,w4];rfl⟩ (by omega) (by omega) (by decide) rfl ?_;rw [show out.flatMap qh++qh (qN q 1)=(out++[qN q 1]).flatMap qh by simp,show out.length+1=(out++[qN q 1]).length by simp];refine qb ?_;intros;refine⟨m2-1,by omega,_,_,_,[(1,3)],?wa,2,out++[qN q 1],by omega,by rw [ho];exact (yM hb).symm,rfl,rfl,rfl⟩
      case wa=>exact qm
     ·have hb:zC v 1=false:=hb;refine qb ?_;intros;refine⟨m2-1,by omega,_,_,_,[],?wb,2,out,by omega,by rw [ho];exact (yN hb).symm,rfl,rfl,rfl⟩
      case wb=>exact qm
    |2,_=>
     have w3:IntKind.i64.wrap (2*q.1+((2:Nat):Int))=2*q.1+((2:Nat):Int):=qq oM oM;have w4:IntKind.i64.wrap (3*q.2+((0:Nat):Int))=3*q.2+((0:Nat):Int):=qq oM oM;refine qb ?_;intros;refine zV (j:=1) (q:=[.c (.int .u8 v)]) rfl rfl (by decide) (by decide) rfl ?_;refine qb ?_;intros;refine qe rfl (fun hb=>?_) (fun hb=>?_)
     ·have hb:zC v 2=true:=hb;refine qb ?_;intros;refine qV (m:=1) (q:=qh (qN q 2)) rfl rfl rfl (qH _ hfl) ⟨rfl,rfl,_,rfl,by rw [w1,w2,w3,w4];rfl⟩ (by omega) (by omega) (by decide) rfl ?_;rw [show out.flatMap qh++qh (qN q 2)=(out++[qN q 2]).flatMap qh by simp,show out.length+1=(out++[qN q 2]).length by simp];refine qb ?_;intros;refine⟨m2-1,by omega,_,_,_,[(1,3)],?wa,3,out++[qN q 2],by omega,by rw [ho];exact (yM hb).symm,rfl,rfl,rfl⟩
      case wa=>exact qm
     ·have hb:zC v 2=false:=hb;refine qb ?_;intros;refine⟨m2-1,by omega,_,_,_,[],?wb,3,out,by omega,by rw [ho];exact (yN hb).symm,rfl,rfl,rfl⟩
      case wb=>exact qm
    |3,_=>
     have w3:IntKind.i64.wrap (2*q.1+((3:Nat):Int))=2*q.1+((3:Nat):Int):=qq oM oM;have w4:IntKind.i64.wrap (3*q.2+((0:Nat):Int))=3*q.2+((0:Nat):Int):=qq oM oM;refine qb ?_;intros;refine zV (j:=1) (q:=[.c (.int .u8 v)]) rfl rfl (by decide) (by decide) rfl ?_;refine qb ?_;intros;refine qe rfl (fun hb=>?_) (fun hb=>?_)
     ·have hb:zC v 3=true:=hb;refine qb ?_;intros;refine qV (m:=1) (q:=qh (qN q 3)) rfl rfl rfl (qH _ hfl) ⟨rfl,rfl,_,rfl,by rw [w1,w2,w3,w4];rfl⟩ (by omega) (by omega) (by decide) rfl ?_;rw [show out.flatMap qh++qh (qN q 3)=(out++[qN q 3]).flatMap qh by simp,show out.length+1=(out++[qN q 3]).length by simp];refine qb ?_;intros;refine⟨m2-1,by omega,_,_,_,[(1,3)],?wa,4,out++[qN q 3],by omega,by rw [ho];exact (yM hb).symm,rfl,rfl,rfl⟩
      case wa=>exact qm
     ·have hb:zC v 3=false:=hb;refine qb ?_;intros;refine⟨m2-1,by omega,_,_,_,[],?wb,4,out,by omega,by rw [ho];exact (yN hb).symm,rfl,rfl,rfl⟩
      case wb=>exact qm
    |c+4,h=>omega
   ·have ht2:c=4:=by have:=xK ht2;omega
    subst ht2;refine qb ?_;intros;refine⟨m-1,oM,_,_,_,[],?wc,1,out,oM,ho,rfl,rfl,rfl⟩
    case wc=>exact qm
  |1,_=>
   refine qb ?_;intros;refine ql (fun m E S nk=>∃(c:Nat) (out:List qc),c+m=4/\out=wV v q (4+c)/\E=[(3,.one (.ptr 0 0)),(5,.one (.f (.sl 1 2 [.c (.int .u8 60),.c (.int .u8 v)]))),(6,.one (.own 1 0 out.length 2)),(7,.int (1:Nat)),(11,.int (1:Nat)),(16,.int 4),(17,.int c)]/\S=[(0,.cells [.f (.c (.int .i64 q.1)),.f (.c (.int .i64 q.2))]),(1,.data (out.flatMap qh))]/\nk=2) ⟨4,_,_,_,[],?wk1,0,out,oM,ho,rfl,rfl,rfl⟩ ?_
   case wk1=>exact qm
   rintro m2 E S nk ⟨c,out,hc,ho,rfl,rfl,rfl⟩;have hol:=Xo v q (4+c);rw [<-ho] at hol;have hfl:=xb out;refine qb ?_;intros;refine qe rfl (fun ht2=>?_) (fun ht2=>?_)
   ·have ht2:c<4:=by have:=xC ht2;omega
    match c,ht2 with
    |0,_=>
     have w3:IntKind.i64.wrap (2*q.1+((0:Nat):Int))=2*q.1+((0:Nat):Int):=qq oM oM;have w4:IntKind.i64.wrap (3*q.2+((1:Nat):Int))=3*q.2+((1:Nat):Int):=qq oM oM;refine qb ?_;intros;refine zV (j:=0) (q:=[.c (.int .u8 60)]) rfl rfl (by decide) (by decide) rfl ?_;refine qb ?_;intros;refine qe rfl (fun hb=>?_) (fun hb=>?_)
     ·have hb:zC v 4=true:=hb;refine qb ?_;intros;refine qV (m:=1) (q:=qh (qN q 4)) rfl rfl rfl (qH _ hfl) ⟨rfl,rfl,_,rfl,by rw [w1,w2,w3,w4];rfl⟩ (by omega) (by omega) (by decide) rfl ?_;rw [show out.flatMap qh++qh (qN q 4)=(out++[qN q 4]).flatMap qh by simp,show out.length+1=(out++[qN q 4]).length by simp];refine qb ?_;intros;refine⟨m2-1,by omega,_,_,_,[(1,3)],?wa,1,out++[qN q 4],by omega,by rw [ho];exact (yM hb).symm,rfl,rfl,rfl⟩
      case wa=>exact qm
     ·have hb:zC v 4=false:=hb;refine qb ?_;intros;refine⟨m2-1,by omega,_,_,_,[],?wb,1,out,by omega,by rw [ho];exact (yN hb).symm,rfl,rfl,rfl⟩
      case wb=>exact qm
    |1,_=>
     have w3:IntKind.i64.wrap (2*q.1+((1:Nat):Int))=2*q.1+((1:Nat):Int):=qq oM oM;have w4:IntKind.i64.wrap (3*q.2+((1:Nat):Int))=3*q.2+((1:Nat):Int):=qq oM oM;refine qb ?_;intros;refine zV (j:=0) (q:=[.c (.int .u8 60)]) rfl rfl (by decide) (by decide) rfl ?_;refine qb ?_;intros;refine qe rfl (fun hb=>?_) (fun hb=>?_)
     ·have hb:zC v 5=true:=hb;refine qb ?_;intros;refine qV (m:=1) (q:=qh (qN q 5)) rfl rfl rfl (qH _ hfl) ⟨rfl,rfl,_,rfl,by rw [w1,w2,w3,w4];rfl⟩ (by omega) (by omega) (by decide) rfl ?_;rw [show out.flatMap qh++qh (qN q 5)=(out++[qN q 5]).flatMap qh by simp,show out.length+1=(out++[qN q 5]).length by simp];refine qb ?_;intros;refine⟨m2-1,by omega,_,_,_,[(1,3)],?wa,2,out++[qN q 5],by omega,by rw [ho];exact (yM hb).symm,rfl,rfl,rfl⟩
      case wa=>exact qm
     ·have hb:zC v 5=false:=hb;refine qb ?_;intros;refine⟨m2-1,by omega,_,_,_,[],?wb,2,out,by omega,by rw [ho];exact (yN hb).symm,rfl,rfl,rfl⟩
      case wb=>exact qm
    |2,_=>
     have w3:IntKind.i64.wrap (2*q.1+((2:Nat):Int))=2*q.1+((2:Nat):Int):=qq oM oM;have w4:IntKind.i64.wrap (3*q.2+((1:Nat):Int))=3*q.2+((1:Nat):Int):=qq oM oM;refine qb ?_;intros;refine zV (j:=1) (q:=[.c (.int .u8 v)]) rfl rfl (by decide) (by decide) rfl ?_;refine qb ?_;intros;refine qe rfl (fun hb=>?_) (fun hb=>?_)
     ·have hb:zC v 6=true:=hb;refine qb ?_;intros;refine qV (m:=1) (q:=qh (qN q 6)) rfl rfl rfl (qH _ hfl) ⟨rfl,rfl,_,rfl,by rw [w1,w2,w3,w4];rfl⟩ (by omega) (by omega) (by decide) rfl ?_;rw [show out.flatMap qh++qh (qN q 6)=(out++[qN q 6]).flatMap qh by simp,show out.length+1=(out++[qN q 6]).length by simp];refine qb ?_;intros;refine⟨m2-1,by omega,_,_,_,[(1,3)],?wa,3,out++[qN q 6],by omega,by rw [ho];exact (yM hb).symm,rfl,rfl,rfl⟩
      case wa=>exact qm
     ·have hb:zC v 6=false:=hb;refine qb ?_;intros;refine⟨m2-1,by omega,_,_,_,[],?wb,3,out,by omega,by rw [ho];exact (yN hb).symm,rfl,rfl,rfl⟩
      case wb=>exact qm
    |3,_=>
     have w3:IntKind.i64.wrap (2*q.1+((3:Nat):Int))=2*q.1+((3:Nat):Int):=qq oM oM;have w4:IntKind.i64.wrap (3*q.2+((1:Nat):Int))=3*q.2+((1:Nat):Int):=qq oM oM;refine qb ?_;intros;refine zV (j:=1) (q:=[.c (.int .u8 v)]) rfl rfl (by decide) (by decide) rfl ?_;refine qb ?_;intros;refine qe rfl (fun hb=>?_) (fun hb=>?_)
     ·have hb:zC v 7=true:=hb;refine qb ?_;intros;refine qV (m:=1) (q:=qh (qN q 7)) rfl rfl rfl (qH _ hfl) ⟨rfl,rfl,_,rfl,by rw [w1,w2,w3,w4];rfl⟩ (by omega) (by omega) (by decide) rfl ?_;rw [show out.flatMap qh++qh (qN q 7)=(out++[qN q 7]).flatMap qh by simp,show out.length+1=(out++[qN q 7]).length by simp];refine qb ?_;intros;refine⟨m2-1,by omega,_,_,_,[(1,3)],?wa,4,out++[qN q 7],by omega,by rw [ho];exact (yM hb).symm,rfl,rfl,rfl⟩
      case wa=>exact qm
     ·have hb:zC v 7=false:=hb;refine qb ?_;intros;refine⟨m2-1,by omega,_,_,_,[],?wb,4,out,by omega,by rw [ho];exact (yN hb).symm,rfl,rfl,rfl⟩
      case wb=>exact qm
    |c+4,h=>omega
   ·have ht2:c=4:=by have:=xK ht2;omega
    subst ht2;refine qb ?_;intros;refine⟨m-1,oM,_,_,_,[],?wc,2,out,oM,ho,rfl,rfl,rfl⟩
    case wc=>exact qm
  |2,_=>
   refine qb ?_;intros;refine ql (fun m E S nk=>∃(c:Nat) (out:List qc),c+m=4/\out=wV v q (8+c)/\E=[(3,.one (.ptr 0 0)),(5,.one (.f (.sl 1 2 [.c (.int .u8 60),.c (.int .u8 v)]))),(6,.one (.own 1 0 out.length 2)),(7,.int (2:Nat)),(11,.int (2:Nat)),(16,.int 4),(17,.int c)]/\S=[(0,.cells [.f (.c (.int .i64 q.1)),.f (.c (.int .i64 q.2))]),(1,.data (out.flatMap qh))]/\nk=2) ⟨4,_,_,_,[],?wk2,0,out,oM,ho,rfl,rfl,rfl⟩ ?_
   case wk2=>exact qm
   rintro m2 E S nk ⟨c,out,hc,ho,rfl,rfl,rfl⟩;have hol:=Xo v q (8+c);rw [<-ho] at hol;have hfl:=xb out;refine qb ?_;intros;refine qe rfl (fun ht2=>?_) (fun ht2=>?_)
   ·have ht2:c<4:=by have:=xC ht2;omega
    match c,ht2 with
    |0,_=>
     have w3:IntKind.i64.wrap (2*q.1+((0:Nat):Int))=2*q.1+((0:Nat):Int):=qq oM oM;have w4:IntKind.i64.wrap (3*q.2+((2:Nat):Int))=3*q.2+((2:Nat):Int):=qq oM oM;refine qb ?_;intros;refine zV (j:=0) (q:=[.c (.int .u8 60)]) rfl rfl (by decide) (by decide) rfl ?_;refine qb ?_;intros;refine qe rfl (fun hb=>?_) (fun hb=>?_)
     ·have hb:zC v 8=true:=hb;refine qb ?_;intros;refine qV (m:=1) (q:=qh (qN q 8)) rfl rfl rfl (qH _ hfl) ⟨rfl,rfl,_,rfl,by rw [w1,w2,w3,w4];rfl⟩ (by omega) (by omega) (by decide) rfl ?_;rw [show out.flatMap qh++qh (qN q 8)=(out++[qN q 8]).flatMap qh by simp,show out.length+1=(out++[qN q 8]).length by simp];refine qb ?_;intros;refine⟨m2-1,by omega,_,_,_,[(1,3)],?wa,1,out++[qN q 8],by omega,by rw [ho];exact (yM hb).symm,rfl,rfl,rfl⟩
      case wa=>exact qm
     ·have hb:zC v 8=false:=hb;refine qb ?_;intros;refine⟨m2-1,by omega,_,_,_,[],?wb,1,out,by omega,by rw [ho];exact (yN hb).symm,rfl,rfl,rfl⟩
      case wb=>exact qm
    |1,_=>
     have w3:IntKind.i64.wrap (2*q.1+((1:Nat):Int))=2*q.1+((1:Nat):Int):=qq oM oM;have w4:IntKind.i64.wrap (3*q.2+((2:Nat):Int))=3*q.2+((2:Nat):Int):=qq oM oM;refine qb ?_;intros;refine zV (j:=0) (q:=[.c (.int .u8 60)]) rfl rfl (by decide) (by decide) rfl ?_;refine qb ?_;intros;refine qe rfl (fun hb=>?_) (fun hb=>?_)
     ·have hb:zC v 9=true:=hb;refine qb ?_;intros;refine qV (m:=1) (q:=qh (qN q 9)) rfl rfl rfl (qH _ hfl) ⟨rfl,rfl,_,rfl,by rw [w1,w2,w3,w4];rfl⟩ (by omega) (by omega) (by decide) rfl ?_;rw [show out.flatMap qh++qh (qN q 9)=(out++[qN q 9]).flatMap qh by simp,show out.length+1=(out++[qN q 9]).length by simp];refine qb ?_;intros;refine⟨m2-1,by omega,_,_,_,[(1,3)],?wa,2,out++[qN q 9],by omega,by rw [ho];exact (yM hb).symm,rfl,rfl,rfl⟩
      case wa=>exact qm
     ·have hb:zC v 9=false:=hb;refine qb ?_;intros;refine⟨m2-1,by omega,_,_,_,[],?wb,2,out,by omega,by rw [ho];exact (yN hb).symm,rfl,rfl,rfl⟩
      case wb=>exact qm
    |2,_=>
     have w3:IntKind.i64.wrap (2*q.1+((2:Nat):Int))=2*q.1+((2:Nat):Int):=qq oM oM;have w4:IntKind.i64.wrap (3*q.2+((2:Nat):Int))=3*q.2+((2:Nat):Int):=qq oM oM;refine qb ?_;intros;refine zV (j:=1) (q:=[.c (.int .u8 v)]) rfl rfl (by decide) (by decide) rfl ?_;refine qb ?_;intros;refine qe rfl (fun hb=>?_) (fun hb=>?_)
     ·have hb:zC v 10=true:=hb;refine qb ?_;intros;refine qV (m:=1) (q:=qh (qN q 10)) rfl rfl rfl (qH _ hfl) ⟨rfl,rfl,_,rfl,by rw [w1,w2,w3,w4];rfl⟩ (by omega) (by omega) (by decide) rfl ?_;rw [show out.flatMap qh++qh (qN q 10)=(out++[qN q 10]).flatMap qh by simp,show out.length+1=(out++[qN q 10]).length by simp];refine qb ?_;intros;refine⟨m2-1,by omega,_,_,_,[(1,3)],?wa,3,out++[qN q 10],by omega,by rw [ho];exact (yM hb).symm,rfl,rfl,rfl⟩
      case wa=>exact qm
     ·have hb:zC v 10=false:=hb;refine qb ?_;intros;refine⟨m2-1,by omega,_,_,_,[],?wb,3,out,by omega,by rw [ho];exact (yN hb).symm,rfl,rfl,rfl⟩
      case wb=>exact qm
    |3,_=>
     have w3:IntKind.i64.wrap (2*q.1+((3:Nat):Int))=2*q.1+((3:Nat):Int):=qq oM oM;have w4:IntKind.i64.wrap (3*q.2+((2:Nat):Int))=3*q.2+((2:Nat):Int):=qq oM oM;refine qb ?_;intros;refine zV (j:=1) (q:=[.c (.int .u8 v)]) rfl rfl (by decide) (by decide) rfl ?_;refine qb ?_;intros;refine qe rfl (fun hb=>?_) (fun hb=>?_)
     ·have hb:zC v 11=true:=hb;refine qb ?_;intros;refine qV (m:=1) (q:=qh (qN q 11)) rfl rfl rfl (qH _ hfl) ⟨rfl,rfl,_,rfl,by rw [w1,w2,w3,w4];rfl⟩ (by omega) (by omega) (by decide) rfl ?_;rw [show out.flatMap qh++qh (qN q 11)=(out++[qN q 11]).flatMap qh by simp,show out.length+1=(out++[qN q 11]).length by simp];refine qb ?_;intros;refine⟨m2-1,by omega,_,_,_,[(1,3)],?wa,4,out++[qN q 11],by omega,by rw [ho];exact (yM hb).symm,rfl,rfl,rfl⟩
      case wa=>exact qm
     ·have hb:zC v 11=false:=hb;refine qb ?_;intros;refine⟨m2-1,by omega,_,_,_,[],?wb,4,out,by omega,by rw [ho];exact (yN hb).symm,rfl,rfl,rfl⟩
      case wb=>exact qm
    |c+4,h=>omega
   ·have ht2:c=4:=by have:=xK ht2;omega
    subst ht2;refine qb ?_;intros;refine⟨m-1,oM,_,_,_,[],?wc,3,out,oM,ho,rfl,rfl,rfl⟩
    case wc=>exact qm
  |r+3,h=>omega
 ·have ht:r=3:=by have:=xK ht;omega
  subst ht;have hfl:=xb out;refine qb ?_;intros;refine qr (qd (k:=4) rfl (qu _)) (qd (k:=1) rfl (qu _)) ?_;refine xt 1 rfl qO qO ?_;refine qf ⟨_,rfl,rfl,?_⟩;rw [show wV v q 12=out from ho.symm];rfl
theorem ki{i:Nat}{q:qc}(hi:i<8)(hq:qC 1000000 q):DK 53 [.int i,zd q] fun d=>d=qz (qS i q):=by
 refine qD qbn rfl qX fun Z0 lo=>?_;unfold qC at hq;have w1:IntKind.i64.wrap (2*q.1)=2*q.1:=qq oM oM;have w2:IntKind.i64.wrap (3*q.2)=3*q.2:=qq oM oM;refine qb ?_;intros;refine qk rfl rfl (HO hi) ?_;rintro _ rfl;unfold fW qS;generalize Vb i=v;refine qb ?_;intros;refine ql (fun m E S nk=>∃(r:Nat) (out:List qc),r+m=3/\out=wV v q (4*r)/\E=[(3,.one (.ptr 0 0)),(5,.one (.own 1 0 out.length 2)),(6,.one (.f (.sl 1 2 [.c (.int .u8 60),.c (.int .u8 v)]))),(7,.int r)]/\S=[(0,.cells [.f (.c (.int .i64 q.1)),.f (.c (.int .i64 q.2))]),(1,.data (out.flatMap qh))]/\nk=2) ⟨3,_,_,_,[],?wk,0,[],oM,rfl,rfl,rfl,rfl⟩ ?_
 case wk=>exact qm
 rintro m E S nk ⟨r,out,hr,ho,rfl,rfl,rfl⟩;refine qb ?_;intros;refine qe rfl (fun ht=>?_) (fun ht=>?_)
 ·have ht:r<3:=by have:=xC ht;omega
  match r,ht with
  |0,_=>
   refine qb ?_;intros;refine ql (fun m E S nk=>∃(c:Nat) (out:List qc),c+m=4/\out=wV v q (0+c)/\E=[(3,.one (.ptr 0 0)),(5,.one (.own 1 0 out.length 2)),(6,.one (.f (.sl 1 2 [.c (.int .u8 60),.c (.int .u8 v)]))),(7,.int (0:Nat)),(8,.int c)]/\S=[(0,.cells [.f (.c (.int .i64 q.1)),.f (.c (.int .i64 q.2))]),(1,.data (out.flatMap qh))]/\nk=2) ⟨4,_,_,_,[],?wk0,0,out,oM,ho,rfl,rfl,rfl⟩ ?_
   case wk0=>exact qm
   rintro m2 E S nk ⟨c,out,hc,ho,rfl,rfl,rfl⟩;have hol:=Xo v q (0+c);rw [<-ho] at hol;have hfl:=xb out;refine qb ?_;intros;refine qe rfl (fun ht2=>?_) (fun ht2=>?_)
   ·have ht2:c<4:=by have:=xC ht2;omega
    match c,ht2 with
    |0,_=>
     have w3:IntKind.i64.wrap (2*q.1+((0:Nat):Int))=2*q.1+((0:Nat):Int):=qq oM oM;have w4:IntKind.i64.wrap (3*q.2+((0:Nat):Int))=3*q.2+((0:Nat):Int):=qq oM oM;refine qb ?_;intros;refine zV (j:=0) (q:=[.c (.int .u8 60)]) rfl rfl (by decide) (by decide) rfl ?_;refine qb ?_;intros;refine qe rfl (fun hb=>?_) (fun hb=>?_)
     ·have hb:zC v 0=true:=hb;refine qb ?_;intros;refine qV (m:=1) (q:=qh (qN q 0)) rfl rfl rfl (qH _ hfl) ⟨rfl,rfl,_,rfl,by rw [w1,w2,w3,w4];rfl⟩ (by omega) (by omega) (by decide) rfl ?_;rw [show out.flatMap qh++qh (qN q 0)=(out++[qN q 0]).flatMap qh by simp,show out.length+1=(out++[qN q 0]).length by simp];refine qb ?_;intros;refine⟨m2-1,by omega,_,_,_,[(1,3)],?wa,1,out++[qN q 0],by omega,by rw [ho];exact (yM hb).symm,rfl,rfl,rfl⟩
      case wa=>exact qm
     ·have hb:zC v 0=false:=hb;refine qb ?_;intros;refine⟨m2-1,by omega,_,_,_,[],?wb,1,out,by omega,by rw [ho];exact (yN hb).symm,rfl,rfl,rfl⟩
      case wb=>exact qm
    |1,_=>
     have w3:IntKind.i64.wrap (2*q.1+((1:Nat):Int))=2*q.1+((1:Nat):Int):=qq oM oM;have w4:IntKind.i64.wrap (3*q.2+((0:Nat):Int))=3*q.2+((0:Nat):Int):=qq oM oM;refine qb ?_;intros;refine zV (j:=0) (q:=[.c (.int .u8 60)]) rfl rfl (by decide) (by decide) rfl ?_;refine qb ?_;intros;refine qe rfl (fun hb=>?_) (fun hb=>?_)
     ·have hb:zC v 1=true:=hb;refine qb ?_;intros;refine qV (m:=1) (q:=qh (qN q 1)) rfl rfl rfl (qH _ hfl) ⟨rfl,rfl,_,rfl,by rw [w1,w2,w3,w4];rfl⟩ (by omega) (by omega) (by decide) rfl ?_;rw [show out.flatMap qh++qh (qN q 1)=(out++[qN q 1]).flatMap qh by simp,show out.length+1=(out++[qN q 1]).length by simp];refine qb ?_;intros;refine⟨m2-1,by omega,_,_,_,[(1,3)],?wa,2,out++[qN q 1],by omega,by rw [ho];exact (yM hb).symm,rfl,rfl,rfl⟩
      case wa=>exact qm
     ·have hb:zC v 1=false:=hb;refine qb ?_;intros;refine⟨m2-1,by omega,_,_,_,[],?wb,2,out,by omega,by rw [ho];exact (yN hb).symm,rfl,rfl,rfl⟩
      case wb=>exact qm
    |2,_=>
     have w3:IntKind.i64.wrap (2*q.1+((2:Nat):Int))=2*q.1+((2:Nat):Int):=qq oM oM;have w4:IntKind.i64.wrap (3*q.2+((0:Nat):Int))=3*q.2+((0:Nat):Int):=qq oM oM;refine qb ?_;intros;refine zV (j:=1) (q:=[.c (.int .u8 v)]) rfl rfl (by decide) (by decide) rfl ?_;refine qb ?_;intros;refine qe rfl (fun hb=>?_) (fun hb=>?_)
     ·have hb:zC v 2=true:=hb;refine qb ?_;intros;refine qV (m:=1) (q:=qh (qN q 2)) rfl rfl rfl (qH _ hfl) ⟨rfl,rfl,_,rfl,by rw [w1,w2,w3,w4];rfl⟩ (by omega) (by omega) (by decide) rfl ?_;rw [show out.flatMap qh++qh (qN q 2)=(out++[qN q 2]).flatMap qh by simp,show out.length+1=(out++[qN q 2]).length by simp];refine qb ?_;intros;refine⟨m2-1,by omega,_,_,_,[(1,3)],?wa,3,out++[qN q 2],by omega,by rw [ho];exact (yM hb).symm,rfl,rfl,rfl⟩
      case wa=>exact qm
     ·have hb:zC v 2=false:=hb;refine qb ?_;intros;refine⟨m2-1,by omega,_,_,_,[],?wb,3,out,by omega,by rw [ho];exact (yN hb).symm,rfl,rfl,rfl⟩
      case wb=>exact qm
    |3,_=>
     have w3:IntKind.i64.wrap (2*q.1+((3:Nat):Int))=2*q.1+((3:Nat):Int):=qq oM oM;have w4:IntKind.i64.wrap (3*q.2+((0:Nat):Int))=3*q.2+((0:Nat):Int):=qq oM oM;refine qb ?_;intros;refine zV (j:=1) (q:=[.c (.int .u8 v)]) rfl rfl (by decide) (by decide) rfl ?_;refine qb ?_;intros;refine qe rfl (fun hb=>?_) (fun hb=>?_)
     ·have hb:zC v 3=true:=hb;refine qb ?_;intros;refine qV (m:=1) (q:=qh (qN q 3)) rfl rfl rfl (qH _ hfl) ⟨rfl,rfl,_,rfl,by rw [w1,w2,w3,w4];rfl⟩ (by omega) (by omega) (by decide) rfl ?_;rw [show out.flatMap qh++qh (qN q 3)=(out++[qN q 3]).flatMap qh by simp,show out.length+1=(out++[qN q 3]).length by simp];refine qb ?_;intros;refine⟨m2-1,by omega,_,_,_,[(1,3)],?wa,4,out++[qN q 3],by omega,by rw [ho];exact (yM hb).symm,rfl,rfl,rfl⟩
      case wa=>exact qm
     ·have hb:zC v 3=false:=hb;refine qb ?_;intros;refine⟨m2-1,by omega,_,_,_,[],?wb,4,out,by omega,by rw [ho];exact (yN hb).symm,rfl,rfl,rfl⟩
      case wb=>exact qm
    |c+4,h=>omega
   ·have ht2:c=4:=by have:=xK ht2;omega
    subst ht2;refine qb ?_;intros;refine⟨m-1,oM,_,_,_,[],?wc,1,out,oM,ho,rfl,rfl,rfl⟩
    case wc=>exact qm
  |1,_=>
   refine qb ?_;intros;refine ql (fun m E S nk=>∃(c:Nat) (out:List qc),c+m=4/\out=wV v q (4+c)/\E=[(3,.one (.ptr 0 0)),(5,.one (.own 1 0 out.length 2)),(6,.one (.f (.sl 1 2 [.c (.int .u8 60),.c (.int .u8 v)]))),(7,.int (1:Nat)),(8,.int c)]/\S=[(0,.cells [.f (.c (.int .i64 q.1)),.f (.c (.int .i64 q.2))]),(1,.data (out.flatMap qh))]/\nk=2) ⟨4,_,_,_,[],?wk1,0,out,oM,ho,rfl,rfl,rfl⟩ ?_
   case wk1=>exact qm
   rintro m2 E S nk ⟨c,out,hc,ho,rfl,rfl,rfl⟩;have hol:=Xo v q (4+c);rw [<-ho] at hol;have hfl:=xb out;refine qb ?_;intros;refine qe rfl (fun ht2=>?_) (fun ht2=>?_)
   ·have ht2:c<4:=by have:=xC ht2;omega
    match c,ht2 with
    |0,_=>
     have w3:IntKind.i64.wrap (2*q.1+((0:Nat):Int))=2*q.1+((0:Nat):Int):=qq oM oM;have w4:IntKind.i64.wrap (3*q.2+((1:Nat):Int))=3*q.2+((1:Nat):Int):=qq oM oM;refine qb ?_;intros;refine zV (j:=0) (q:=[.c (.int .u8 60)]) rfl rfl (by decide) (by decide) rfl ?_;refine qb ?_;intros;refine qe rfl (fun hb=>?_) (fun hb=>?_)
     ·have hb:zC v 4=true:=hb;refine qb ?_;intros;refine qV (m:=1) (q:=qh (qN q 4)) rfl rfl rfl (qH _ hfl) ⟨rfl,rfl,_,rfl,by rw [w1,w2,w3,w4];rfl⟩ (by omega) (by omega) (by decide) rfl ?_;rw [show out.flatMap qh++qh (qN q 4)=(out++[qN q 4]).flatMap qh by simp,show out.length+1=(out++[qN q 4]).length by simp];refine qb ?_;intros;refine⟨m2-1,by omega,_,_,_,[(1,3)],?wa,1,out++[qN q 4],by omega,by rw [ho];exact (yM hb).symm,rfl,rfl,rfl⟩
      case wa=>exact qm
     ·have hb:zC v 4=false:=hb;refine qb ?_;intros;refine⟨m2-1,by omega,_,_,_,[],?wb,1,out,by omega,by rw [ho];exact (yN hb).symm,rfl,rfl,rfl⟩
      case wb=>exact qm
    |1,_=>
     have w3:IntKind.i64.wrap (2*q.1+((1:Nat):Int))=2*q.1+((1:Nat):Int):=qq oM oM;have w4:IntKind.i64.wrap (3*q.2+((1:Nat):Int))=3*q.2+((1:Nat):Int):=qq oM oM;refine qb ?_;intros;refine zV (j:=0) (q:=[.c (.int .u8 60)]) rfl rfl (by decide) (by decide) rfl ?_;refine qb ?_;intros;refine qe rfl (fun hb=>?_) (fun hb=>?_)
     ·have hb:zC v 5=true:=hb;refine qb ?_;intros;refine qV (m:=1) (q:=qh (qN q 5)) rfl rfl rfl (qH _ hfl) ⟨rfl,rfl,_,rfl,by rw [w1,w2,w3,w4];rfl⟩ (by omega) (by omega) (by decide) rfl ?_;rw [show out.flatMap qh++qh (qN q 5)=(out++[qN q 5]).flatMap qh by simp,show out.length+1=(out++[qN q 5]).length by simp];refine qb ?_;intros;refine⟨m2-1,by omega,_,_,_,[(1,3)],?wa,2,out++[qN q 5],by omega,by rw [ho];exact (yM hb).symm,rfl,rfl,rfl⟩
      case wa=>exact qm
     ·have hb:zC v 5=false:=hb;refine qb ?_;intros;refine⟨m2-1,by omega,_,_,_,[],?wb,2,out,by omega,by rw [ho];exact (yN hb).symm,rfl,rfl,rfl⟩
      case wb=>exact qm
    |2,_=>
     have w3:IntKind.i64.wrap (2*q.1+((2:Nat):Int))=2*q.1+((2:Nat):Int):=qq oM oM;have w4:IntKind.i64.wrap (3*q.2+((1:Nat):Int))=3*q.2+((1:Nat):Int):=qq oM oM;refine qb ?_;intros;refine zV (j:=1) (q:=[.c (.int .u8 v)]) rfl rfl (by decide) (by decide) rfl ?_;refine qb ?_;intros;refine qe rfl (fun hb=>?_) (fun hb=>?_)
     ·have hb:zC v 6=true:=hb;refine qb ?_;intros;refine qV (m:=1) (q:=qh (qN q 6)) rfl rfl rfl (qH _ hfl) ⟨rfl,rfl,_,rfl,by rw [w1,w2,w3,w4];rfl⟩ (by omega) (by omega) (by decide) rfl ?_;rw [show out.flatMap qh++qh (qN q 6)=(out++[qN q 6]).flatMap qh by simp,show out.length+1=(out++[qN q 6]).length by simp];refine qb ?_;intros;refine⟨m2-1,by omega,_,_,_,[(1,3)],?wa,3,out++[qN q 6],by omega,by rw [ho];exact (yM hb).symm,rfl,rfl,rfl⟩
      case wa=>exact qm
     ·have hb:zC v 6=false:=hb;refine qb ?_;intros;refine⟨m2-1,by omega,_,_,_,[],?wb,3,out,by omega,by rw [ho];exact (yN hb).symm,rfl,rfl,rfl⟩
      case wb=>exact qm
    |3,_=>
     have w3:IntKind.i64.wrap (2*q.1+((3:Nat):Int))=2*q.1+((3:Nat):Int):=qq oM oM;have w4:IntKind.i64.wrap (3*q.2+((1:Nat):Int))=3*q.2+((1:Nat):Int):=qq oM oM;refine qb ?_;intros;refine zV (j:=1) (q:=[.c (.int .u8 v)]) rfl rfl (by decide) (by decide) rfl ?_;refine qb ?_;intros;refine qe rfl (fun hb=>?_) (fun hb=>?_)
     ·have hb:zC v 7=true:=hb;refine qb ?_;intros;refine qV (m:=1) (q:=qh (qN q 7)) rfl rfl rfl (qH _ hfl) ⟨rfl,rfl,_,rfl,by rw [w1,w2,w3,w4];rfl⟩ (by omega) (by omega) (by decide) rfl ?_;rw [show out.flatMap qh++qh (qN q 7)=(out++[qN q 7]).flatMap qh by simp,show out.length+1=(out++[qN q 7]).length by simp];refine qb ?_;intros;refine⟨m2-1,by omega,_,_,_,[(1,3)],?wa,4,out++[qN q 7],by omega,by rw [ho];exact (yM hb).symm,rfl,rfl,rfl⟩
      case wa=>exact qm
     ·have hb:zC v 7=false:=hb;refine qb ?_;intros;refine⟨m2-1,by omega,_,_,_,[],?wb,4,out,by omega,by rw [ho];exact (yN hb).symm,rfl,rfl,rfl⟩
      case wb=>exact qm
    |c+4,h=>omega
   ·have ht2:c=4:=by have:=xK ht2;omega
    subst ht2;refine qb ?_;intros;refine⟨m-1,oM,_,_,_,[],?wc,2,out,oM,ho,rfl,rfl,rfl⟩
    case wc=>exact qm
  |2,_=>
   refine qb ?_;intros;refine ql (fun m E S nk=>∃(c:Nat) (out:List qc),c+m=4/\out=wV v q (8+c)/\E=[(3,.one (.ptr 0 0)),(5,.one (.own 1 0 out.length 2)),(6,.one (.f (.sl 1 2 [.c (.int .u8 60),.c (.int .u8 v)]))),(7,.int (2:Nat)),(8,.int c)]/\S=[(0,.cells [.f (.c (.int .i64 q.1)),.f (.c (.int .i64 q.2))]),(1,.data (out.flatMap qh))]/\nk=2) ⟨4,_,_,_,[],?wk2,0,out,oM,ho,rfl,rfl,rfl⟩ ?_
   case wk2=>exact qm
   rintro m2 E S nk ⟨c,out,hc,ho,rfl,rfl,rfl⟩;have hol:=Xo v q (8+c);rw [<-ho] at hol;have hfl:=xb out;refine qb ?_;intros;refine qe rfl (fun ht2=>?_) (fun ht2=>?_)
   ·have ht2:c<4:=by have:=xC ht2;omega
    match c,ht2 with
    |0,_=>
     have w3:IntKind.i64.wrap (2*q.1+((0:Nat):Int))=2*q.1+((0:Nat):Int):=qq oM oM;have w4:IntKind.i64.wrap (3*q.2+((2:Nat):Int))=3*q.2+((2:Nat):Int):=qq oM oM;refine qb ?_;intros;refine zV (j:=0) (q:=[.c (.int .u8 60)]) rfl rfl (by decide) (by decide) rfl ?_;refine qb ?_;intros;refine qe rfl (fun hb=>?_) (fun hb=>?_)
     ·have hb:zC v 8=true:=hb;refine qb ?_;intros;refine qV (m:=1) (q:=qh (qN q 8)) rfl rfl rfl (qH _ hfl) ⟨rfl,rfl,_,rfl,by rw [w1,w2,w3,w4];rfl⟩ (by omega) (by omega) (by decide) rfl ?_;rw [show out.flatMap qh++qh (qN q 8)=(out++[qN q 8]).flatMap qh by simp,show out.length+1=(out++[qN q 8]).length by simp];refine qb ?_;intros;refine⟨m2-1,by omega,_,_,_,[(1,3)],?wa,1,out++[qN q 8],by omega,by rw [ho];exact (yM hb).symm,rfl,rfl,rfl⟩
      case wa=>exact qm
     ·have hb:zC v 8=false:=hb;refine qb ?_;intros;refine⟨m2-1,by omega,_,_,_,[],?wb,1,out,by omega,by rw [ho];exact (yN hb).symm,rfl,rfl,rfl⟩
      case wb=>exact qm
    |1,_=>
     have w3:IntKind.i64.wrap (2*q.1+((1:Nat):Int))=2*q.1+((1:Nat):Int):=qq oM oM;have w4:IntKind.i64.wrap (3*q.2+((2:Nat):Int))=3*q.2+((2:Nat):Int):=qq oM oM;refine qb ?_;intros;refine zV (j:=0) (q:=[.c (.int .u8 60)]) rfl rfl (by decide) (by decide) rfl ?_;refine qb ?_;intros;refine qe rfl (fun hb=>?_) (fun hb=>?_)
     ·have hb:zC v 9=true:=hb;refine qb ?_;intros;refine qV (m:=1) (q:=qh (qN q 9)) rfl rfl rfl (qH _ hfl) ⟨rfl,rfl,_,rfl,by rw [w1,w2,w3,w4];rfl⟩ (by omega) (by omega) (by decide) rfl ?_;rw [show out.flatMap qh++qh (qN q 9)=(out++[qN q 9]).flatMap qh by simp,show out.length+1=(out++[qN q 9]).length by simp];refine qb ?_;intros;refine⟨m2-1,by omega,_,_,_,[(1,3)],?wa,2,out++[qN q 9],by omega,by rw [ho];exact (yM hb).symm,rfl,rfl,rfl⟩
      case wa=>exact qm
     ·have hb:zC v 9=false:=hb;refine qb ?_;intros;refine⟨m2-1,by omega,_,_,_,[],?wb,2,out,by omega,by rw [ho];exact (yN hb).symm,rfl,rfl,rfl⟩
      case wb=>exact qm
    |2,_=>
     have w3:IntKind.i64.wrap (2*q.1+((2:Nat):Int))=2*q.1+((2:Nat):Int):=qq oM oM;have w4:IntKind.i64.wrap (3*q.2+((2:Nat):Int))=3*q.2+((2:Nat):Int):=qq oM oM;refine qb ?_;intros;refine zV (j:=1) (q:=[.c (.int .u8 v)]) rfl rfl (by decide) (by decide) rfl ?_;refine qb ?_;intros;refine qe rfl (fun hb=>?_) (fun hb=>?_)
     ·have hb:zC v 10=true:=hb;refine qb ?_;intros;refine qV (m:=1) (q:=qh (qN q 10)) rfl rfl rfl (qH _ hfl) ⟨rfl,rfl,_,rfl,by rw [w1,w2,w3,w4];rfl⟩ (by omega) (by omega) (by decide) rfl ?_;rw [show out.flatMap qh++qh (qN q 10)=(out++[qN q 10]).flatMap qh by simp,show out.length+1=(out++[qN q 10]).length by simp];refine qb ?_;intros;refine⟨m2-1,by omega,_,_,_,[(1,3)],?wa,3,out++[qN q 10],by omega,by rw [ho];exact (yM hb).symm,rfl,rfl,rfl⟩
      case wa=>exact qm
     ·have hb:zC v 10=false:=hb;refine qb ?_;intros;refine⟨m2-1,by omega,_,_,_,[],?wb,3,out,by omega,by rw [ho];exact (yN hb).symm,rfl,rfl,rfl⟩
      case wb=>exact qm
    |3,_=>
     have w3:IntKind.i64.wrap (2*q.1+((3:Nat):Int))=2*q.1+((3:Nat):Int):=qq oM oM;have w4:IntKind.i64.wrap (3*q.2+((2:Nat):Int))=3*q.2+((2:Nat):Int):=qq oM oM;refine qb ?_;intros;refine zV (j:=1) (q:=[.c (.int .u8 v)]) rfl rfl (by decide) (by decide) rfl ?_;refine qb ?_;intros;refine qe rfl (fun hb=>?_) (fun hb=>?_)
     ·have hb:zC v 11=true:=hb;refine qb ?_;intros;refine qV (m:=1) (q:=qh (qN q 11)) rfl rfl rfl (qH _ hfl) ⟨rfl,rfl,_,rfl,by rw [w1,w2,w3,w4];rfl⟩ (by omega) (by omega) (by decide) rfl ?_;rw [show out.flatMap qh++qh (qN q 11)=(out++[qN q 11]).flatMap qh by simp,show out.length+1=(out++[qN q 11]).length by simp];refine qb ?_;intros;refine⟨m2-1,by omega,_,_,_,[(1,3)],?wa,4,out++[qN q 11],by omega,by rw [ho];exact (yM hb).symm,rfl,rfl,rfl⟩
      case wa=>exact qm
     ·have hb:zC v 11=false:=hb;refine qb ?_;intros;refine⟨m2-1,by omega,_,_,_,[],?wb,4,out,by omega,by rw [ho];exact (yN hb).symm,rfl,rfl,rfl⟩
      case wb=>exact qm
    |c+4,h=>omega
   ·have ht2:c=4:=by have:=xK ht2;omega
    subst ht2;refine qb ?_;intros;refine⟨m-1,oM,_,_,_,[],?wc,3,out,oM,ho,rfl,rfl,rfl⟩
    case wc=>exact qm
  |r+3,h=>omega
 ·have ht:r=3:=by have:=xK ht;omega
  subst ht;have hfl:=xb out;refine qb ?_;intros;refine qr (qd (k:=4) rfl (qu _)) (qd (k:=1) rfl (qu _)) ?_;refine xt 1 rfl qO qO ?_;refine qf ⟨_,rfl,rfl,?_⟩;rw [show wV v q 12=out from ho.symm];rfl
theorem wm{i:Nat}{q:qc}(hq:qC 1000000 q):Qc (qS i q):=fun x hx=>by
 unfold qS wV at hx;obtain⟨k,hk,rfl⟩:=List.mem_map.1 hx;have:=List.mem_range.1 (List.mem_filter.1 hk).1;unfold qC at *;simp only [qN];omega
theorem zw(i:Nat)(q:qc):(qS i q).length<=12:=Xo _ _ _
def kg(p:Pic)(q:qc):Bool:=((decide (0<=q.1)&&decide (0<=q.2))&&(decide (q.1<=60)&&decide (q.2<=60)))&&(decide (2*(q.1+2)<=p.w)&&decide (3*(q.2+1)<=p.h))
def ZQ(g:Int)(d l:List qc):Bool:=!decide (xZ d l<=g)
def zU(p:Pic)(i:Nat)(q:qc):Bool:=kg p q&&((qo p).all (ZQ p.gap (qS i q))&&decide (xZ (qS i q) (((qo p)[i]?).getD [])<=3*p.gap))
theorem D5{p:Pic}{i:Nat}{q:qc}(hv:qx p=true)(hi:i<p.fs.length)(hq:qC 1000000 q):DK 79 [yi p,.int i,zd q] fun d=>d=.bool (zU p i q):=by
 refine qD qaZ rfl qX fun Z0 lo=>?_;have hl8:=(qL hv).1;have hgap:2<=p.gap/\p.gap<=6:=by
  have:=(qL hv).2.2.2;simp only [jV,xr,xQ] at this;exact this.1
 have hds:=wm (i:=i) hq;have hdl:=zw i q;have hsm:=vY hv;have hpl:(qo p).length=p.fs.length:=by simp [qo]
 have hrp:=Zl (zL hv) oM;have hlp:=ki (i:=i) (q:=q) oM hq;unfold qC at hq;have w1:IntKind.i64.wrap (q.1+2)=q.1+2:=qq oM oM;have w2:IntKind.i64.wrap (2*(q.1+2))=2*(q.1+2):=qq oM oM;have w3:IntKind.i64.wrap (q.2+1)=q.2+1:=qq oM oM;have w4:IntKind.i64.wrap (3*(q.2+1))=3*(q.2+1):=qq oM oM;have w5:IntKind.i64.wrap (3*p.gap)=3*p.gap:=qq oM oM;refine qb ?_;intros;refine qe rfl (fun ht=>?_) (fun ht=>?_)
 ·rw [xJ,xJ,xJ,xJ,xJ,w1,w2,w3,w4] at ht;simp only [Bool.or_eq_true,xQ] at ht;have hb:kg p q=false:=by
   rw [Bool.eq_false_iff];intro h2;simp only [kg,xr,xQ] at h2;omega
  refine qb ?_;intros;refine qf ⟨_,rfl,rfl,?_⟩;rw [zU,hb,Bool.false_and]
 ·rw [xJ,xJ,xJ,xJ,xJ,w1,w2,w3,w4] at ht;simp only [Bool.or_eq_false_iff,decide_eq_false_iff_not] at ht;have hb:kg p q=true:=by
   simp only [kg,xr,xQ];omega
  have hfit:zU p i q=((qo p).all (ZQ p.gap (qS i q))&&decide (xZ (qS i q) (((qo p)[i]?).getD [])<=3*p.gap)):=by rw [zU,hb,Bool.true_and]
  rw [hfit];clear hfit ht;generalize qo p=l at *;refine qb ?_;intros;refine qk rfl rfl hrp ?_;rintro _ rfl;refine qk rfl rfl hlp ?_;rintro _ rfl;generalize qS i q=dd at *;refine qb ?_;intros;refine ql (fun m E S nk=>∃k:Nat,k+m=l.length/\(∀(j:Nat) a,j<k->l[j]?=some a->ZQ p.gap dd a=true)/\E=[(1,.int i),(3,.one (.ptr 0 0)),(5,.one (.ptr 1 0)),(7,yn l),(8,qz dd),(9,.int k)]/\S=[(0,.cells (yj p)),(1,.cells [.f (.c (.int .i64 q.1)),.f (.c (.int .i64 q.2))])]/\nk=2)
   ⟨l.length,_,_,_,[],?wk,0,oM,fun j a hj=>oM,rfl,rfl,rfl⟩ ?_
  case wk=>exact qm
  rintro m E S nk ⟨k,hk,hok,rfl,rfl,rfl⟩;refine qb ?_;intros;refine qe rfl (fun hk2=>?_) (fun hk2=>?_)
  ·have hk2:k<l.length:=by have:=xC hk2;omega
   obtain⟨a,ha⟩:∃r,l[k]?=some r:=⟨_,zge hk2⟩;have e1:=j7 ha;have hsa:=hsm a (zmg ha);refine qb ?_;intros;refine qk rfl rfl (kA hds (kM hsa.1) oM oM) ?_;rintro _ rfl;refine qb ?_;intros;refine qe rfl (fun hd=>?_) (fun hd=>?_)
   ·refine qb ?_;intros;refine qf ⟨_,rfl,rfl,?_⟩;rw [kD ha (by rw [ZQ,hd];rfl),Bool.false_and]
   ·refine qb ?_;intros;refine⟨m-1,oM,_,_,_,[],?wk1,k+1,oM,?hno,rfl,rfl,rfl⟩
    case hno=>
     intro j b hj hb;by_cases hjk:j=k
     ·subst hjk;rw [ha] at hb;rw [<-zsi hb,ZQ,hd];rfl
     ·exact hok j b oM hb
    case wk1=>exact qm
  ·have hk2:k=l.length:=by have:=xK hk2;omega
   subst hk2;obtain⟨a,ha⟩:∃r,l[i]?=some r:=⟨_,zge oM⟩;have e1:=j7 ha;have hsa:=hsm a (zmg ha);rw [ZY hok,Bool.true_and,ha];refine qb ?_;intros;rw [w5];refine qk rfl rfl (kA hds (kM hsa.1) oM oM) ?_;rintro _ rfl;refine qb ?_;intros;exact qf ⟨_,rfl,rfl,rfl⟩
def ju(g:Int)(i:Nat)(a:qc)(k:Nat)(b:qc):Bool:=decide (xZ (qS i a) (qS k b)<=g)
def wN(p:Pic)(l:List qc)(i:Nat):Bool:=zU p i (xH l i)&&(List.range i).all fun k=>!ju p.gap i (xH l i) k (xH l k)
def y4(p:Pic)(l:List qc):Bool:=decide (l.length<=p.fs.length)&&(List.range l.length).all (wN p l)
theorem Qy{f:Nat->Bool}{n i:Nat}(hi:i<n)(h:f i=false):(List.range n).all f=false:=by
 rw [List.all_eq_false];exact⟨i,List.mem_range.2 hi,by rw [h];decide⟩
theorem Zf{f:Nat->Bool}{n:Nat}(h:∀i,i<n->f i=true):(List.range n).all f=true:=by
 rw [List.all_eq_true];exact fun i hi=>h i (List.mem_range.1 hi)
theorem bR{p:Pic}{l:List qc}(hv:qx p=true)(hl:∀q∈l,qC 1000000 q):DK 74 [yi p,qz l] fun d=>d=.bool (y4 p l):=by
 refine qD qa4 rfl qX fun Z0 lo=>?_;have hl8:=(qL hv).1;refine qb ?_;intros;refine qe rfl (fun ht=>?_) (fun ht=>?_)
 ·have ht:=xC ht;refine qb ?_;intros;refine qf ⟨_,rfl,rfl,?_⟩;rw [y4,decide_eq_false (by omega),Bool.false_and]
 ·have ht:=xK ht;have hln:l.length<=p.fs.length:=by omega
  rw [y4,decide_eq_true hln,Bool.true_and];refine qb ?_;intros;refine ql (fun m E S nk=>∃i:Nat,i+m=l.length/\(∀j,j<i->wN p l j=true)/\E=[(1,qz l),(2,.one (.ptr 0 0)),(5,.int i)]/\S=[(0,.cells (yj p))]/\nk=1)
   ⟨l.length,_,_,_,[],?wk,0,oM,fun j hj=>oM,rfl,rfl,rfl⟩ ?_
  case wk=>exact qm
  rintro m E S nk ⟨i,hi,hok,rfl,rfl,rfl⟩;refine qb ?_;intros;refine qe rfl (fun hi2=>?_) (fun hi2=>?_)
  ·have hi2:i<l.length:=by have:=xC hi2;omega
   obtain⟨q,hq⟩:∃r,l[i]?=some r:=⟨_,zge hi2⟩;have e1:=xd hq;have hqs:=hl q (zmg hq);have hqa:=xM hq;refine qb ?_;intros;refine qk rfl rfl (D5 (i:=i) (q:=q) hv oM hqs) ?_;rintro _ rfl;refine qb ?_;intros;refine qe rfl (fun hf=>?_) (fun hf=>?_)
   ·have hf:zU p i q=false:=by simpa using hf
    refine qb ?_;intros;refine qf ⟨_,rfl,rfl,?_⟩;rw [Qy hi2 (by rw [wN,hqa,hf,Bool.false_and])]
   ·have hf:zU p i q=true:=by simpa using hf
    refine qb ?_;intros;refine ql (fun m E S nk=>∃k:Nat,k+m=i/\(∀j,j<k->ju p.gap i q j (xH l j)=false)/\E=[(1,qz l),(2,.one (.ptr 0 0)),(5,.int i),(6,.int k)]/\S=[(0,.cells (yj p))]/\nk=1)
     ⟨i,_,_,_,[],?wk2,0,oM,fun j hj=>oM,rfl,rfl,rfl⟩ ?_
    case wk2=>exact qm
    rintro m2 E S nk ⟨k,hk,hok2,rfl,rfl,rfl⟩;refine qb ?_;intros;refine qe rfl (fun hk2=>?_) (fun hk2=>?_)
    ·have hk2:k<i:=by have:=xC hk2;omega
     obtain⟨b,hb⟩:∃r,l[k]?=some r:=⟨_,zge oM⟩;have e2:=xd hb;have hbs:=hl b (zmg hb);have hba:=xM hb;have n1:=zw i q;have n2:=zw k b;refine qb ?_;intros;refine qk rfl rfl (ki (i:=i) (q:=q) oM hqs) ?_;rintro _ rfl;refine qk rfl rfl (ki (i:=k) (q:=b) oM hbs) ?_;rintro _ rfl;refine qk rfl rfl (kA (wm hqs) (wm hbs) oM oM) ?_;rintro _ rfl;refine qb ?_;intros;refine qe rfl (fun hd=>?_) (fun hd=>?_)
     ·refine qb ?_;intros;refine qf ⟨_,rfl,rfl,?_⟩;rw [Qy hi2 (by rw [wN,hqa,Qy hk2 (by rw [hba,ju,hd];rfl),Bool.and_false])]
     ·refine qb ?_;intros;refine⟨m2-1,oM,_,_,_,[],?wk3,k+1,oM,?hno,rfl,rfl,rfl⟩
      case hno=>
       intro j hj;by_cases hjk:j=k
       ·subst hjk;rw [hba];exact hd
       ·exact hok2 j oM
      case wk3=>exact qm
    ·have hk2:k=i:=by have:=xK hk2;omega
     subst hk2;refine qb ?_;intros;refine⟨m-1,oM,_,_,_,[],?wk4,k+1,oM,?hno2,rfl,rfl,rfl⟩
     case hno2=>
      intro j hj;by_cases hjk:j=k
      ·subst hjk;rw [wN,hqa,hf,Bool.true_and];exact Zf fun x hx=>by rw [hok2 x hx];rfl
      ·exact hok j oM
     case wk4=>exact qm
  ·have hi2:i=l.length:=by have:=xK hi2;omega
   subst hi2;refine qb ?_;intros;refine qf ⟨_,rfl,rfl,?_⟩;rw [Zf hok]
def yH(p:Pic)(l:List qc):Bool:=decide (l.length=p.fs.length)&&y4 p l
def kR(p:Pic)(i y n:Nat):List qc:=((List.range n).map fun x=>(((x:Nat):Int),((y:Nat):Int))).filter (zU p i)
def Q4(p:Pic)(i w n:Nat):List qc:=(List.range n).flatMap fun y=>kR p i y w
def jk(p:Pic)(i:Nat):List qc:=Q4 p i ((p.w/2).toNat-1) (p.h/3).toNat
theorem BL{p:Pic}{i y n:Nat}(h:zU p i ((n:Int),(y:Int))=true):kR p i y (n+1)=kR p i y n++[((n:Int),(y:Int))]:=by
 simp [kR,List.range_succ,h]
theorem iE{p:Pic}{i y n:Nat}(h:zU p i ((n:Int),(y:Int))=false):kR p i y (n+1)=kR p i y n:=by
 simp [kR,List.range_succ,h]
theorem JD{p:Pic}{i w n:Nat}:Q4 p i w (n+1)=Q4 p i w n++kR p i n w:=by
 simp [Q4,List.range_succ]
theorem Vu(p:Pic)(i y n:Nat):(kR p i y n).length<=n:=by
 unfold kR;exact Nat.le_trans (List.length_filter_le _ _) (by simp)
theorem Yq(p:Pic)(i w:Nat):∀n,(Q4 p i w n).length<=n*w
 |0=>by simp [Q4]
 |n+1=>by
  have h1:=Yq p i w n;have h2:=Vu p i n w;rw [JD,List.length_append,Nat.add_mul];omega
theorem RY{p:Pic}{i:Nat}(hv:qx p=true)(hi:i<p.fs.length):DK 48 [yi p,.int i] fun d=>d=qz (jk p i):=by
 refine qD qbr rfl qX fun Z0 lo=>?_;have hh:=(qL hv).2.2.1;simp only [yb,xr,xQ] at hh;obtain⟨⟨⟨hw1,hw2⟩,hw3⟩,⟨hh1,hh2⟩,hh3⟩:=hh;rw [Int.tmod_eq_emod_of_nonneg (by omega)] at hw3 hh3;obtain⟨nw,hnw⟩:∃nw:Nat,nw=(p.w/2).toNat-1:=⟨_,rfl⟩;obtain⟨nh,hnh⟩:∃nh:Nat,nh=(p.h/3).toNat:=⟨_,rfl⟩;have hw4:p.w=2*((nw:Int)+1):=by omega
 have hh4:p.h=3*(nh:Int):=by omega
 have hnw2:nw<30:=by omega
 have hnh2:nh<=20:=by omega
 refine qb ?_;intros;refine ql (fun m E S nk=>∃(y:Nat) (out:List qc),y+m=nh/\out=Q4 p i nw y/\E=[(1,.int i),(2,.one (.ptr 0 0)),(5,.one (.own 1 0 out.length 2)),(6,.int y)]/\S=[(0,.cells (yj p)),(1,.data (out.flatMap qh))]/\nk=2)
  ⟨nh,_,_,_,[],?wk,0,[],oM,rfl,rfl,rfl,rfl⟩ ?_
 case wk=>exact qm
 rintro m E S nk ⟨y,out,hy,ho,rfl,rfl,rfl⟩;have w1:IntKind.i64.wrap ((y:Int)+1)=(y:Int)+1:=qq oM oM;have w2:IntKind.i64.wrap (3*((y:Int)+1))=3*((y:Int)+1):=qq oM oM;refine qb ?_;intros;refine qe rfl (fun ht=>?_) (fun ht=>?_)
 ·have ht:=xC ht;rw [w1,w2] at ht;have hy2:y<nh:=by omega
  have hcl:=Yq p i nw y;have hcm:y*nw<=20*30:=Nat.mul_le_mul oM oM;refine qb ?_;intros;refine ql (fun m E S nk=>∃(x:Nat) (o2:List qc),x+m=nw/\o2=out++kR p i y x/\E=[(1,.int i),(2,.one (.ptr 0 0)),(5,.one (.own 1 0 o2.length 2)),(6,.int y),(7,.int x)]/\S=[(0,.cells (yj p)),(1,.data (o2.flatMap qh))]/\nk=2)
   ⟨nw,_,_,_,[],?wk2,0,out,by omega,by simp [kR],rfl,rfl,rfl⟩ ?_
  case wk2=>exact qm
  rintro m2 E S nk ⟨x,o2,hx,ho2,rfl,rfl,rfl⟩;have w3:IntKind.i64.wrap ((x:Int)+2)=(x:Int)+2:=qq oM oM;have w4:IntKind.i64.wrap (2*((x:Int)+2))=2*((x:Int)+2):=qq oM oM;have hrl:=Vu p i y x;have hol:o2.length<=1000:=by rw [ho2,List.length_append,ho];omega
  have hfl:=xb o2;refine qb ?_;intros;refine qe rfl (fun ht2=>?_) (fun ht2=>?_)
  ·have ht2:=xC ht2;rw [w3,w4] at ht2;have hx2:x<nw:=by omega
   refine qb ?_;intros;refine qk rfl rfl (D5 (i:=i) (q:=((x:Int),(y:Int))) hv hi (by unfold qC;simp only;omega)) ?_;rintro _ rfl;refine qb ?_;intros;refine qe rfl (fun hf=>?_) (fun hf=>?_)
   ·refine qb ?_;intros;refine qV (m:=1) (q:=qh ((x:Int),(y:Int))) rfl rfl rfl (qH _ hfl) ⟨rfl,rfl,_,rfl,rfl⟩ oM oM (by decide) rfl ?_;rw [show o2.flatMap qh++qh ((x:Int),(y:Int))=(o2++[((x:Int),(y:Int))]).flatMap qh by simp,show o2.length+1=(o2++[((x:Int),(y:Int))]).length by simp];refine qb ?_;intros;refine⟨m2-1,by omega,_,_,_,[(1,4)],?wk3,x+1,o2++[((x:Int),(y:Int))],by omega,by rw [BL hf,ho2,List.append_assoc],rfl,rfl,rfl⟩
    case wk3=>exact qm
   ·refine qb ?_;intros;refine⟨m2-1,by omega,_,_,_,[],?wk4,x+1,o2,by omega,by rw [iE hf,ho2],rfl,rfl,rfl⟩
    case wk4=>exact qm
  ·have ht2:=xK ht2;rw [w3,w4] at ht2;have hx2:x=nw:=by omega
   subst hx2;refine qb ?_;intros;refine⟨m-1,by omega,_,_,_,[],?wk5,y+1,o2,by omega,by rw [JD,ho2,ho],rfl,rfl,rfl⟩
   case wk5=>exact qm
 ·have ht:=xK ht;rw [w1,w2] at ht;have hy2:y=nh:=by omega
  subst hy2;have hfl:=xb out;refine qb ?_;intros;refine qr (qd (k:=4) rfl (qu _)) (qd (k:=1) rfl (qu _)) ?_;refine xt 1 rfl qO qO ?_;refine qf ⟨_,rfl,rfl,?_⟩;rw [jk,<-hnw,<-hnh,<-ho];rfl
theorem Wu(w h:Int):fI 12 [.int w,.int h] fun d S nk=>∃n m:Nat,jI w=n/\jI h=m/\n<=200/\m<=200/\d=.agg [.f (.c (.int .i64 n)),.f (.c (.int .i64 m)),.own 2 0 m 1]/\S=[(2,.tree (xj (blankD n m)))]/\nk=3:=by
 refine QF qbS rfl qX fun Z0 lo=>?_;obtain⟨n,hn,hn2⟩:=Y9 w;obtain⟨m,hm,hm2⟩:=Y9 h;refine qb ?_;intros;rw [show min (max w 0) 200=(n:Int) from hn,show min (max h 0) 200=(m:Int) from hm];refine HD 1 2 rfl rfl ?_;refine qr (qd (k:=4) rfl (qd (k:=5) rfl (qd (k:=6) rfl (qu _)))) (qd (k:=0) rfl (qd (k:=1) rfl (qd (k:=2) rfl (qu _)))) ?_;refine ql (fun k E S nk=>∃y:Nat,y+k=m/\E=[(4,.one (.ptr 0 0)),(5,.one (.ptr 1 0)),(6,.int y)]/\S=[(0,.cells [.f (.c (.int .i64 0)),.f (.c (.int .i64 0)),.f (.c .nils)]),(1,.cells [.f (.c (.int .i64 n)),.f (.c (.int .i64 m)),.own 2 0 y 1]),(2,.tree (xj (blankD n y)))]/\nk=3) ⟨m,_,_,_,[],?wk,0,oM,rfl,rfl,rfl⟩ ?_
 case wk=>exact qm
 rintro k E S nk ⟨y,hy,rfl,rfl,rfl⟩;refine qb ?_;intros;refine qe rfl (fun ht=>?_) (fun ht=>?_)
 ·simp at ht;refine qb ?_;intros;refine DL [.c (.bool false)] rfl rfl rfl rfl ⟨rfl,rfl,trivial⟩ rfl (by decide) (Nat.le_refl _) oM oM ?_;refine qb ?_;intros;refine RH rfl rfl rfl (by simp [xj,blankD]) rfl rfl (by rw [kU];simp) (by omega) (by omega) rfl ?_;rw [show xj (blankD n y)++[yY [.c (.bool false)] n]=xj (blankD n (y+1)) by rw [aF];simp [xj,blankD,List.replicate_succ']];refine qb ?_;intros;refine⟨k-1,oM,_,_,_,[(2,5)],?wk1,y+1,oM,rfl,rfl,rfl⟩
  case wk1=>exact qm
 ·simp at ht;obtain rfl:y=m:=by omega
  refine qb ?_;intros;refine qf ⟨_,rfl,rfl,_,qd (k:=2) rfl (qu _),n,y,hn,hm,hn2,hm2,rfl,rfl,rfl⟩
def Sz(w h:Nat)(d:qI):Prop:=d.length=h/\∀r∈d,r.length=w
def y5(d:qI)(x y:Nat):Bool:=match d[y]? with
 |some r=>(r[x]?).getD false
 |none=>false
def kp(d:qI)(x y:Nat)(b:Bool):qI:=match d[y]? with
 |some r=>d.set y (r.set x b)
 |none=>d
theorem Sz.row{w h:Nat}{d:qI}(hd:Sz w h d){y:Nat}(hy:y<h):∃r,d[y]?=some r/\r.length=w:=by
 have hl:y<d.length:=by rw [hd.1];exact hy
 exact⟨d[y],zge hl,hd.2 _ (List.getElem_mem hl)⟩
theorem Sz.cell{w h:Nat}{d:qI}(hd:Sz w h d){x y:Nat}(hx:x<w)(hy:y<h):∃r,d[y]?=some r/\r.length=w/\r[x]?=some (y5 d x y):=by
 obtain⟨r,h1,h2⟩:=hd.row hy;refine⟨r,h1,h2,?_⟩;have:x<r.length:=by omega
 simp [y5,h1,zge this]
theorem Sz.set{w h:Nat}{d:qI}(hd:Sz w h d)(x y:Nat)(b:Bool):Sz w h (kp d x y b):=by
 unfold kp;split
 ·rename_i r hr;refine⟨by simpa using hd.1,fun q hq=>?_⟩;rcases List.mem_or_eq_of_mem_set hq with h|h
  ·exact hd.2 q h
  ·subst h;simpa using hd.2 r (zmg hr)
 ·exact hd
theorem rN{w h:Nat}{d:qI}(hd:Sz w h d){x y:Nat}(hx:x<w)(hy:y<h)(b:Bool)(i j:Nat):y5 (kp d x y b) i j=if i=x/\j=y then b else y5 d i j:=by
 obtain⟨r,h1,h2⟩:=hd.row hy;have hyl:y<d.length:=by rw [hd.1];exact hy
 simp only [kp,h1,y5,List.getElem?_set];by_cases e:y=j
 ·subst e;rw [if_pos rfl,if_pos hyl];simp only [h1,List.getElem?_set];by_cases e2:x=i
  ·subst e2;rw [if_pos rfl,if_pos (by omega)];simp
  ·rw [if_neg e2,if_neg (fun h=>e2 h.1.symm)]
 ·rw [if_neg e,if_neg (fun h=>e h.2.symm)]
theorem Sz.ext{w h:Nat}{d d':qI}(hd:Sz w h d)(hd':Sz w h d')(he:∀x y,x<w->y<h->y5 d x y=y5 d' x y):d=d':=by
 refine List.ext_getElem? fun y=>?_;by_cases hy:y<h
 ·obtain⟨r,h1,h2⟩:=hd.row hy;obtain⟨r',h1',h2'⟩:=hd'.row hy;rw [h1,h1'];congr 1;refine List.ext_getElem? fun x=>?_;by_cases hx:x<w
  ·obtain⟨_,g1,_,g2⟩:=hd.cell hx hy;obtain⟨_,g1',_,g2'⟩:=hd'.cell hx hy;rw [h1] at g1;rw [h1'] at g1';obtain rfl:=zsi g1;obtain rfl:=zsi g1';rw [g2,g2',he x y hx hy]
  ·rw [List.getElem?_eq_none (by omega),List.getElem?_eq_none (by omega)]
 ·rw [List.getElem?_eq_none (by rw [hd.1];omega),List.getElem?_eq_none (by rw [hd'.1];omega)]
theorem Sz.blankD(w h:Nat):Sz w h (Go.Ag.blankD w h):=⟨by simp [Go.Ag.blankD],fun r hr=>by
 obtain⟨_,rfl⟩:=List.mem_replicate.1 hr;simp⟩
theorem WY(w h x y:Nat):y5 (blankD w h) x y=false:=by
 unfold y5;split
 ·rename_i r hr;simp only [blankD,List.getElem?_replicate] at hr;split at hr
  ·obtain rfl:=zsi hr;rw [List.getElem?_replicate];split<;>rfl
  ·cases hr
 ·rfl
theorem kQ{d:qI}{y:Nat}{r:List Bool}(h:d[y]?=some r)(x:Nat)(b:Bool):(xj d).set y ((r.map jR).set x (.c (.bool b)))=xj (kp d x y b):=by
 simp only [kp,h];rw [<-Wi,<-R6];rfl
theorem vj{rows:List (List FD)}{y:Nat}{r:List FD}(h:rows[y]?=some r):xN (rows.map yh) (y*1) 1=some [yh r]:=by
 have hl:=(zgs h).1;rw [Nat.mul_one,yE (by simp;omega)];congr 1;refine List.ext_getElem? fun j=>?_;rw [List.getElem?_take];split
 ·rename_i hj;obtain rfl:j=0:=by omega
  rw [List.getElem?_drop,List.getElem?_map,Nat.add_zero,h];rfl
 ·rw [List.getElem?_eq_none (by simp;omega)]
theorem YM{r:List FD}{x:Nat}{b:FD}(h:r[x]?=some b):xN r (x*1) 1=some [b]:=by
 have hl:=(zgs h).1;rw [Nat.mul_one,yE (by omega)];congr 1;refine List.ext_getElem? fun j=>?_;rw [List.getElem?_take];split
 ·rename_i hj;obtain rfl:j=0:=by omega
  rw [List.getElem?_drop,Nat.add_zero,h];rfl
 ·rw [List.getElem?_eq_none (by simp;omega)]
theorem aR(w h:Int):fI 36 [.int w,.int h] fun d S nk=>∃n m:Nat,jI w=n/\jI h=m/\n<=200/\m<=200/\d=.agg [.f (.c (.int .i64 n)),.f (.c (.int .i64 m)),.own 2 0 m 1]/\S=[(2,.tree (xj (blankD n m)))]/\nk=3:=by
 refine QF qbB rfl qX fun Z0 lo=>?_;obtain⟨n,hn,hn2⟩:=Y9 w;obtain⟨m,hm,hm2⟩:=Y9 h;refine qb ?_;intros;rw [show min (max w 0) 200=(n:Int) from hn,show min (max h 0) 200=(m:Int) from hm];refine qaf (n:=m) rfl rfl oM oM ?_;refine qb ?_;intros;refine ql (fun k E S nk=>∃y:Nat,y+k=m/\∃cur:qI,cur.length=m/\(∀j,j<y->cur[j]?=some (List.replicate n false))/\E=[(0,.int n),(4,.one (.ptr 0 0)),(5,.one (.ptr 1 0)),(18,.int m),(19,.int y)]/\S=[(0,.cells [.f (.c (.int .i64 0)),.f (.c (.int .i64 0)),.f (.c .nils)]),(1,.cells [.f (.c (.int .i64 n)),.f (.c (.int .i64 m)),.own 2 0 m 1]),(2,.tree (xj cur))]/\nk=3) ⟨m,_,_,_,[(1,2),(2,1)],?wk,0,by omega,List.replicate m [],by simp,by omega,rfl,rfl,rfl⟩ ?_
 case wk=>exact⟨by repeat (first|exact trivial|refine⟨rfl,rfl,?_⟩),⟨rfl,rfl,rfl,rfl,rfl,rfl,congrArg (fun z=>some (Bk.tree z)) (by simp [xj]),rfl,rfl,trivial⟩,rfl,rfl⟩
 rintro k E S nk ⟨y,hy,cur,hcl,hcur,rfl,rfl,rfl⟩;refine qb ?_;intros;refine qe rfl (fun ht=>?_) (fun ht=>?_)
 ·simp at ht;refine qb ?_;intros;refine DL [.c (.bool false)] rfl rfl rfl rfl ⟨rfl,rfl,trivial⟩ rfl (by decide) (Nat.le_refl _) oM oM ?_;refine qb ?_;intros;refine G7 rfl rfl rfl rfl (by rw [kU];simp) (by rw [yX];simp;omega) rfl ?_;rw [aF,Int.toNat_natCast,Wi];refine qb ?_;intros;refine⟨k-1,by omega,_,_,_,[(2,4)],?wk1,y+1,by omega,cur.set y (List.replicate n false),by simpa using hcl,fun j hj=>?_,rfl,rfl,rfl⟩
  case wk1=>exact qm
  rw [List.getElem?_set];split
  ·rename_i e;rw [if_pos (by omega)]
  ·exact hcur j oM
 ·simp at ht;obtain rfl:y=m:=by omega
  refine qb ?_;intros;refine qf ⟨_,rfl,rfl,_,qd (k:=2) rfl (qu _),n,y,hn,hm,hn2,hm2,rfl,?_,rfl⟩;congr 4;refine List.ext_getElem? fun j=>?_;simp only [blankD,List.getElem?_replicate];split
  ·rename_i hj;exact hcur j hj
  ·rw [List.getElem?_eq_none (by omega)]
def XT(w h:Int)(p:qc):Bool:=decide (0<=p.1/\p.1<w/\0<=p.2/\p.2<h)
theorem MN{w h:Int}{x:FD}{p:qc}:DK 72 [.agg [.f (.c (.int .i64 w)),.f (.c (.int .i64 h)),.f x],zd p] fun d=>d=.bool (XT w h p):=by
 refine qD qa6 rfl qX fun Z0 lo=>?_;by_cases h1:p.1>=0
 ·have g1:decide (p.1>=0)=true:=by simpa using h1
  by_cases h2:p.1<w
  ·have g2:decide (p.1<w)=true:=by simpa using h2
   by_cases h3:p.2>=0
   ·have g3:decide (p.2>=0)=true:=by simpa using h3
    refine qU ?_;intros;refine qf ⟨_,rfl,rfl,?_⟩;have e:(0<=p.1/\p.1<w/\0<=p.2/\p.2<h)↔p.2<h:=by omega
    simp only [XT,e,if_true]
   ·have g3:decide (p.2>=0)=false:=by simpa using h3
    refine qU ?_;intros;exact qf ⟨_,rfl,rfl,by simp [XT];omega⟩
  ·have g2:decide (p.1<w)=false:=by simpa using h2
   refine qU ?_;intros;exact qf ⟨_,rfl,rfl,by simp [XT];omega⟩
 ·have g1:decide (p.1>=0)=false:=by simpa using h1
  refine qU ?_;intros;exact qf ⟨_,rfl,rfl,by simp [XT];omega⟩
theorem nB{w h:Nat}{d:qI}(hw:w<=200)(hh:h<=200)(hd:Sz w h d):DK 40 [yx w h d] fun d=>d=.bool true:=by
 refine qD qby rfl qX fun Z0 lo=>?_;have hl:=hd.1;have g1:decide ((w:Int)<0)=false:=by simp
 have g2:decide ((w:Int)>200)=false:=by simp;omega
 have g3:decide ((h:Int)<0)=false:=by simp
 have g4:decide ((h:Int)>200)=false:=by simp;omega
 have g5:(((d.length:Nat):Int)!=(h:Int))=false:=by simp [hl]
 refine qU ?_;intros;refine qe rfl (fun ht=>by cases ht) (fun _=>?_);refine qb ?_;intros;refine ql (fun m E S nk=>∃k:Nat,k+m=d.length/\E=[(1,.one (.ptr 0 0)),(32,.one (.f (.sl 1 d.length ((xj d).map yh)))),(33,.int d.length),(34,.int k)]/\S=[(0,.cells [.f (.c (.int .i64 w)),.f (.c (.int .i64 h)),.f (.sl 1 d.length ((xj d).map yh))])]/\nk=1) ⟨d.length,_,_,_,[],?wk,0,oM,rfl,rfl,rfl⟩ ?_
 case wk=>exact qm
 rintro m E S nk ⟨k,hk,rfl,rfl,rfl⟩;refine qb ?_;intros;refine qe rfl (fun ht=>?_) (fun ht=>?_)
 ·simp at ht;obtain⟨r,hr,hrl⟩:=hd.row (y:=k) oM;have e1:=vj (yA hr);have e2:((((r.map jR).length:Nat):Int)!=(w:Int))=false:=by simp [hrl]
  refine qU ?_;intros;refine qe rfl (fun ht=>by cases ht) (fun _=>?_);refine qb ?_;intros;refine⟨m-1,oM,_,_,_,[],?wk1,k+1,oM,rfl,rfl,rfl⟩
  case wk1=>exact qm
 ·simp at ht;refine qb ?_;intros;exact qf ⟨_,rfl,rfl,rfl⟩
theorem D2{w h:Nat}{d:qI}(hw:w<=200)(hh:h<=200)(hd:Sz w h d):DK 18 [yx w h d] fun d=>d=.bool true:=by
 refine qD qbM rfl qX fun Z0 lo=>?_;have hl:=hd.1;have g1:decide ((w:Int)<0)=false:=by simp
 have g2:decide ((w:Int)>200)=false:=by simp;omega
 have g3:decide ((h:Int)<0)=false:=by simp
 have g4:decide ((h:Int)>200)=false:=by simp;omega
 have g5:(((d.length:Nat):Int)!=(h:Int))=false:=by simp [hl]
 refine qU ?_;intros;refine qe rfl (fun ht=>by cases ht) (fun _=>?_);refine qb ?_;intros;refine ql (fun m E S nk=>∃k:Nat,k+m=h/\E=[(1,.one (.ptr 0 0)),(3,.int k)]/\S=[(0,.cells [.f (.c (.int .i64 w)),.f (.c (.int .i64 h)),.f (.sl 1 d.length ((xj d).map yh))])]/\nk=1) ⟨h,_,_,_,[],?wk,0,oM,rfl,rfl,rfl⟩ ?_
 case wk=>exact qm
 rintro m E S nk ⟨k,hk,rfl,rfl,rfl⟩;refine qb ?_;intros;refine qe rfl (fun ht=>?_) (fun ht=>?_)
 ·simp at ht;obtain⟨r,hr,hrl⟩:=hd.row (y:=k) oM;have e1:=vj (yA hr);have e2:((((r.map jR).length:Nat):Int)!=(w:Int))=false:=by simp [hrl]
  refine qU ?_;intros;refine qe rfl (fun ht=>by cases ht) (fun _=>?_);refine qb ?_;intros;refine⟨m-1,oM,_,_,_,[],?wk1,k+1,oM,rfl,rfl,rfl⟩
  case wk1=>exact qm
 ·simp at ht;refine qb ?_;intros;exact qf ⟨_,rfl,rfl,rfl⟩
def Qe(w h:Nat)(d:qI)(p:qc):qI:=if XT w h p=true then kp d p.1.toNat p.2.toNat true else d
def zT(w h:Nat)(d:qI)(l:List qc):qI:=l.foldl (Qe w h) d
theorem iP{w h:Nat}{d:qI}(hd:Sz w h d)(p:qc):Sz w h (Qe w h d p):=by
 unfold Qe;split
 ·exact hd.set _ _ _
 ·exact hd
theorem Ql{w h:Nat}:∀(l:List qc) {d:qI},Sz w h d->Sz w h (zT w h d l)
 |[],_,hd=>hd
 |p::l,_,hd=>Ql l (iP hd p)
theorem aK{w h:Nat}{d:qI}{l:List qc}{k:Nat}{p:qc}(hp:l[k]?=some p):zT w h d (l.take (k+1))=Qe w h (zT w h d (l.take k)) p:=by
 rw [List.take_add_one,hp,zT,zT];simp
def Cp(w h:Nat)(d:qI)(y x:Nat)(cur:qI):Prop:=Sz w h cur/\∀i j,i<w->j<h->y5 cur i j=if j<y\/(j=y/\i<x) then y5 d i j else false
theorem Cp.start(w h:Nat)(d:qI):Cp w h d 0 0 (blankD w h):=⟨Sz.blankD w h,fun i j _ _=>by rw [WY,if_neg (by omega)]⟩
theorem Cp.step{w h:Nat}{d:qI}{y x:Nat}{cur:qI}(hc:Cp w h d y x cur)(hx:x<w)(hy:y<h):Cp w h d y (x+1) (kp cur x y (y5 d x y)):=by
 refine⟨hc.1.set _ _ _,fun i j hi hj=>?_⟩;rw [rN hc.1 hx hy];split
 ·rename_i e;rw [if_pos (by omega),e.1,e.2]
 ·rename_i e;rw [hc.2 i j hi hj];by_cases h1:j<y\/(j=y/\i<x)
  ·rw [if_pos h1,if_pos (by omega)]
  ·rw [if_neg h1,if_neg (by omega)]
theorem Cp.next{w h:Nat}{d:qI}{y:Nat}{cur:qI}(hc:Cp w h d y w cur):Cp w h d (y+1) 0 cur:=⟨hc.1,fun i j hi hj=>by
 rw [hc.2 i j hi hj];by_cases h1:j<y\/(j=y/\i<w)
 ·rw [if_pos h1,if_pos (by omega)]
 ·rw [if_neg h1,if_neg (by omega)]⟩
theorem Cp.fin{w h:Nat}{d:qI}{cur:qI}(hd:Sz w h d)(hc:Cp w h d h 0 cur):cur=d:=hc.1.ext hd fun i j hi hj=>by
 rw [hc.2 i j hi hj,if_pos (by omega)]
theorem Zq{w n:Nat}(h:jI w=n)(hw:w<=200):n=w:=by unfold jI at h;omega
theorem RP{w h:Nat}{d:qI}{l:List qc}(hw:w<=200)(hh:h<=200)(hd:Sz w h d)(hl:l.length<1000000):DK 39 [yx w h d,qz l] fun r=>r=yx w h (zT w h d l):=by
 refine qD HY rfl qX fun Z0 lo=>?_;refine qb ?_;intros;refine jr rfl rfl (Wu w h) ?_;rintro _ _ _ ⟨n,m,hn,hm,_,_,rfl,rfl,rfl⟩;obtain rfl:=Zq hn hw;obtain rfl:=Zq hm hh;refine qb ?_;intros;refine qr (qd (k:=1) rfl (qd (k:=2) rfl (qd (k:=4) rfl (qd (k:=5) rfl (qd (k:=6) rfl (qu _)))))) (qd (k:=0) rfl (qd (k:=1) rfl (qd (k:=4) rfl (qd (k:=5) rfl (qu _))))) ?_;refine ql (fun k E S nk=>∃y:Nat,y+k=m/\∃cur:qI,Cp n m d y 0 cur/\E=[(1,qz l),(2,.one (.ptr 0 0)),(4,.one (.ptr 1 0)),(5,.one (.ptr 5 0)),(6,.int y)]/\S=[(0,.cells [.f (.c (.int .i64 n)),.f (.c (.int .i64 m)),.f (.sl 1 d.length ((xj d).map yh))]),(1,.cells [.f (.c (.int .i64 0)),.f (.c (.int .i64 0)),.f (.c .nils)]),(4,.tree (xj cur)),(5,.cells [.f (.c (.int .i64 n)),.f (.c (.int .i64 m)),.own 4 0 m 1])]/\nk=6) ⟨m,_,_,_,[],?wk,0,oM,blankD n m,Cp.start n m d,rfl,rfl,rfl⟩ ?_
 case wk=>exact qm
 rintro k E S nk ⟨y,hy,cur,hcur,rfl,rfl,rfl⟩;refine qb ?_;intros;refine qe rfl (fun ht=>?_) (fun ht=>?_)
 ·simp at ht;refine qb ?_;intros;refine qr (qd (k:=1) rfl (qd (k:=2) rfl (qd (k:=4) rfl (qd (k:=5) rfl (qd (k:=6) rfl (qd (k:=7) rfl (qu _))))))) (zH _) ?_;refine ql (fun k2 E S nk=>∃x:Nat,x+k2=n/\∃cur:qI,Cp n m d y x cur/\E=[(1,qz l),(2,.one (.ptr 0 0)),(4,.one (.ptr 1 0)),(5,.one (.ptr 5 0)),(6,.int y),(7,.int x)]/\S=[(0,.cells [.f (.c (.int .i64 n)),.f (.c (.int .i64 m)),.f (.sl 1 d.length ((xj d).map yh))]),(1,.cells [.f (.c (.int .i64 0)),.f (.c (.int .i64 0)),.f (.c .nils)]),(4,.tree (xj cur)),(5,.cells [.f (.c (.int .i64 n)),.f (.c (.int .i64 m)),.own 4 0 m 1])]/\nk=6) ⟨n,_,_,_,[],?wk1,0,oM,cur,hcur,rfl,rfl,rfl⟩ ?_
  case wk1=>exact qm
  rintro k2 E S nk ⟨x,hx,cur,hcur,rfl,rfl,rfl⟩;refine qb ?_;intros;refine qe rfl (fun ht2=>?_) (fun ht2=>?_)
  ·simp at ht2;obtain⟨r,hr,hrl,hrx⟩:=hd.cell (x:=x) (y:=y) oM oM;obtain⟨q,hq,hql⟩:=hcur.1.row (y:=y) oM;have hdl:=hd.1;have e1:=vj (yA hr);have e2:=YM (ZV hrx);have e3:=yA hq;have l1:x<(r.map jR).length:=by simp;omega
   have l2:x<(q.map jR).length:=by simp;omega
   refine qb ?_;intros;refine WP (x:=.c (.bool (y5 d x y))) rfl rfl rfl e3 (by simpa using l2) rfl ?_;rw [Int.toNat_natCast,Int.toNat_natCast,kQ hq];refine qb ?_;intros;refine⟨k2-1,oM,_,_,_,[],?wk2,x+1,oM,_,hcur.step oM oM,rfl,rfl,rfl⟩
   case wk2=>exact qm
  ·simp at ht2;obtain rfl:x=n:=by omega
   refine qb ?_;intros;refine⟨k-1,oM,_,_,_,[],?wk3,y+1,oM,_,hcur.next,rfl,rfl,rfl⟩
   case wk3=>exact qm
 ·simp at ht;obtain rfl:y=m:=by omega
  obtain rfl:=hcur.fin hd;refine qb ?_;intros;refine qr (qd (k:=1) rfl (qd (k:=2) rfl (qd (k:=4) rfl (qd (k:=5) rfl (qd (k:=8) rfl (qu _)))))) (zH _) ?_;refine ql (fun k E S nk=>∃j:Nat,j+k=l.length/\E=[(1,qz l),(2,.one (.ptr 0 0)),(4,.one (.ptr 1 0)),(5,.one (.ptr 5 0)),(8,.int j)]/\S=[(0,.cells [.f (.c (.int .i64 n)),.f (.c (.int .i64 y)),.f (.sl 1 cur.length ((xj cur).map yh))]),(1,.cells [.f (.c (.int .i64 0)),.f (.c (.int .i64 0)),.f (.c .nils)]),(4,.tree (xj (zT n y cur (l.take j)))),(5,.cells [.f (.c (.int .i64 n)),.f (.c (.int .i64 y)),.own 4 0 y 1])]/\nk=6) ⟨l.length,_,_,_,[],?wk4,0,oM,rfl,rfl,rfl⟩ ?_
  case wk4=>exact qm
  rintro k E S nk ⟨j,hj,rfl,rfl,rfl⟩;refine qb ?_;intros;refine qe rfl (fun ht2=>?_) (fun ht2=>?_)
  ·simp at ht2;obtain⟨p,hp⟩:∃p,l[j]?=some p:=⟨_,zge oM⟩;have e1:=xd hp;have hstep:=aK (w:=n) (h:=y) (d:=cur) hp;refine qb ?_;intros;refine qk rfl rfl (MN (p:=p)) ?_;rintro _ rfl;refine qb ?_;intros;refine qe rfl (fun ht3=>?_) (fun ht3=>?_)
   ·have hon:0<=p.1/\p.1<n/\0<=p.2/\p.2<y:=by simpa [XT] using ht3
    have hsz:=Ql (w:=n) (h:=y) (l.take j) hd;obtain⟨q,hq,hql⟩:=hsz.row (y:=p.2.toNat) oM;have e3:=yA hq;have l2:p.1<((q.map jR).length:Nat):=by simp;omega
    refine qb ?_;intros;refine WP rfl rfl rfl e3 (by simp;omega) rfl ?_;rw [kQ hq,show kp (zT n y cur (l.take j)) p.1.toNat p.2.toNat true=zT n y cur (l.take (j+1)) by rw [hstep,Qe,if_pos ht3]];refine qb ?_;intros;refine⟨k-1,oM,_,_,_,[],?wk5,j+1,oM,rfl,rfl,rfl⟩
    case wk5=>exact qm
   ·rw [show zT n y cur (l.take j)=zT n y cur (l.take (j+1)) by rw [hstep,Qe,if_neg (by rw [ht3];decide)]];refine qb ?_;intros;refine⟨k-1,oM,_,_,_,[],?wk6,j+1,oM,rfl,rfl,rfl⟩
    case wk6=>exact qm
  ·simp at ht2;have hsz:=Ql (w:=n) (h:=y) l hd;have hlen:y=(xj (zT n y cur l)).length:=by rw [yX,hsz.1]
   obtain rfl:j=l.length:=by omega
   rw [List.take_length];refine qr (qd (k:=4) rfl (qd (k:=5) rfl (qu _))) (zH _) ?_;refine ky 4 rfl qO qO ?_;refine qb ?_;intros;refine qf ⟨_,rfl,rfl,?_⟩;simp only [yx,hsz.1];rfl
theorem qax{w h:Nat}{d:qI}{l:List qc}(hw:w<=200)(hh:h<=200)(hd:Sz w h d)(hl:l.length<1000000):DK 37 [yx w h d,qz l] fun r=>r=yx w h (zT w h d l):=by
 refine qD qbA rfl qX fun Z0 lo=>?_;refine qb ?_;intros;refine qk rfl rfl (nB hw hh hd) ?_;rintro _ rfl;refine qb ?_;intros;refine qe rfl (fun ht=>by cases ht) (fun _=>?_);refine qb ?_;intros;refine jr rfl rfl (aR w h) ?_;rintro _ _ _ ⟨n,m,hn,hm,_,_,rfl,rfl,rfl⟩;obtain rfl:=Zq hn hw;obtain rfl:=Zq hm hh;refine qb ?_;intros;refine qr (qd (k:=1) rfl (qd (k:=2) rfl (qd (k:=4) rfl (qd (k:=5) rfl (qd (k:=19) rfl (qd (k:=20) rfl (qu _))))))) (qd (k:=0) rfl (qd (k:=1) rfl (qd (k:=4) rfl (qd (k:=5) rfl (qu _))))) ?_;refine ql (fun k E S nk=>∃y:Nat,y+k=m/\∃cur:qI,Cp n m d y 0 cur/\E=[(1,qz l),(2,.one (.ptr 0 0)),(4,.one (.ptr 1 0)),(5,.one (.ptr 5 0)),(19,.int m),(20,.int y)]/\S=[(0,.cells [.f (.c (.int .i64 n)),.f (.c (.int .i64 m)),.f (.sl 1 d.length ((xj d).map yh))]),(1,.cells [.f (.c (.int .i64 0)),.f (.c (.int .i64 0)),.f (.c .nils)]),(4,.tree (xj cur)),(5,.cells [.f (.c (.int .i64 n)),.f (.c (.int .i64 m)),.own 4 0 m 1])]/\nk=6) ⟨m,_,_,_,[],?wk,0,oM,blankD n m,Cp.start n m d,rfl,rfl,rfl⟩ ?_
 case wk=>exact qm
 rintro k E S nk ⟨y,hy,cur,hcur,rfl,rfl,rfl⟩;refine qb ?_;intros;refine qe rfl (fun ht=>?_) (fun ht=>?_)
 ·simp at ht;obtain⟨r,hr,hrl⟩:=hd.row (y:=y) oM;obtain⟨q,hq,hql⟩:=hcur.1.row (y:=y) oM;have hdl:=hd.1;have e1:=vj (yA hr);have e3:=yA hq;refine qb ?_;intros;refine qaj (l:=r.map jR) rfl rfl rfl e3 rfl ⟨by simp;omega,rfl,rfl⟩ rfl ?_;rw [Int.toNat_natCast,Wi];refine qb ?_;intros;refine⟨k-1,oM,_,_,_,[],?wk2,y+1,oM,cur.set y r,?_,rfl,rfl,rfl⟩
  case wk2=>exact qm
  have hyl:y<cur.length:=by rw [hcur.1.1];omega
  refine⟨⟨by simpa using hcur.1.1,fun t ht=>?_⟩,fun i j hi hj=>?_⟩
  ·rcases List.mem_or_eq_of_mem_set ht with h|h
   ·exact hcur.1.2 t h
   ·subst h;exact hrl
  ·simp only [y5,List.getElem?_set];by_cases e:y=j
   ·subst e;rw [if_pos rfl,if_pos hyl,if_pos (by omega),hr]
   ·rw [if_neg e];have:=hcur.2 i j hi hj;simp only [y5] at this;rw [this];by_cases h1:j<y\/(j=y/\i<0)
    ·rw [if_pos h1,if_pos (by omega)]
    ·rw [if_neg h1,if_neg (by omega)]
 ·simp at ht;obtain rfl:y=m:=by omega
  obtain rfl:=hcur.fin hd;refine qb ?_;intros;refine qr (qd (k:=2) rfl (qd (k:=4) rfl (qd (k:=5) rfl (qd (k:=35) rfl (qd (k:=36) rfl (qd (k:=37) rfl (qu _))))))) (zH _) ?_;refine ql (fun k E S nk=>∃j:Nat,j+k=l.length/\E=[(2,.one (.ptr 0 0)),(4,.one (.ptr 1 0)),(5,.one (.ptr 5 0)),(35,qz l),(36,.int l.length),(37,.int j)]/\S=[(0,.cells [.f (.c (.int .i64 n)),.f (.c (.int .i64 y)),.f (.sl 1 cur.length ((xj cur).map yh))]),(1,.cells [.f (.c (.int .i64 0)),.f (.c (.int .i64 0)),.f (.c .nils)]),(4,.tree (xj (zT n y cur (l.take j)))),(5,.cells [.f (.c (.int .i64 n)),.f (.c (.int .i64 y)),.own 4 0 y 1])]/\nk=6) ⟨l.length,_,_,_,[],?wk4,0,oM,rfl,rfl,rfl⟩ ?_
  case wk4=>exact qm
  rintro k E S nk ⟨j,hj,rfl,rfl,rfl⟩;refine qb ?_;intros;refine qe rfl (fun ht2=>?_) (fun ht2=>?_)
  ·simp at ht2;obtain⟨p,hp⟩:∃p,l[j]?=some p:=⟨_,zge oM⟩;have e1:=xd hp;have hstep:=aK (w:=n) (h:=y) (d:=cur) hp;by_cases hon:0<=p.1/\p.1<n/\0<=p.2/\p.2<y
   ·have g1:decide (0<=p.1)=true:=by simpa using hon.1
    have g2:decide (p.1<(n:Int))=true:=by simpa using hon.2.1
    have g3:decide (0<=p.2)=true:=by simpa using hon.2.2.1
    have g4:decide (p.2<(y:Int))=true:=by simpa using hon.2.2.2
    have ht3:XT n y p=true:=by simp [XT,hon]
    have hsz:=Ql (w:=n) (h:=y) (l.take j) hd;obtain⟨q,hq,hql⟩:=hsz.row (y:=p.2.toNat) oM;have e3:=yA hq;have l2:p.1<((q.map jR).length:Nat):=by simp;omega
    refine qU ?_;intros;refine qe rfl (fun _=>?_) (fun ht=>by cases ht);refine qb ?_;intros;refine WP rfl rfl rfl e3 (by simp;omega) rfl ?_;rw [kQ hq,show kp (zT n y cur (l.take j)) p.1.toNat p.2.toNat true=zT n y cur (l.take (j+1)) by rw [hstep,Qe,if_pos ht3]];refine qb ?_;intros;refine⟨k-1,oM,_,_,_,[],?wk5,j+1,oM,rfl,rfl,rfl⟩
    case wk5=>exact qm
   ·have ht3:Qe n y (zT n y cur (l.take j)) p=zT n y cur (l.take j):=by
     rw [Qe,if_neg];simpa [XT] using hon
    rw [ht3] at hstep;have fin:∀Q:Exit->qp->Bx->Nat->Prop,Q .normal [(2,.one (.ptr 0 0)),(4,.one (.ptr 1 0)),(5,.one (.ptr 5 0)),(35,qz l),(36,.int l.length),(37,.int j)] [(0,.cells [.f (.c (.int .i64 n)),.f (.c (.int .i64 y)),.f (.sl 1 cur.length ((xj cur).map yh))]),(1,.cells [.f (.c (.int .i64 0)),.f (.c (.int .i64 0)),.f (.c .nils)]),(4,.tree (xj (zT n y cur (l.take j)))),(5,.cells [.f (.c (.int .i64 n)),.f (.c (.int .i64 y)),.own 4 0 y 1])] 7->DPS (Par.base Tryz.prog 1 (H00 1) Z0 lo) C8.n (.seq (.ops C7 0) (.seq (.ops C6 0) (.cond (.t 62) (.ops mB 10) .skip))) Q [(2,.one (.ptr 0 0)),(4,.one (.ptr 1 0)),(5,.one (.ptr 5 0)),(35,qz l),(36,.int l.length),(37,.int j)] [(0,.cells [.f (.c (.int .i64 n)),.f (.c (.int .i64 y)),.f (.sl 1 cur.length ((xj cur).map yh))]),(1,.cells [.f (.c (.int .i64 0)),.f (.c (.int .i64 0)),.f (.c .nils)]),(4,.tree (xj (zT n y cur (l.take j)))),(5,.cells [.f (.c (.int .i64 n)),.f (.c (.int .i64 y)),.own 4 0 y 1])] 6:=by
     intro Q hQ;have out:∀{E:qp} {S:Bx},lk E 62=some (.bool false)->yC [(2,.one (.ptr 0 0)),(4,.one (.ptr 1 0)),(5,.one (.ptr 5 0)),(35,qz l),(36,.int l.length),(37,.int j)] E->yC [(0,.cells [.f (.c (.int .i64 n)),.f (.c (.int .i64 y)),.f (.sl 1 cur.length ((xj cur).map yh))]),(1,.cells [.f (.c (.int .i64 0)),.f (.c (.int .i64 0)),.f (.c .nils)]),(4,.tree (xj (zT n y cur (l.take j)))),(5,.cells [.f (.c (.int .i64 n)),.f (.c (.int .i64 y)),.own 4 0 y 1])] S->DPS (Par.base Tryz.prog 1 (H00 1) Z0 lo) C8.n (.cond (.t 62) (.ops mB 10) .skip) Q E S 7:=fun h1 h2 h3=>
      qe (t:=false) h1 (fun h=>by cases h) fun _=>qr h2 h3 (Xt hQ)
     by_cases h1:0<=p.1
     ·have g1:decide (0<=p.1)=true:=by simpa using h1
      by_cases h2:p.1<(n:Int)
      ·have g2:decide (p.1<(n:Int))=true:=by simpa using h2
       by_cases h3:0<=p.2
       ·have g3:decide (0<=p.2)=true:=by simpa using h3
        have g4:decide (p.2<(y:Int))=false:=by simp;omega
        refine qU ?_;intros;exact out rfl (qd rfl (qd rfl (qd rfl (qd rfl (qd rfl (qd rfl (qu _))))))) (qd rfl (qd rfl (qd rfl (qd rfl (qu _)))))
       ·have g3:decide (0<=p.2)=false:=by simpa using h3
        refine qU ?_;intros;exact out rfl (qd rfl (qd rfl (qd rfl (qd rfl (qd rfl (qd rfl (qu _))))))) (qd rfl (qd rfl (qd rfl (qd rfl (qu _)))))
      ·have g2:decide (p.1<(n:Int))=false:=by simpa using h2
       refine qU ?_;intros;exact out rfl (qd rfl (qd rfl (qd rfl (qd rfl (qd rfl (qd rfl (qu _))))))) (qd rfl (qd rfl (qd rfl (qd rfl (qu _)))))
     ·have g1:decide (0<=p.1)=false:=by simpa using h1
      refine qU ?_;intros;exact out rfl (qd rfl (qd rfl (qd rfl (qd rfl (qd rfl (qd rfl (qu _))))))) (qd rfl (qd rfl (qd rfl (qd rfl (qu _)))))
    refine Xt ?_;refine js ?_;refine Qo ?_;refine qr (qd (k:=2) rfl (qd (k:=4) rfl (qd (k:=5) rfl (qd (k:=35) rfl (qd (k:=36) rfl (qd (k:=37) rfl (qu _))))))) (zH _) ?_;refine fin _ ?_;rw [<-hstep];refine qb ?_;intros;refine⟨k-1,oM,_,_,_,[],?wk6,j+1,oM,rfl,rfl,rfl⟩
    case wk6=>exact qm
  ·simp at ht2;have hsz:=Ql (w:=n) (h:=y) l hd;have hlen:y=(xj (zT n y cur l)).length:=by rw [yX,hsz.1]
   obtain rfl:j=l.length:=by omega
   rw [List.take_length];refine qr (qd (k:=4) rfl (qd (k:=5) rfl (qu _))) (zH _) ?_;refine ky 4 rfl qO qO ?_;refine qb ?_;intros;refine qf ⟨_,rfl,rfl,?_⟩;simp only [yx,hsz.1];rfl
def wD(d:qI)(w y:Nat):List qc:=((List.range w).filter (y5 d · y)).map fun (x:Nat)=>((x:Int),(y:Int))
def zp(d:qI)(w h:Nat):List qc:=(List.range h).flatMap (wD d w)
theorem XA(d:qI)(x y:Nat):wD d (x+1) y=wD d x y++if y5 d x y=true then [((x:Int),(y:Int))] else []:=by
 simp only [wD,List.range_succ,List.filter_append,List.map_append];congr 1;by_cases h:y5 d x y=true
 ·simp [h]
 ·simp [h]
theorem Je(d:qI)(y:Nat):∀w,(wD d w y).length<=w
 |0=>by simp [wD]
 |w+1=>by
  rw [XA,List.length_append];have:=Je d y w;split<;>simp<;>omega
theorem ZD(d:qI)(w y:Nat):zp d w (y+1)=zp d w y++wD d w y:=by simp [zp,List.range_succ]
theorem XB(d:qI)(w:Nat):∀h,(zp d w h).length<=h*w
 |0=>by simp [zp]
 |h+1=>by
  have h1:=XB d w h;have h2:=Je d h w;rw [ZD,List.length_append,Nat.add_mul];omega
theorem D3{w h:Nat}{d:qI}(hw:w<=200)(hh:h<=200)(hd:Sz w h d):DK 51 [yx w h d] fun r=>r=qz (zp d w h):=by
 refine qD qbp rfl qX fun Z0 lo=>?_;have hl:=hd.1;refine qb ?_;intros;refine vB 3 2 rfl ?_;refine ql (fun k E S nk=>∃y:Nat,y+k=h/\E=[(3,.one (.own 0 0 (zp d w y).length 2)),(9,.one (.f (.sl 1 d.length ((xj d).map yh)))),(10,.int d.length),(11,.int y)]/\S=[(0,.data ((zp d w y).flatMap qh))]/\nk=1) ⟨h,_,_,_,[(0,1)],?wk,0,oM,rfl,rfl,rfl⟩ ?_
 case wk=>exact qm
 rintro k E S nk ⟨y,hy,rfl,rfl,rfl⟩;have hpl:(zp d w y).length<=200*200:=Nat.le_trans (XB d w y) (Nat.mul_le_mul oM hw);refine qb ?_;intros;refine qe rfl (fun ht=>?_) (fun ht=>?_)
 ·simp at ht;obtain⟨r,hr,hrl⟩:=hd.row (y:=y) oM;have e1:=vj (yA hr);refine qb ?_;intros;refine ql (fun k2 E S nk=>∃x:Nat,x+k2=w/\∃l:List qc,l=zp d w y++wD d x y/\E=[(3,.one (.own 0 0 l.length 2)),(4,.int y),(9,.one (.f (.sl 1 d.length ((xj d).map yh)))),(10,.int d.length),(11,.int y),(16,.one (.f (yh (r.map jR)))),(17,.int (r.map jR).length),(18,.int x)]/\S=[(0,.data (l.flatMap qh))]/\nk=1) ⟨w,_,_,_,[],?wk1,0,by omega,zp d w y,by simp [wD],rfl,rfl,rfl⟩ ?_
  case wk1=>exact qm
  rintro k2 E S nk ⟨x,hx,l,hll,rfl,rfl,rfl⟩;have hl2:l.length<=200*200+200:=by
   have:=Je d y x;rw [hll,List.length_append];omega
  refine qb ?_;intros;refine qe rfl (fun ht2=>?_) (fun ht2=>?_)
  ·simp at ht2;obtain⟨r',hr',_,hrx⟩:=hd.cell (x:=x) (y:=y) oM oM;rw [hr] at hr';obtain rfl:=zsi hr';have e2:=YM (ZV hrx);have l1:x<(r.map jR).length:=by simp;omega
   refine qb ?_;intros;refine qe (t:=y5 d x y) rfl (fun ht3=>?_) (fun ht3=>?_)
   ·refine qb ?_;intros;refine qV (l':=l.flatMap qh) (q:=qh ((x:Int),(y:Int))) rfl rfl rfl (qH _ (xb l)) ⟨rfl,rfl,_,rfl,rfl⟩ oM oM (by decide) rfl ?_;rw [show l.flatMap qh++qh ((x:Int),(y:Int))=(l++[((x:Int),(y:Int))]).flatMap qh by simp,show l.length+1=(l++[((x:Int),(y:Int))]).length by simp];refine qb ?_;intros;refine⟨k2-1,oM,_,_,_,[(0,2)],?wk2,x+1,oM,l++[((x:Int),(y:Int))],?_,rfl,rfl,rfl⟩
    case wk2=>exact qm
    rw [XA,if_pos ht3,hll,List.append_assoc]
   ·refine qb ?_;intros;refine⟨k2-1,oM,_,_,_,[],?wk3,x+1,oM,l,?_,rfl,rfl,rfl⟩
    case wk3=>exact qm
    rw [XA,if_neg (by rw [ht3];decide),hll,List.append_nil]
  ·simp at ht2;obtain rfl:x=w:=by omega
   rw [<-ZD] at hll;subst hll;refine qb ?_;intros;refine⟨k-1,oM,_,_,_,[],?wk4,y+1,oM,rfl,rfl,rfl⟩
   case wk4=>exact qm
 ·simp at ht;obtain rfl:y=h:=by omega
  have hflat:=xb (zp d w y);refine qr (qd (k:=3) rfl (qu _)) (qd (k:=0) rfl (qu _)) ?_;refine xt 0 rfl qO qO ?_;refine qb ?_;intros;exact qf ⟨_,rfl,rfl,rfl⟩
theorem tm{a:Int}{b:Int}(h:0<=a):a.tmod b=a % b:=Int.tmod_eq_emod_of_nonneg h
def Dn(r i k x y:Nat):Prop:=y/3<r\/(y/3=r/\(x/2<i\/(x/2=i/\x % 2*3+y % 3<k)))
instance (r i k x y:Nat):Decidable (Dn r i k x y):=by unfold Dn;infer_instance
theorem Jd{d:qI}{w y:Nat}{p:qc}:p∈wD d w y↔∃x:Nat,x<w/\y5 d x y=true/\p=((x:Int),(y:Int)):=by
 simp only [wD,List.mem_map,List.mem_filter,List.mem_range];constructor
 ·rintro ⟨x,⟨h1,h2⟩,rfl⟩;exact⟨x,h1,h2,rfl⟩
 ·rintro ⟨x,h1,h2,rfl⟩;exact⟨x,⟨h1,h2⟩,rfl⟩
theorem v6{d:qI}{w h:Nat}{p:qc}:p∈zp d w h↔∃x y:Nat,x<w/\y<h/\y5 d x y=true/\p=((x:Int),(y:Int)):=by
 simp only [zp,List.mem_flatMap,List.mem_range,Jd];constructor
 ·rintro ⟨y,hy,x,hx,hd,rfl⟩;exact⟨x,y,hx,hy,hd,rfl⟩
 ·rintro ⟨x,y,hx,hy,hd,rfl⟩;exact⟨y,hy,x,hx,hd,rfl⟩
theorem KX(d:qI)(y:Nat):∀w,qK (wD d w y)
 |0=>by simp [wD]
 |w+1=>by
  rw [XA,qK,List.pairwise_append];refine⟨KX d y w,?_,fun a ha b hb=>?_⟩
  ·split<;>simp
  ·obtain⟨x,hx,_,rfl⟩:=Jd.1 ha;split at hb
   ·simp at hb;subst hb;rw [jL];simp;omega
   ·simp at hb
theorem kW(d:qI)(w:Nat):∀h,qK (zp d w h)
 |0=>by simp [zp]
 |h+1=>by
  rw [ZD,qK,List.pairwise_append];refine⟨kW d w h,KX d h w,fun a ha b hb=>?_⟩;obtain⟨x,y,_,hy,_,rfl⟩:=v6.1 ha;obtain⟨x',_,_,rfl⟩:=Jd.1 hb;rw [jL];simp;omega
theorem mV{w h:Nat}:∀(l:List qc) {d:qI},Sz w h d->∀x y,x<w->y<h->(y5 (zT w h d l) x y=true↔y5 d x y=true\/((x:Int),(y:Int))∈l)
 |[],d,hd,x,y,hx,hy=>by simp [zT]
 |p::l,d,hd,x,y,hx,hy=>by
  have ih:=mV l (iP hd p) x y hx hy;have e:zT w h d (p::l)=zT w h (Qe w h d p) l:=rfl;rw [e,ih,List.mem_cons];have h1:y5 (Qe w h d p) x y=true↔y5 d x y=true\/((x:Int),(y:Int))=p:=by
   unfold Qe;by_cases hon:XT w h p=true
   ·have hp:0<=p.1/\p.1<w/\0<=p.2/\p.2<h:=by simpa [XT] using hon
    rw [if_pos hon,rN hd (by omega) (by omega)];by_cases e:x=p.1.toNat/\y=p.2.toNat
    ·rw [if_pos e];have:((x:Int),(y:Int))=p:=Prod.ext (by simp only;omega) (by simp only;omega);simp [this]
    ·rw [if_neg e];have:¬((x:Int),(y:Int))=p:=fun h=>e (by rw [<-h];simp);simp [this]
   ·rw [if_neg hon];have:¬((x:Int),(y:Int))=p:=fun h=>hon (by rw [<-h];simp [XT];omega);simp [this]
  rw [h1];constructor
  ·rintro ((h|h)|h)
   ·exact .inl h
   ·exact .inr (.inl h)
   ·exact .inr (.inr h)
  ·rintro (h|h|h)
   ·exact .inl (.inl h)
   ·exact .inl (.inr h)
   ·exact .inr h
def z7(w h:Nat)(d:qI)(parts:List (List qc)):qI:=parts.foldl (zT w h) d
theorem Zg{w h:Nat}:∀(parts:List (List qc)) {d:qI},Sz w h d->Sz w h (z7 w h d parts)
 |[],_,hd=>hd
 |a::l,_,hd=>Zg l (Ql a hd)
theorem Wp(w h:Nat)(d:qI)(l:List (List qc))(a:List qc):z7 w h d (l++[a])=zT w h (z7 w h d l) a:=by
 rw [z7,z7,List.foldl_append];rfl
theorem kw{w h:Nat}:∀(parts:List (List qc)) {d:qI},Sz w h d->∀x y,x<w->y<h->(y5 (z7 w h d parts) x y=true↔y5 d x y=true\/∃a∈parts,((x:Int),(y:Int))∈a)
 |[],d,hd,x,y,_,_=>by simp [z7]
 |a::l,d,hd,x,y,hx,hy=>by
  have ih:=kw l (Ql a hd) x y hx hy;rw [show z7 w h d (a::l)=z7 w h (zT w h d a) l from rfl,ih,mV a hd x y hx hy];constructor
  ·rintro ((h1|h1)|⟨b,hb,h1⟩)
   ·exact .inl h1
   ·exact .inr ⟨a,by simp,h1⟩
   ·exact .inr ⟨b,by simp [hb],h1⟩
  ·rintro (h1|⟨b,hb,h1⟩)
   ·exact .inl (.inl h1)
   ·rcases List.mem_cons.1 hb with rfl|hb
    ·exact .inl (.inr h1)
    ·exact .inr ⟨b,hb,h1⟩
theorem rM{w h:Nat}{d d':qI}(hd:Sz w h d)(hd':Sz w h d')(he:∀x y,x<w->y<h->(y5 d x y=true↔y5 d' x y=true)):d=d':=hd.ext hd' fun x y hx hy=>Bool.eq_iff_iff.2 (he x y hx hy)
theorem oK{w h:Nat}{d d':qI}(hd:Sz w h d)(hd':Sz w h d')(he:zp d w h=zp d' w h):d=d':=rM hd hd' fun x y hx hy=>by
 have h1:∀e:qI,((x:Int),(y:Int))∈zp e w h↔y5 e x y=true:=fun e=>by
  rw [v6];constructor
  ·rintro ⟨a,b,_,_,h3,h4⟩;obtain⟨h5,h6⟩:=Prod.mk.inj h4;obtain rfl:x=a:=by omega
   obtain rfl:y=b:=by omega
   exact h3
  ·intro h3;exact⟨x,y,hx,hy,h3,rfl⟩
 rw [<-h1,he,h1]
def wp(p:Pic)(parts:List (List qc)):qI:=z7 p.w.toNat p.h.toNat (blankD p.w.toNat p.h.toNat) parts
theorem Zs(p:Pic)(parts:List (List qc)):Sz p.w.toNat p.h.toNat (wp p parts):=Zg parts (Sz.blankD _ _)
theorem Jj{p:Pic}{a b:List (List qc)}(h:∀x,(∃c∈a,x∈c)↔∃c∈b,x∈c):wp p a=wp p b:=rM (Zs p a) (Zs p b) fun x y hx hy=>by
 rw [wp,wp,kw _ (Sz.blankD _ _) x y hx hy,kw _ (Sz.blankD _ _) x y hx hy,WY];simp only [Bool.false_eq_true,false_or];exact h _
theorem oA{p:Pic}{parts:List (List qc)}(hin:∀a∈parts,∀q∈a,(0<=q.1/\q.1<p.w)/\0<=q.2/\q.2<p.h):zp (wp p parts) p.w.toNat p.h.toNat=qt parts.flatten:=(kW _ _ _).ext (xi _) fun q=>by
 rw [qP,List.mem_flatten,v6];constructor
 ·rintro ⟨x,y,hx,hy,h1,rfl⟩;rw [wp,kw _ (Sz.blankD _ _) x y hx hy,WY] at h1;simpa using h1
 ·rintro ⟨a,ha,hq⟩;have:=hin a ha q hq;refine⟨q.1.toNat,q.2.toNat,by omega,by omega,?_,Prod.ext (by simp only;omega) (by simp only;omega)⟩;rw [wp,kw _ (Sz.blankD _ _) _ _ (by omega) (by omega)];refine .inr ⟨a,ha,?_⟩;rw [show (((q.1.toNat:Nat):Int),((q.2.toNat:Nat):Int))=q from Prod.ext (by simp only;omega) (by simp only;omega)];exact hq
def zi(w h:Int)(d:qI):List DC:=[.f (.c (.int .i64 w)),.f (.c (.int .i64 h)),.f (.sl 1 d.length ((xj d).map yh))]
def YS:DV:=.agg [.f (.c (.int .i64 0)),.f (.c (.int .i64 0)),.f (.c .nils)]
theorem e7{p:Pic}(hw:0<=p.w/\p.w<=200)(hh:0<=p.h/\p.h<=200){parts:List (List qc)}(hn:parts.length<1000)(hs:∀a∈parts,a.length<1000000):DK 38 [yi p,yn parts] fun d=>d=yx p.w p.h (wp p parts):=by
 refine qD qbz rfl qX fun Z0 lo=>?_;have hsz:=fun k=>Zg (w:=p.w.toNat) (h:=p.h.toNat) (parts.take k) (Sz.blankD p.w.toNat p.h.toNat);have hwn:((p.w.toNat:Nat):Int)=p.w:=by omega
 have hhn:((p.h.toNat:Nat):Int)=p.h:=by omega
 refine qb ?_;intros;refine jr rfl rfl (Wu p.w p.h) ?_;rintro _ _ _ ⟨n,m,hn',hm',_,_,rfl,rfl,rfl⟩;have en:p.w.toNat=n:=by unfold jI at hn';omega
 have em:p.h.toNat=m:=by unfold jI at hm';omega
 subst en em;have hlen:p.h.toNat=(xj (blankD p.w.toNat p.h.toNat)).length:=by rw [yX];simp [blankD]
 refine qb ?_;intros;refine qr (qd (k:=1) rfl (qd (k:=4) rfl (qd (k:=5) rfl (qd (k:=6) rfl (qu _))))) (qd (k:=1) rfl (qd (k:=4) rfl (qd (k:=5) rfl (qu _)))) ?_;refine ky 4 rfl qO qO ?_;have hg:some (Bk.cells [.f (.c (.int .i64 (p.w.toNat:Int))),.f (.c (.int .i64 (p.h.toNat:Int))),.f (.sl 1 p.h.toNat ((xj (blankD p.w.toNat p.h.toNat)).map yh))])=some (Bk.cells (zi p.w p.h (blankD p.w.toNat p.h.toNat))):=by
  rw [hwn,hhn,zi,show (blankD p.w.toNat p.h.toNat).length=p.h.toNat by simp [blankD]]
 refine qr (E0:=[(1,yn parts),(4,.one (.ptr 1 0)),(5,.one (.ptr 5 0)),(6,.int 0)]) (S0:=[(1,.cells [.f (.c (.int .i64 0)),.f (.c (.int .i64 0)),.f (.c .nils)]),(5,.cells (zi p.w p.h (blankD p.w.toNat p.h.toNat)))])
  (qd rfl (qd rfl (qd rfl (qd rfl (qu _))))) (qd rfl (qd hg (qu _))) ?_
 refine ql (fun m E S nk=>∃i:Nat,i+m=parts.length/\E=[(1,yn parts),(4,.one (.ptr 1 0)),(5,.one (.ptr 5 0)),(6,.int i)]/\S=[(1,.cells [.f (.c (.int .i64 0)),.f (.c (.int .i64 0)),.f (.c .nils)]),(5,.cells (zi p.w p.h (z7 p.w.toNat p.h.toNat (blankD p.w.toNat p.h.toNat) (parts.take i))))]/\nk=6)
  ⟨parts.length,_,_,_,[],?wk,0,oM,rfl,rfl,rfl⟩ ?_
 case wk=>exact qm
 rintro m E S nk ⟨i,hi,rfl,rfl,rfl⟩;refine qb ?_;intros;refine qe rfl (fun ht=>?_) (fun ht=>?_)
 ·have ht:i<parts.length:=by have:=xC ht;omega
  obtain⟨a,ha⟩:∃a,parts[i]?=some a:=⟨_,zge ht⟩;have e1:=j7 ha;have hal:=hs a (zmg ha);have hst:z7 p.w.toNat p.h.toNat (blankD p.w.toNat p.h.toNat) (parts.take (i+1))=zT p.w.toNat p.h.toNat (z7 p.w.toNat p.h.toNat (blankD p.w.toNat p.h.toNat) (parts.take i)) a:=by
   rw [show parts.take (i+1)=parts.take i++[a] by rw [List.take_add_one,ha];rfl,Wp]
  have hp:=RP (l:=a) oM oM (hsz i) hal;rw [hwn,hhn,<-hst] at hp;refine qb ?_;intros;refine qk rfl rfl hp ?_;rintro _ rfl;refine qb ?_;intros;refine⟨m-1,oM,_,_,_,[],?wk1,i+1,oM,rfl,rfl,rfl⟩
  case wk1=>exact qm
 ·have ht:i=parts.length:=by have:=xK ht;omega
  subst ht;rw [List.take_length];refine qb ?_;intros;exact qf ⟨_,rfl,rfl,rfl⟩
theorem NX{d d':qI}{k:Nat}{r r':List Bool}(h1:d[k]?=some r)(h2:d'[k]?=some r')(ht:d.take k=d'.take k)(hr:r=r'):d.take (k+1)=d'.take (k+1):=by
 rw [List.take_add_one,List.take_add_one,h1,h2,ht,hr]
theorem rQ{w h:Nat}{d d':qI}(hw:w<=200)(hh:h<=200)(hd:Sz w h d)(hd':Sz w h d'):DK 11 [yx w h d,yx w h d'] fun r=>r=.bool (decide (d=d')):=by
 refine qD qbT rfl qX fun Z0 lo=>?_;have hl:=hd.1;have hl':=hd'.1;have g1:((w:Int)!=w)=false:=by simp
 have g2:((h:Int)!=h)=false:=by simp
 have g3:(((d.length:Nat):Int)!=((d'.length:Nat):Int))=false:=by rw [hl,hl'];simp
 refine qU ?_;intros;refine qe rfl (fun ht=>by cases ht) (fun _=>?_);refine qb ?_;intros;refine ql (fun m E S nk=>∃k:Nat,k+m=d.length/\d.take k=d'.take k/\E=[(2,.one (.ptr 0 0)),(3,.one (.ptr 1 0)),(5,.int k)]/\S=[(0,.cells (zi w h d)),(1,.cells (zi w h d'))]/\nk=2) ⟨d.length,_,_,_,[],?wk,0,oM,rfl,rfl,rfl,rfl⟩ ?_
 case wk=>exact qm
 rintro m E S nk ⟨k,hk,htk,rfl,rfl,rfl⟩;refine qb ?_;intros;refine qe rfl (fun ht=>?_) (fun ht=>?_)
 ·have ht:k<d.length:=by have:=xC ht;omega
  obtain⟨r,hr,hrl⟩:=hd.row (y:=k) oM;obtain⟨r',hr',hrl'⟩:=hd'.row (y:=k) oM;have e1:=vj (yA hr);have e2:=vj (yA hr');have e3:((((r.map jR).length:Nat):Int)!=(((r'.map jR).length:Nat):Int))=false:=by simp [hrl,hrl']
  refine qU ?_;intros;refine qe rfl (fun ht=>by cases ht) (fun _=>?_);refine qb ?_;intros;refine ql (fun m2 E S nk=>∃j:Nat,j+m2=r.length/\r.take j=r'.take j/\E=[(2,.one (.ptr 0 0)),(3,.one (.ptr 1 0)),(5,.int k),(6,.int j)]/\S=[(0,.cells (zi w h d)),(1,.cells (zi w h d'))]/\nk=2) ⟨r.length,_,_,_,[],?wk1,0,oM,rfl,rfl,rfl,rfl⟩ ?_
  case wk1=>exact qm
  rintro m2 E S nk ⟨j,hj,htj,rfl,rfl,rfl⟩;refine qb ?_;intros;refine qe rfl (fun ht2=>?_) (fun ht2=>?_)
  ·simp at ht2;obtain⟨b,hb⟩:∃b,r[j]?=some b:=⟨_,zge oM⟩;obtain⟨b',hb'⟩:∃b,r'[j]?=some b:=⟨_,zge oM⟩;have e4:=YM (ZV hb);have e5:=YM (ZV hb');have hlm:j<(r.map jR).length:=by simp;omega
   have hlm':j<(r'.map jR).length:=by simp;omega
   refine qb ?_;intros;refine qe (t:=b !=b') rfl (fun he=>?_) (fun he=>?_)
   ·refine qb ?_;intros;refine qf ⟨_,rfl,rfl,?_⟩;rw [decide_eq_false];intro e;subst e;rw [hr] at hr';obtain rfl:=zsi hr';rw [hb] at hb';obtain rfl:=zsi hb';simp at he
   ·have he:b=b':=by simpa using he
    subst he;refine qb ?_;intros;refine⟨m2-1,oM,_,_,_,[],?wk2,j+1,oM,?_,rfl,rfl,rfl⟩
    case wk2=>exact qm
    rw [List.take_add_one,List.take_add_one,hb,hb',htj]
  ·simp at ht2;obtain rfl:j=r.length:=by omega
   rw [List.take_length,List.take_of_length_le (by omega)] at htj;refine qb ?_;intros;refine⟨m-1,oM,_,_,_,[],?wk3,k+1,oM,NX hr hr' htk htj,rfl,rfl,rfl⟩
   case wk3=>exact qm
 ·have ht:k=d.length:=by have:=xK ht;omega
  subst ht;rw [List.take_length,List.take_of_length_le (by omega)] at htk;refine qb ?_;intros;refine qf ⟨_,rfl,rfl,?_⟩;rw [decide_eq_true htk]
end Go.Ag

namespace Go.Ag
open Go.Ab Go.Proofs
def Vp(w h:Int)(d:qI)(r:qc):Bool:=XT w h r&&y5 d r.1.toNat r.2.toNat
def dZ(w h:Int)(d:qI)(i:Nat)(q:qc):Bool:=(qS i q).all (Vp w h d)
def Xh(w h:Int)(d:qI)(i y n:Nat):List qc:=((List.range n).map fun x=>(((x:Nat):Int),((y:Nat):Int))).filter (dZ w h d i)
def Wq(w h:Int)(d:qI)(i nw n:Nat):List qc:=(List.range n).flatMap fun y=>Xh w h d i y nw
def QR(w h:Int)(d:qI)(i:Nat):List qc:=Wq w h d i ((w/2).toNat-1) (h/3).toNat
section
variable{w h:Int}{d:qI}{i y n nw:Nat}
theorem TY(e:dZ w h d i ((n:Int),(y:Int))=true):Xh w h d i y (n+1)=Xh w h d i y n++[((n:Int),(y:Int))]:=by
 simp [Xh,List.range_succ,e]
theorem TZ(e:dZ w h d i ((n:Int),(y:Int))=false):Xh w h d i y (n+1)=Xh w h d i y n:=by
 simp [Xh,List.range_succ,e]
theorem d8:Wq w h d i nw (n+1)=Wq w h d i nw n++Xh w h d i n nw:=by
 simp [Wq,List.range_succ]
theorem iD:(Xh w h d i y n).length<=n:=by
 unfold Xh;exact Nat.le_trans (List.length_filter_le _ _) (by simp)
theorem Vy:∀n,(Wq w h d i nw n).length<=n*nw
 |0=>by simp [Wq]
 |n+1=>by
  have h1:=Vy n;have h2:=iD (w:=w) (h:=h) (d:=d) (i:=i) (y:=n) (n:=nw);rw [d8,List.length_append,Nat.add_mul];omega
end
theorem IL{l:List qc}{k:Nat}{r:qc}{f:qc->Bool}(h:l[k]?=some r):(l.take (k+1)).all f=((l.take k).all f&&f r):=by
 rw [List.take_add_one,h,List.all_append];simp
theorem HP{p:Pic}{i:Nat}{d:qI}(hv:qx p=true)(hi:i<8)(hd:Sz p.w.toNat p.h.toNat d):DK 75 [yi p,yx p.w p.h d,.int i] fun r=>r=qz (QR p.w p.h d i):=by
 refine qD qa3 rfl qX fun Z0 lo=>?_;have hh:=(qL hv).2.2.1;simp only [yb,xr,xQ] at hh;obtain⟨⟨⟨hw1,hw2⟩,hw3⟩,⟨hh1,hh2⟩,hh3⟩:=hh;rw [Int.tmod_eq_emod_of_nonneg (by omega)] at hw3 hh3;obtain⟨nw,hnw⟩:∃nw:Nat,nw=(p.w/2).toNat-1:=⟨_,rfl⟩;obtain⟨nh,hnh⟩:∃nh:Nat,nh=(p.h/3).toNat:=⟨_,rfl⟩;have hw4:p.w=2*((nw:Int)+1):=by omega
 have hh4:p.h=3*(nh:Int):=by omega
 have hnw2:nw<30:=by omega
 have hnh2:nh<=20:=by omega
 refine qb ?_;intros;refine ql (fun m E S nk=>∃(y:Nat) (out:List qc),y+m=nh/\out=Wq p.w p.h d i nw y/\E=[(2,.int i),(3,.one (.ptr 0 0)),(4,.one (.ptr 1 0)),(7,.one (.own 2 0 out.length 2)),(8,.int y)]/\S=[(0,.cells (yj p)),(1,.cells (zi p.w p.h d)),(2,.data (out.flatMap qh))]/\nk=3)
  ⟨nh,_,_,_,[],?wk,0,[],oM,rfl,rfl,rfl,rfl⟩ ?_
 case wk=>exact qm
 rintro m E S nk ⟨y,out,hy,ho,rfl,rfl,rfl⟩;have w1:IntKind.i64.wrap ((y:Int)+1)=(y:Int)+1:=qq oM oM;have w2:IntKind.i64.wrap (3*((y:Int)+1))=3*((y:Int)+1):=qq oM oM;refine qb ?_;intros;refine qe rfl (fun ht=>?_) (fun ht=>?_)
 ·have ht:=xC ht;rw [w1,w2] at ht;have hy2:y<nh:=by omega
  have hcl:=Vy (w:=p.w) (h:=p.h) (d:=d) (i:=i) (nw:=nw) y;have hcm:y*nw<=20*30:=Nat.mul_le_mul oM oM;refine qb ?_;intros;refine ql (fun m E S nk=>∃(x:Nat) (o2:List qc),x+m=nw/\o2=out++Xh p.w p.h d i y x/\E=[(2,.int i),(3,.one (.ptr 0 0)),(4,.one (.ptr 1 0)),(7,.one (.own 2 0 o2.length 2)),(8,.int y),(9,.int x)]/\S=[(0,.cells (yj p)),(1,.cells (zi p.w p.h d)),(2,.data (o2.flatMap qh))]/\nk=3)
   ⟨nw,_,_,_,[],?wk2,0,out,by omega,by simp [Xh],rfl,rfl,rfl⟩ ?_
  case wk2=>exact qm
  rintro m2 E S nk ⟨x,o2,hx,ho2,rfl,rfl,rfl⟩;have w3:IntKind.i64.wrap ((x:Int)+2)=(x:Int)+2:=qq oM oM;have w4:IntKind.i64.wrap (2*((x:Int)+2))=2*((x:Int)+2):=qq oM oM;have hrl:=iD (w:=p.w) (h:=p.h) (d:=d) (i:=i) (y:=y) (n:=x);have hol:o2.length<=1000:=by rw [ho2,List.length_append,ho];omega
  have hfl:=xb o2;refine qb ?_;intros;refine qe rfl (fun ht2=>?_) (fun ht2=>?_)
  ·have ht2:=xC ht2;rw [w3,w4] at ht2;have hx2:x<nw:=by omega
   refine qb ?_;intros;refine qk rfl rfl (ki (i:=i) (q:=((x:Int),(y:Int))) hi (by unfold qC;simp only;omega)) ?_;rintro _ rfl;obtain⟨l,hl⟩:∃l,l=qS i ((x:Int),(y:Int)):=⟨_,rfl⟩;have hll:=zw i ((x:Int),(y:Int));have hrs:dZ p.w p.h d i ((x:Int),(y:Int))=l.all (Vp p.w p.h d):=by rw [hl];rfl
   rw [<-hl] at hll ⊢;clear hl;refine qb ?_;intros;refine ql (fun m E S nk=>∃(k:Nat) (b:Bool),k+m=l.length/\b=(l.take k).all (Vp p.w p.h d)/\E=[(2,.int i),(3,.one (.ptr 0 0)),(4,.one (.ptr 1 0)),(7,.one (.own 2 0 o2.length 2)),(8,.int y),(9,.int x),(10,.one (.ptr 3 0)),(11,qz l),(12,.bool b),(13,.int k)]/\S=[(0,.cells (yj p)),(1,.cells (zi p.w p.h d)),(2,.data (o2.flatMap qh)),(3,.cells [.f (.c (.int .i64 x)),.f (.c (.int .i64 y))])]/\nk=4)
    ⟨l.length,_,_,_,[],?wk3,0,true,oM,rfl,rfl,rfl,rfl⟩ ?_
   case wk3=>exact qm
   rintro m3 E S nk ⟨k,b,hk,hb,rfl,rfl,rfl⟩;refine qb ?_;intros;refine qe rfl (fun ht3=>?_) (fun ht3=>?_)
   ·have ht3:k<l.length:=by have:=xC ht3;omega
    obtain⟨r,hr⟩:∃r,l[k]?=some r:=⟨_,zge ht3⟩;have e1:=xd hr;have hsn:=IL (f:=Vp p.w p.h d) hr;cases b with
    |false=>
     refine qb ?_;intros;refine⟨m3-1,by omega,_,_,_,[],?wk4,k+1,false,by omega,by rw [hsn,<-hb];rfl,rfl,rfl,rfl⟩
     case wk4=>exact qm
    |true=>
     refine qb ?_;intros;refine qk rfl rfl (MN (p:=r)) ?_;rintro _ rfl;cases hon:XT p.w p.h r with
     |false=>
      refine qb ?_;intros;refine⟨m3-1,by omega,_,_,_,[],?wk5,k+1,false,by omega,by rw [hsn,<-hb,Vp,hon];rfl,rfl,rfl,rfl⟩
      case wk5=>exact qm
     |true=>
      have hon2:0<=r.1/\r.1<p.w/\0<=r.2/\r.2<p.h:=by simpa [XT] using hon
      obtain⟨a,c,rfl⟩:∃a c:Nat,r=((a:Int),(c:Int)):=⟨r.1.toNat,r.2.toNat,Prod.ext (by simp only;omega) (by simp only;omega)⟩;simp only at hon2;obtain⟨row,hrow,hrl2,hrx⟩:=hd.cell (x:=a) (y:=c) oM oM;have hdl:=hd.1;have e2:=vj (yA hrow);have e3:=YM (ZV hrx);have l1:a<(row.map jR).length:=by simp;omega
      refine qb ?_;intros;refine⟨m3-1,by omega,_,_,_,[],?wk6,k+1,y5 d a c,by omega,by rw [hsn,<-hb,Vp,hon];rfl,rfl,rfl,rfl⟩
      case wk6=>exact qm
   ·have ht3:k=l.length:=by have:=xK ht3;omega
    subst ht3;rw [List.take_length,<-hrs] at hb;refine qb ?_;intros;refine qe rfl (fun hf=>?_) (fun hf=>?_)
    ·have hf:dZ p.w p.h d i ((x:Int),(y:Int))=true:=by rw [<-hb];exact hf
     refine qb ?_;intros;refine qV (m:=1) (q:=qh ((x:Int),(y:Int))) rfl rfl rfl (qH _ hfl) ⟨rfl,rfl,_,rfl,rfl⟩ oM oM (by decide) rfl ?_;rw [show o2.flatMap qh++qh ((x:Int),(y:Int))=(o2++[((x:Int),(y:Int))]).flatMap qh by simp,show o2.length+1=(o2++[((x:Int),(y:Int))]).length by simp];refine qb ?_;intros;refine⟨m2-1,by omega,_,_,_,[(2,5)],?wk7,x+1,o2++[((x:Int),(y:Int))],by omega,by rw [TY hf,ho2,List.append_assoc],rfl,rfl,rfl⟩
     case wk7=>exact qm
    ·have hf:dZ p.w p.h d i ((x:Int),(y:Int))=false:=by rw [<-hb];exact hf
     refine qb ?_;intros;refine⟨m2-1,by omega,_,_,_,[],?wk8,x+1,o2,by omega,by rw [TZ hf,ho2],rfl,rfl,rfl⟩
     case wk8=>exact qm
  ·have ht2:=xK ht2;rw [w3,w4] at ht2;have hx2:x=nw:=by omega
   subst hx2;refine qb ?_;intros;refine⟨m-1,by omega,_,_,_,[],?wk9,y+1,o2,by omega,by rw [d8,ho2,ho],rfl,rfl,rfl⟩
   case wk9=>exact qm
 ·have ht:=xK ht;rw [w1,w2] at ht;have hy2:y=nh:=by omega
  subst hy2;have hfl:=xb out;refine qb ?_;intros;refine qr (qd (k:=6) rfl (qu _)) (qd (k:=2) rfl (qu _)) ?_;refine xt 2 rfl qO qO ?_;refine qf ⟨_,rfl,rfl,?_⟩;rw [QR,<-hnw,<-hnh,<-ho];rfl
end Go.Ag

namespace Go.Ag
open Go.Ab
theorem Conn.mono{g g':Int}{l l':List qc}{p x:qc}(h:Conn g l p x)(hg:g<=g')(hl:∀y∈l,y∈l'):Conn g' l' p x:=by
 induction h with
 |base h=>exact .base (hl _ h)
 |step _ h2 h3 ih=>exact .step ih (hl _ h2) oM
theorem Conn.trans{g:Int}{l:List qc}{p x y:qc}(h1:Conn g l p x)(h2:Conn g l x y):Conn g l p y:=by
 induction h2 with
 |base _=>exact h1
 |step _ h2 h3 ih=>exact .step ih h2 h3
theorem Conn.symm{g:Int}{l:List qc}{p x:qc}(h:Conn g l p x):Conn g l x p:=by
 induction h with
 |base h=>exact .base h
 |step h1 h2 h3 ih=>exact Conn.trans (.step (.base h2) h1.mem (by rw [VI];exact h3)) ih
theorem ClS.mem{g:Int}{l:List qc}{cs:List (List qc)}(h:ClS g l cs):∀c∈cs,∀x∈c,x∈l:=by
 induction h with
 |nil=>intro c hc;cases hc
 |cons h1 h2 _ ih=>
  intro c hc x hx;rcases List.mem_cons.1 hc with rfl|hc
  ·exact ((h2 x).1 hx).mem
  ·exact (yo.1 (ih c hc x hx)).1
theorem ClS.rows{g:Int}{l:List qc}{cs:List (List qc)}(h:ClS g l cs):∀c∈cs,qK c:=by
 induction h with
 |nil=>intro c hc;cases hc
 |cons h1 h2 _ ih=>
  intro c hc;rcases List.mem_cons.1 hc with rfl|hc
  ·exact h1
  ·exact ih c hc
theorem ClS.cover{g:Int}{l:List qc}{cs:List (List qc)}(h:ClS g l cs):∀x∈l,∃c∈cs,x∈c:=by
 induction h with
 |nil=>intro c hc;cases hc
 | @cons p r c cs h1 h2 _ ih=>
  intro x hx;by_cases hc:x∈c
  ·exact⟨c,by simp,hc⟩
  ·obtain⟨d,hd,hx⟩:=ih x (yo.2 ⟨hx,hc⟩);exact⟨d,by simp [hd],hx⟩
theorem ClS.closed{g:Int}{l:List qc}{cs:List (List qc)}(h:ClS g l cs):∀c∈cs,∀x∈c,∀y∈l,xz x y<=g->y∈c:=by
 induction h with
 |nil=>intro c hc;cases hc
 | @cons p r c cs h1 h2 h3 ih=>
  intro d hd x hx y hy hf;rcases List.mem_cons.1 hd with rfl|hd
  ·exact (h2 y).2 (.step ((h2 x).1 hx) hy hf)
  ·have hxm:=yo.1 (h3.mem d hd x hx);by_cases hyc:y∈c
   ·exact absurd ((h2 x).2 (.step ((h2 y).1 hyc) hxm.1 (by rw [VI];exact hf))) hxm.2
   ·exact ih d hd x hx y (yo.2 ⟨hy,hyc⟩) hf
theorem ClS.first{g:Int}{l:List qc}{cs:List (List qc)}(hl:qK l)(h:ClS g l cs):∀c∈cs,∃p t,c=p::t/\∀x,x∈c↔Conn g c p x:=by
 induction h with
 |nil=>intro c hc;cases hc
 | @cons p r c cs h1 h2 h3 ih=>
  intro d hd;rcases List.mem_cons.1 hd with rfl|hd
  ·have hp:p∈d:=(h2 p).2 (.base (by simp));have hin:∀x,Conn g (p::r) p x->Conn g d p x:=fun x hx=>by
    induction hx with
    |base _=>exact .base hp
    |step k1 k2 k3 ih=>exact .step ih ((h2 _).2 (.step k1 k2 k3)) k3
   have hdc:∀x,x∈d↔Conn g d p x:=fun x=>⟨fun hx=>hin x ((h2 x).1 hx),fun hx=>hx.mem⟩;cases d with
   |nil=>cases hp
   |cons a t=>
    have hap:a=p:=by
     rcases List.mem_cons.1 hp with e|e
     ·exact e.symm
     ·rw [qK,List.pairwise_cons] at h1;have ha:=h1.1 p e;have hal:=((h2 a).1 (by simp)).mem;rcases List.mem_cons.1 hal with e2|e2
      ·exact e2
      ·rw [qK,List.pairwise_cons] at hl;exact absurd (wP ha (hl.1 a e2)) jD
    subst hap;exact⟨a,t,rfl,hdc⟩
  ·exact ih (hl.minus c) d hd
def hd(c:List qc):qc:=c.headD (0,0)
theorem ClS.heads{g:Int}{l:List qc}{cs:List (List qc)}(hl:qK l)(h:ClS g l cs):qK (cs.map hd):=by
 induction h with
 |nil=>exact List.Pairwise.nil
 | @cons p r c cs h1 h2 h3 ih=>
  obtain⟨q,t,hc,hq⟩:=(ClS.cons h1 h2 h3).first hl c (by simp);have hp:p∈c:=(h2 p).2 (.base (by simp));have hqp:q=p:=by
   rw [hc] at hp h1;rcases List.mem_cons.1 hp with e|e
   ·exact e.symm
   ·rw [qK,List.pairwise_cons] at h1;have ha:=h1.1 p e;have hal:=((h2 q).1 (by rw [hc];simp)).mem;rcases List.mem_cons.1 hal with e2|e2
    ·exact e2
    ·rw [qK,List.pairwise_cons] at hl;exact absurd (wP ha (hl.1 q e2)) jD
  rw [List.map_cons,qK,List.pairwise_cons];refine⟨fun y hy=>?_,ih (hl.minus c)⟩;obtain⟨d,hdm,rfl⟩:=List.mem_map.1 hy;obtain⟨a,t',hd',_⟩:=h3.first (hl.minus c) d hdm;have h5:a∈minus (p::r) c:=h3.mem d hdm a (by rw [hd'];simp);have h6:=yo.1 h5;have:xp p a=true:=by
   rcases List.mem_cons.1 h6.1 with e|e
   ·subst e;exact absurd hp h6.2
   ·rw [qK,List.pairwise_cons] at hl;exact hl.1 a e
  rw [hc,hd',hqp];exact this
theorem ClS.part{g:Int}{l:List qc}{cs:List (List qc)}(hl:qK l)(h:ClS g l cs){c:List qc}(hc:c∈cs):ClS g c [c]:=by
 obtain⟨p,t,rfl,hp⟩:=h.first hl c hc;refine .cons (h.rows _ hc) hp ?_;have:minus (p::t) (p::t)=[]:=by
  unfold minus;exact List.filter_eq_nil_iff.2 fun x hx=>by simp only [decide_eq_true hx];decide
 rw [this];exact .nil
end Go.Ag

namespace Go.Ag
open Go.Ab Go.Proofs
theorem Zz{α:Type}[DecidableEq α]:∀{a b:List α},a.Nodup->(∀x∈a,x∈b)->a.length<=b.length
 |[],b,_,_=>Nat.zero_le _
 |x::a,b,hn,h=>by
  rw [List.nodup_cons] at hn;have hx:x∈b:=h x (by simp);have h1:=Zz (a:=a) (b:=b.erase x) hn.2 (fun y hy=>(List.mem_erase_of_ne (fun e=>hn.1 (by rw [<-e];exact hy))).2 (h y (by simp [hy])));rw [List.length_erase_of_mem hx] at h1;have h2:0<b.length:=List.length_pos_of_mem hx;rw [List.length_cons];omega
theorem YN{α:Type}[DecidableEq α]:∀{m c:List α},c.Nodup->(∀x∈c,x∈m)->m.length<=c.length->m.Nodup
 |[],_,_,_,_=>List.nodup_nil
 |x::m,c,hn,h,hl=>by
  rw [List.nodup_cons];rw [List.length_cons] at hl;have hxm:x∉m:=fun hx=>by
   have:=Zz hn (b:=m) (fun y hy=>by
    rcases List.mem_cons.1 (h y hy) with rfl|e
    ·exact hx
    ·exact e)
   omega
  refine⟨hxm,YN (c:=c.erase x) (hn.erase x) (fun y hy=>?_) ?_⟩
  ·have h1:=hn.mem_erase_iff.1 hy;rcases List.mem_cons.1 (h y h1.2) with e|e
   ·exact absurd e h1.1
   ·exact e
  ·rw [List.length_erase];split<;>omega
def nJ(c:List (List qc))(s:List qc):Nat:=(c.filter (fun x=>decide (x=s))).length
theorem nH{s:List qc}:∀{c:List (List qc)},c.Nodup->s∈c->nJ c s=1
 |[],_,h=>by cases h
 |y::t,hn,hs=>by
  rw [List.nodup_cons] at hn;unfold nJ;by_cases hy:y=s
  ·subst hy;rw [List.filter_cons,if_pos (by simp),List.filter_eq_nil_iff.2 fun x hx=>?_]
   ·rfl
   ·simp only [xQ];exact fun e=>hn.1 (e▸hx)
  ·rw [List.filter_cons,if_neg (by simp [hy])];rcases List.mem_cons.1 hs with e|e
   ·exact absurd e.symm hy
   ·exact nH hn.2 e
theorem nI{s:List qc}{c:List (List qc)}(h:nJ c s=1):s∈c:=by
 unfold nJ at h;obtain⟨x,hx⟩:=List.length_eq_one_iff.1 h;have:x∈c.filter (fun x=>decide (x=s)):=by rw [hx];simp
 rw [List.mem_filter,xQ] at this;rw [<-this.2];exact this.1
theorem ClS.walk{g:Int}{l l':List qc}{cs:List (List qc)}(h:ClS g l cs){c:List qc}(hc:c∈cs){x y:qc}(hx:x∈c)(hy:Conn g l' x y)(hl:∀z∈l',z∈l):y∈c:=by
 induction hy with
 |base _=>exact hx
 |step _ h2 h3 ih=>exact h.closed c hc _ ih _ (hl _ h2) h3
theorem ClS.conn{g:Int}{l:List qc}{cs:List (List qc)}(hl:qK l)(h:ClS g l cs){c:List qc}(hc:c∈cs){x y:qc}(hx:x∈c)(hy:y∈c):Conn g c x y:=by
 obtain⟨p,t,_,hp⟩:=h.first hl c hc;exact ((hp x).1 hx).symm.trans ((hp y).1 hy)
theorem ClS.disj{g:Int}{l:List qc}{cs:List (List qc)}(hl:qK l)(h:ClS g l cs){c d:List qc}(hc:c∈cs)(hd:d∈cs){x:qc}(hx:x∈c)(hx':x∈d):c=d:=
 qK.ext (h.rows c hc) (h.rows d hd) fun _=>⟨fun hy=>h.walk hd hx' (h.conn hl hc hx hy) (h.mem c hc),fun hy=>h.walk hc hx (h.conn hl hd hx' hy) (h.mem d hd)⟩
theorem ClS.nodup{g:Int}{l:List qc}{cs:List (List qc)}(hl:qK l)(h:ClS g l cs):cs.Nodup:=
 List.Pairwise.of_map hd (fun _ _ hne e=>hne (by rw [e])) (h.heads hl).nodup
open Classical in
theorem nN{g:Int}{a:List qc}:Xa g a=true↔∃cs,ClS g (qt a) cs/\cs.length=1:=by
 unfold Xa;exact decide_eq_true_iff
theorem c8{g:Int}{a:List qc}(hne:a≠[]):Xa g a=true↔∀x∈a,∀y∈a,Conn g a x y:=by
 rw [nN];constructor
 ·rintro ⟨cs,h,h1⟩ x hx y hy;obtain⟨k,rfl⟩:=List.length_eq_one_iff.1 h1;have hin:∀z∈a,z∈k:=fun z hz=>by
   obtain⟨c,hc,hz⟩:=h.cover z (qP.2 hz);rw [List.mem_singleton] at hc;rw [<-hc];exact hz
  exact (h.conn (xi _) (c:=k) (by simp) (hin x hx) (hin y hy)).mono (Int.le_refl g) fun z hz=>qP.1 (h.mem k (by simp) z hz)
 ·intro h;have hm:∀z,z∈qt a↔z∈a:=fun z=>qP;have hr:=xi a;generalize qt a=s at *;cases s with
  |nil=>
   cases a with
   |nil=>exact absurd rfl hne
   |cons x t=>exact absurd ((hm x).2 (by simp)) (by simp)
  |cons p r=>
   refine⟨[p::r],.cons hr (fun x=>⟨fun hx=>?_,fun hx=>hx.mem⟩) ?_,rfl⟩
   ·exact (h p ((hm p).1 (by simp)) x ((hm x).1 hx)).mono (Int.le_refl g) fun z hz=>(hm z).2 hz
   ·rw [show minus (p::r) (p::r)=[] from List.filter_eq_nil_iff.2 fun x hx=>by simp only [decide_eq_true hx];decide];exact .nil
theorem Xu{a b:List qc}(ha:a≠[])(hb:b≠[]){g:Int}:xZ a b<=g↔∃x∈a,∃y∈b,xz x y<=g:=by
 obtain⟨⟨x,hx,y,hy,h1⟩,h2⟩:=Yo ha hb;constructor
 ·intro h;exact⟨x,hx,y,hy,oM⟩
 ·rintro ⟨x,hx,y,hy,h⟩;have:=h2 x hx y hy;omega
theorem jX.sym{g:Int}{l:List (List qc)}(h:jX g l){i k:Nat}{a b:List qc}(hik:i≠k)(ha:l[i]?=some a)(hb:l[k]?=some b):¬xZ a b<=g:=by
 rcases Nat.lt_or_gt_of_ne hik with hlt|hlt
 ·exact h i k a b hlt ha hb
 ·rw [Yp];exact h k i b a hlt hb ha
theorem sQ{a b:List qc}(ha:a≠[])(h:∀x∈a,x∉b):qt a≠qt b:=fun e=>by
 cases a with
 |nil=>exact absurd rfl ha
 |cons x t=>
  have h1:x∈qt (x::t):=qP.2 (by simp);rw [e,qP] at h1;exact h x (by simp) h1
theorem u5{g:Int}{l c:List (List qc)}(hne:∀a∈l,a≠[])(hg:0<=g)(hc:ClS g (qt l.flatten) c):(jY g l/\jX g l)↔(c.length=l.length/\∀a∈l,nJ c (qt a)=1):=by
 have hr:=xi l.flatten;have hin:∀{a x},a∈l->x∈a->x∈qt l.flatten:=fun ha hx=>qP.2 (List.mem_flatten.2 ⟨_,ha,hx⟩);have hnd:=hc.nodup hr;have hsub:(∀a∈l,qt a∈c)->∀k∈c,k∈l.map qt:=fun hall k hk=>by
  obtain⟨p,t,hpt,_⟩:=hc.first hr k hk;have hp:p∈k:=by rw [hpt];simp
  obtain⟨a,ha,hpa⟩:=List.mem_flatten.1 (qP.1 (hc.mem k hk p hp));exact List.mem_map.2 ⟨a,ha,(hc.disj hr hk (hall a ha) hp (qP.2 hpa)).symm⟩
 constructor
 ·rintro ⟨g1,g2⟩;have hcl:∀(i:Nat) (a:List qc),l[i]?=some a->∀x∈a,∀y∈qt l.flatten,xz x y<=g->y∈a:=fun i a hi x hx y hy hf=>by
   obtain⟨b,hb,hyb⟩:=List.mem_flatten.1 (qP.1 hy);obtain⟨k,hk⟩:=List.getElem?_of_mem hb;by_cases hik:i=k
   ·subst hik;rw [hi] at hk;rw [zsi hk];exact hyb
   ·exact absurd ((Xu (hne a (zmg hi)) (hne b hb)).2 ⟨x,hx,y,hyb,hf⟩) (g2.sym hik hi hk)
  have hall:∀a∈l,qt a∈c:=fun a ha=>by
   obtain⟨i,hi⟩:=List.getElem?_of_mem ha;obtain⟨x,hx⟩:=List.exists_mem_of_ne_nil a (hne a ha);obtain⟨k,hk,hxk⟩:=hc.cover x (hin ha hx);have:k=qt a:=qK.ext (hc.rows k hk) (xi a) fun y=>by
    rw [qP];constructor
    ·intro hy;have h1:=hc.conn hr hk hxk hy;clear hy;induction h1 with
     |base _=>exact hx
     |step _ k2 k3 ih=>exact hcl i a hi _ ih _ (hc.mem k hk _ k2) k3
    ·intro hy;exact hc.walk hk hxk ((c8 (hne a ha)).1 (g1 a ha) x hx y hy) fun z hz=>hin ha hz
   rw [<-this];exact hk
  have hmn:(l.map qt).Nodup:=by
   rw [List.Nodup,List.pairwise_map,List.pairwise_iff_getElem];intro i k hi hk hik;refine sQ (hne _ (List.getElem_mem hi)) fun x hx hx'=>?_;refine g2 i k _ _ hik (zge hi) (zge hk) ?_;exact (Xu (hne _ (List.getElem_mem hi)) (hne _ (List.getElem_mem hk))).2 ⟨x,hx,x,hx',by rw [(GJ x x).2 rfl];exact hg⟩
  refine⟨?_,fun a ha=>nH hnd (hall a ha)⟩;have h1:=Zz hnd (hsub hall);have h2:=Zz hmn (b:=c) fun x hx=>by
   obtain⟨a,ha,rfl⟩:=List.mem_map.1 hx;exact hall a ha
  rw [List.length_map] at h1 h2;omega
 ·rintro ⟨hlen,hcnt⟩;have hall:∀a∈l,qt a∈c:=fun a ha=>nI (hcnt a ha);have hmn:=YN hnd (hsub hall) (by rw [List.length_map];omega);refine⟨fun a ha=>?_,fun i k a b hik hi hk hd=>?_⟩
  ·rw [nN];exact⟨[qt a],hc.part hr (hall a ha),rfl⟩
  ·have ha:=zmg hi;have hb:=zmg hk;obtain⟨x,hx,y,hy,hf⟩:=(Xu (hne a ha) (hne b hb)).1 hd;have h1:y∈qt a:=hc.closed _ (hall a ha) x (qP.2 hx) y (hin hb hy) hf;have h2:=hc.disj hr (hall a ha) (hall b hb) h1 (qP.2 hy);rw [List.Nodup,List.pairwise_map,List.pairwise_iff_getElem] at hmn;obtain⟨hi1,hi2⟩:=zgs hi;obtain⟨hk1,hk2⟩:=zgs hk;refine hmn i k hi1 hk1 hik ?_;rw [hi2,hk2];exact h2
end Go.Ag

namespace Go.Ag
open Go.Ab Go.Proofs
def mv(v q:qc):qc:=(q.1+v.1,q.2+v.2)
theorem Chk.ok_iff{p:Pic}{r:fF}(h:Chk p r)(hv:qx p=true):r.2.2=0↔jY p.gap (qo p)/\jX p.gap (qo p):=by
 cases h with
 |arg h=>exact absurd hv h
 |bad1 i _ hb=>exact⟨fun e=>(by cases e),fun e=>(hb.not e.1).elim⟩
 |bad2 i k _ _ hb=>exact⟨fun e=>(by cases e),fun e=>(hb.not e.2).elim⟩
 |ok _ h1 h2=>exact⟨fun _=>⟨h1,h2⟩,fun _=>rfl⟩
theorem sZ{f:Ft}(hv:x8 f=true):xe f≠[]:=fun e=>by
 obtain⟨⟨hn1,_⟩,_⟩:=jm hv;have h:=bX hv (QI (L:=f.pts) (i:=0) oM);rw [e] at h;cases h
theorem w9{p:Pic}(hv:qx p=true):∀a∈qo p,a≠[]:=fun a ha=>by
 obtain⟨f,hf,rfl⟩:=List.mem_map.1 ha;exact sZ (zL hv f hf)
end Go.Ag
