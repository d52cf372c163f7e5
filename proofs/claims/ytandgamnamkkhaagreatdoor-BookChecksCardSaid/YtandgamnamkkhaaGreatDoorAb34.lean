/- -/
import Derived.Test.YtandgamnamkkhaaGreatDoorAb33
set_option linter.unusedSimpArgs false
set_option maxHeartbeats 16000000
set_option linter.unusedVariables false
set_option maxRecDepth 8000
namespace Go.Ah
open Go.Ab Go.Proofs
def iV(p:Pic):Prop:=∀f∈p.fs,xB f=true->(qN f).length<=256
theorem L8{g:Int}{l:List qd}{cs:List (List qd)}(h1:2<=g)(h2:g<=6)(h:ClS (min (max g 0) 2000) (qt l) cs):ZQ g l=decide (cs.length=1):=by
 rw [show min (max g 0) 2000=g by omega] at h;exact A8 h
theorem A5{p:Pic}(hF:Zr p)(hw:iV p):DK 74 [yz p] fun d=>∃r:BQ,Chk p r/\d=.tup [.int r.1,.int r.2.1,.int r.2.2]:=by
 refine zy Fs rfl jm fun Z0 lo=>?_;refine qa ?_;intros;refine qj rfl rfl (bZ hF) ?_;rintro _ rfl;refine qa ?_;intros;refine qb rfl (fun hv=>?_) (fun hv=>?_)
 ·have hv:¬qJ p=true:=by simpa using hv
  refine qa ?_;intros;exact qc ⟨_,rfl,rfl,_,.arg hv,rfl⟩
 ·have hv:qJ p=true:=by simpa using hv
  have hsm:∀l∈qz p,(∀q∈l,zm q=true)/\l.length<=256:=fun l hl=>by
   refine⟨(wZ hv l hl).1,?_⟩;obtain⟨f,hf,rfl⟩:=List.mem_map.1 hl;exact hw f hf (yb hv f hf)
  have hpl:(qz p).length=p.fs.length:=by simp [qz]
  have hl8:=(xr hv).1;have hgap:2<=p.gap/\p.gap<=6:=by
   have:=(xr hv).2.2.2;simp only [jS,xt,xF] at this;exact this.1
  refine qa ?_;intros;refine qj rfl rfl (p5 (yb hv) oM) ?_;rintro _ rfl;generalize hl:qz p=l at *;refine qa ?_;intros;refine qm (fun m E S nk=>∃i:Nat,i+m=l.length/\(∀(j:Nat) b,j<i->l[j]?=some b->ZQ p.gap b=true)/\E=[(1,.one (.ptr 0 0)),(2,.one (.ptr 1 0)),(3,.one (.ptr 2 0)),(4,.one (.ptr 3 0)),(5,.one (.ptr 4 0)),(15,wE l),(16,.int l.length),(17,.int i)]/\S=[(0,.cells (yL p)),(1,.cells [.f (.c (.int .i64 0))]),(2,.cells [.f (.c (.int .i64 0))]),(3,.cells [.f (.c (.int .i64 0))]),(4,.cells [.f (.sl 1 l.length (l.map qV))])]/\nk=5)
   ⟨l.length,_,_,_,[],?wk,0,oM,fun j b hj=>oM,rfl,rfl,rfl⟩ ?_
  case wk=>exact ql
  rintro m E S nk ⟨i,hi,hok,rfl,rfl,rfl⟩;refine qa ?_;intros;refine qb rfl (fun hi2=>?_) (fun hi2=>?_)
  ·have hi2:i<l.length:=by have:=qG hi2;omega
   obtain⟨a,ha⟩:∃r,l[i]?=some r:=⟨_,zge hi2⟩;have e1:=kH ha;have hsa:=hsm a (zmg ha);refine qa ?_;intros;refine qj rfl rfl (pZ (fun q hq=>by have:=hsa.1 q hq;rw [xJ] at this;unfold qB;omega) (by omega)) ?_;rintro _ ⟨cs,rfl,hcs⟩;have hc1:=L8 hgap.1 hgap.2 hcs;refine qa ?_;intros;refine qb rfl (fun hb=>?_) (fun hb=>?_)
   ·have hb:¬(cs.length:Int)=1:=JM hb;refine qa ?_;intros;exact qc ⟨_,rfl,rfl,_,.bad1 i hv (by rw [hl];exact⟨⟨a,ha,by rw [hc1];exact decide_eq_false (by omega)⟩,hok⟩),rfl⟩
   ·have hb:(cs.length:Int)=1:=YD hb;refine qa ?_;intros;refine⟨m-1,oM,_,_,_,[],?wk1,i+1,oM,?hno,rfl,rfl,rfl⟩
    case hno=>
     intro j b hj hbj;by_cases hji:j=i
     ·subst hji;rw [ha] at hbj;rw [<-zsi hbj,hc1];exact decide_eq_true oM
     ·exact hok j b oM hbj
    case wk1=>exact ql
  ·have hi2:i=l.length:=by have:=qQ hi2;omega
   subst hi2;have hg1:Vz p.gap (qz p):=fun a ha=>by
    rw [hl] at ha;obtain⟨j,hj⟩:=List.getElem?_of_mem ha;exact hok j a (zgs hj).1 hj
   refine qa ?_;intros;refine ZI rfl rfl DF ?_;rintro _ _ _ ⟨rfl,rfl,rfl⟩;refine qa ?_;intros;refine qu (qf (k:=1) rfl (qf (k:=2) rfl (qf (k:=3) rfl (qf (k:=4) rfl (qf (k:=5) rfl (qf (k:=33) rfl (qw _))))))) (qf (k:=0) rfl (qf (k:=1) rfl (qf (k:=2) rfl (qf (k:=3) rfl (qf (k:=4) rfl (qf (k:=5) rfl (qw _))))))) ?_;refine GC rfl [1,2,3,4,5] rfl (by show zR Tryz.prog 149=true;kernel_rfl) rfl rfl (fun fid sg bd hsg hbd=>?_);refine DX.sub (S0:=cS p l 0 0 0 (ZD .ready none fid sg bd)) ((BU hsm oM hsg hbd _ _ _ _ _).mono ?_) (qf rfl (qf rfl (qf rfl (qf rfl (qf rfl (qf rfl (qf rfl (qw _))))))));rintro _ _ _ (⟨hg2,rfl,rfl⟩|⟨i,k,hb2,rfl,rfl⟩)
   ·refine⟨_,_,_,_,_,_,_,_,_,rfl,by simp,?_⟩;refine qa ?_;intros;exact qc ⟨_,rfl,rfl,_,.ok hv hg1 (by rw [hl];exact hg2),rfl⟩
   ·refine⟨_,_,_,_,_,_,_,_,_,rfl,by simp,?_⟩;exact⟨_,rfl,rfl,_,.bad2 i k hv hg1 (by rw [hl];exact hb2),rfl⟩
def GD(i:Nat):Int:=[1,3,9,25,17,11,27,19].getD i 0
def Wr(i:Nat):DV:=.one (.f (.sl 1 2 [.c (.int .u8 60),.c (.int .u8 (GD i))]))
theorem L2{i:Nat}(hi:i<8):DK 194 [.int i] fun d=>d=Wr i:=by
 refine qI fun Z0 lo=>?_
 match i,hi with
 |0,_=>
  refine qa ?_;intros;refine qb rfl (fun h=>absurd h (by decide)) (fun _=>?_);refine qa ?_;intros;refine qu (qf (k:=2) rfl (qw _)) (qf (k:=0) rfl (qw _)) ?_;refine qH 0 rfl qD qD ?_;exact qc ⟨_,rfl,rfl,rfl⟩
 |1,_=>
  refine qa ?_;intros;refine qb rfl (fun h=>absurd h (by decide)) (fun _=>?_);refine qa ?_;intros;refine qu (qf (k:=2) rfl (qw _)) (qf (k:=0) rfl (qw _)) ?_;refine qH 0 rfl qD qD ?_;exact qc ⟨_,rfl,rfl,rfl⟩
 |2,_=>
  refine qa ?_;intros;refine qb rfl (fun h=>absurd h (by decide)) (fun _=>?_);refine qa ?_;intros;refine qu (qf (k:=2) rfl (qw _)) (qf (k:=0) rfl (qw _)) ?_;refine qH 0 rfl qD qD ?_;exact qc ⟨_,rfl,rfl,rfl⟩
 |3,_=>
  refine qa ?_;intros;refine qb rfl (fun h=>absurd h (by decide)) (fun _=>?_);refine qa ?_;intros;refine qu (qf (k:=2) rfl (qw _)) (qf (k:=0) rfl (qw _)) ?_;refine qH 0 rfl qD qD ?_;exact qc ⟨_,rfl,rfl,rfl⟩
 |4,_=>
  refine qa ?_;intros;refine qb rfl (fun h=>absurd h (by decide)) (fun _=>?_);refine qa ?_;intros;refine qu (qf (k:=2) rfl (qw _)) (qf (k:=0) rfl (qw _)) ?_;refine qH 0 rfl qD qD ?_;exact qc ⟨_,rfl,rfl,rfl⟩
 |5,_=>
  refine qa ?_;intros;refine qb rfl (fun h=>absurd h (by decide)) (fun _=>?_);refine qa ?_;intros;refine qu (qf (k:=2) rfl (qw _)) (qf (k:=0) rfl (qw _)) ?_;refine qH 0 rfl qD qD ?_;exact qc ⟨_,rfl,rfl,rfl⟩
 |6,_=>
  refine qa ?_;intros;refine qb rfl (fun h=>absurd h (by decide)) (fun _=>?_);refine qa ?_;intros;refine qu (qf (k:=2) rfl (qw _)) (qf (k:=0) rfl (qw _)) ?_;refine qH 0 rfl qD qD ?_;exact qc ⟨_,rfl,rfl,rfl⟩
 |7,_=>
  refine qa ?_;intros;refine qb rfl (fun h=>absurd h (by decide)) (fun _=>?_);refine qa ?_;intros;refine qu (qf (k:=2) rfl (qw _)) (qf (k:=0) rfl (qw _)) ?_;refine qH 0 rfl qD qD ?_;exact qc ⟨_,rfl,rfl,rfl⟩
 |i+8,h=>omega
theorem D2{i:Nat}(hi:i<8):DK 201 [.int i] fun d=>d=Wr i:=by
 refine qI fun Z0 lo=>?_
 match i,hi with
 |0,_=>
  refine qa ?_;intros;refine qu (qf (k:=2) rfl (qw _)) (qf (k:=1) rfl (qw _)) ?_;refine qH 1 rfl qD qD ?_;exact qc ⟨_,rfl,rfl,rfl⟩
 |1,_=>
  refine qa ?_;intros;refine qu (qf (k:=2) rfl (qw _)) (qf (k:=1) rfl (qw _)) ?_;refine qH 1 rfl qD qD ?_;exact qc ⟨_,rfl,rfl,rfl⟩
 |2,_=>
  refine qa ?_;intros;refine qu (qf (k:=2) rfl (qw _)) (qf (k:=1) rfl (qw _)) ?_;refine qH 1 rfl qD qD ?_;exact qc ⟨_,rfl,rfl,rfl⟩
 |3,_=>
  refine qa ?_;intros;refine qu (qf (k:=2) rfl (qw _)) (qf (k:=1) rfl (qw _)) ?_;refine qH 1 rfl qD qD ?_;exact qc ⟨_,rfl,rfl,rfl⟩
 |4,_=>
  refine qa ?_;intros;refine qu (qf (k:=2) rfl (qw _)) (qf (k:=1) rfl (qw _)) ?_;refine qH 1 rfl qD qD ?_;exact qc ⟨_,rfl,rfl,rfl⟩
 |5,_=>
  refine qa ?_;intros;refine qu (qf (k:=2) rfl (qw _)) (qf (k:=1) rfl (qw _)) ?_;refine qH 1 rfl qD qD ?_;exact qc ⟨_,rfl,rfl,rfl⟩
 |6,_=>
  refine qa ?_;intros;refine qu (qf (k:=2) rfl (qw _)) (qf (k:=1) rfl (qw _)) ?_;refine qH 1 rfl qD qD ?_;exact qc ⟨_,rfl,rfl,rfl⟩
 |7,_=>
  refine qa ?_;intros;refine qu (qf (k:=2) rfl (qw _)) (qf (k:=1) rfl (qw _)) ?_;refine qH 1 rfl qD qD ?_;exact qc ⟨_,rfl,rfl,rfl⟩
 |i+8,h=>omega
def UL(v:Int)(n:Nat):Bool:=IntKind.u8.wrap (((BitVec.ofInt 8 (v.fdiv (2^n))&&& BitVec.ofInt 8 1).toNat:Nat):Int)==1
def xV(v:Int)(j:Nat):Bool:=UL (if j % 4<2 then 60 else v) (3*(j % 2)+j/4)
def qC(q:qd)(j:Nat):qd:=(2*q.1+(j % 4:Nat),3*q.2+(j/4:Nat))
def wP(v:Int)(q:qd)(k:Nat):List qd:=((List.range k).filter (xV v)).map (qC q)
theorem zG{v:Int}{q:qd}{k:Nat}(h:xV v k=true):wP v q (k+1)=wP v q k++[qC q k]:=by
 simp [wP,List.range_succ,h]
theorem zH{v:Int}{q:qd}{k:Nat}(h:xV v k=false):wP v q (k+1)=wP v q k:=by
 simp [wP,List.range_succ,h]
theorem vV(v:Int)(q:qd)(k:Nat):(wP v q k).length<=k:=by
 unfold wP;rw [List.length_map];exact Nat.le_trans (List.length_filter_le _ _) (by simp)
def xO(i:Nat)(q:qd):List qd:=wP (GD i) q 12
theorem JE{i:Nat}{q:qd}(hi:i<8)(hq:qB 1000000 q):DK 154 [.int i,xI q] fun d=>d=qx (xO i q):=by
 refine qI fun Z0 lo=>?_;unfold qB at hq;have w1:IntKind.i64.wrap (2*q.1)=2*q.1:=qg oM oM;have w2:IntKind.i64.wrap (3*q.2)=3*q.2:=qg oM oM;refine qa ?_;intros;refine qj rfl rfl (L2 hi) ?_;rintro _ rfl;unfold Wr xO;generalize GD i=v;refine qa ?_;intros;refine QX 6 2 rfl ?_;refine qm (fun m E S nk=>∃(r:Nat) (out:List qd),r+m=3/\out=wP v q (4*r)/\E=[(3,.one (.ptr 0 0)),(5,.one (.f (.sl 1 2 [.c (.int .u8 60),.c (.int .u8 v)]))),(6,.one (.own 1 0 out.length 2)),(11,.int r)]/\S=[(0,.cells [.f (.c (.int .i64 q.1)),.f (.c (.int .i64 q.2))]),(1,.data (out.flatMap qh))]/\nk=2) ⟨3,_,_,_,[],?wk,0,[],oM,rfl,rfl,rfl,rfl⟩ ?_
 case wk=>exact ql
 rintro m E S nk ⟨r,out,hr,ho,rfl,rfl,rfl⟩;refine qa ?_;intros;refine qb rfl (fun ht=>?_) (fun ht=>?_)
 ·have ht:r<3:=by have:=qG ht;omega
  match r,ht with
  |0,_=>
   refine qa ?_;intros;refine qm (fun m E S nk=>∃(c:Nat) (out:List qd),c+m=4/\out=wP v q (0+c)/\E=[(3,.one (.ptr 0 0)),(5,.one (.f (.sl 1 2 [.c (.int .u8 60),.c (.int .u8 v)]))),(6,.one (.own 1 0 out.length 2)),(7,.int (0:Nat)),(11,.int (0:Nat)),(16,.int 4),(17,.int c)]/\S=[(0,.cells [.f (.c (.int .i64 q.1)),.f (.c (.int .i64 q.2))]),(1,.data (out.flatMap qh))]/\nk=2) ⟨4,_,_,_,[],?wk0,0,out,oM,ho,rfl,rfl,rfl⟩ ?_
   case wk0=>exact ql
   rintro m2 E S nk ⟨c,out,hc,ho,rfl,rfl,rfl⟩;have hol:=vV v q (0+c);rw [<-ho] at hol;have hfl:=qL out;refine qa ?_;intros;refine qb rfl (fun ht2=>?_) (fun ht2=>?_)
   ·have ht2:c<4:=by have:=qG ht2;omega
    match c,ht2 with
    |0,_=>
     have w3:IntKind.i64.wrap (2*q.1+((0:Nat):Int))=2*q.1+((0:Nat):Int):=qg oM oM;have w4:IntKind.i64.wrap (3*q.2+((0:Nat):Int))=3*q.2+((0:Nat):Int):=qg oM oM;refine qa ?_;intros;refine xU (j:=0) (q:=[.c (.int .u8 60)]) rfl rfl (by decide) (by decide) rfl ?_;refine qa ?_;intros;refine qb rfl (fun hb=>?_) (fun hb=>?_)
     ·have hb:xV v 0=true:=hb;refine qa ?_;intros;refine qy (m:=1) (q:=qh (qC q 0)) rfl rfl rfl (qp _ hfl) ⟨rfl,rfl,_,rfl,by rw [w1,w2,w3,w4];rfl⟩ (by omega) (by omega) (by decide) rfl ?_;rw [show out.flatMap qh++qh (qC q 0)=(out++[qC q 0]).flatMap qh by simp,show out.length+1=(out++[qC q 0]).length by simp];refine qa ?_;intros;refine⟨m2-1,by omega,_,_,_,[(1,3)],?wa,1,out++[qC q 0],by omega,by rw [ho];exact (zG hb).symm,rfl,rfl,rfl⟩
      case wa=>exact ql
     ·have hb:xV v 0=false:=hb;refine qa ?_;intros;refine⟨m2-1,by omega,_,_,_,[],?wb,1,out,by omega,by rw [ho];exact (zH hb).symm,rfl,rfl,rfl⟩
      case wb=>exact ql
    |1,_=>
     have w3:IntKind.i64.wrap (2*q.1+((1:Nat):Int))=2*q.1+((1:Nat):Int):=qg oM oM;have w4:IntKind.i64.wrap (3*q.2+((0:Nat):Int))=3*q.2+((0:Nat):Int):=qg oM oM;refine qa ?_;intros;refine xU (j:=0) (q:=[.c (.int .u8 60)]) rfl rfl (by decide) (by decide) rfl ?_;refine qa ?_;intros;refine qb rfl (fun hb=>?_) (fun hb=>?_)
     ·have hb:xV v 1=true:=hb;refine qa ?_;intros;refine qy (m:=1) (q:=qh (qC q 1)) rfl rfl rfl (qp _ hfl) ⟨rfl,rfl,_,rfl,by rw [w1,w2,w3,w4];rfl⟩ (by omega) (by omega) (by decide) rfl ?_;rw [show out.flatMap qh++qh (qC q 1)=(out++[qC q 1]).flatMap qh by simp,show out.length+1=(out++[qC q 1]).length by simp];refine qa ?_;intros;refine⟨m2-1,by omega,_,_,_,[(1,3)],?wa,2,out++[qC q 1],by omega,by rw [ho];exact (zG hb).symm,rfl,rfl,rfl⟩
      case wa=>exact ql
     ·have hb:xV v 1=false:=hb;refine qa ?_;intros;refine⟨m2-1,by omega,_,_,_,[],?wb,2,out,by omega,by rw [ho];exact (zH hb).symm,rfl,rfl,rfl⟩
      case wb=>exact ql
    |2,_=>
     have w3:IntKind.i64.wrap (2*q.1+((2:Nat):Int))=2*q.1+((2:Nat):Int):=qg oM oM;have w4:IntKind.i64.wrap (3*q.2+((0:Nat):Int))=3*q.2+((0:Nat):Int):=qg oM oM;refine qa ?_;intros;refine xU (j:=1) (q:=[.c (.int .u8 v)]) rfl rfl (by decide) (by decide) rfl ?_;refine qa ?_;intros;refine qb rfl (fun hb=>?_) (fun hb=>?_)
     ·have hb:xV v 2=true:=hb;refine qa ?_;intros;refine qy (m:=1) (q:=qh (qC q 2)) rfl rfl rfl (qp _ hfl) ⟨rfl,rfl,_,rfl,by rw [w1,w2,w3,w4];rfl⟩ (by omega) (by omega) (by decide) rfl ?_;rw [show out.flatMap qh++qh (qC q 2)=(out++[qC q 2]).flatMap qh by simp,show out.length+1=(out++[qC q 2]).length by simp];refine qa ?_;intros;refine⟨m2-1,by omega,_,_,_,[(1,3)],?wa,3,out++[qC q 2],by omega,by rw [ho];exact (zG hb).symm,rfl,rfl,rfl⟩
      case wa=>exact ql
     ·have hb:xV v 2=false:=hb;refine qa ?_;intros;refine⟨m2-1,by omega,_,_,_,[],?wb,3,out,by omega,by rw [ho];exact (zH hb).symm,rfl,rfl,rfl⟩
      case wb=>exact ql
    |3,_=>
     have w3:IntKind.i64.wrap (2*q.1+((3:Nat):Int))=2*q.1+((3:Nat):Int):=qg oM oM;have w4:IntKind.i64.wrap (3*q.2+((0:Nat):Int))=3*q.2+((0:Nat):Int):=qg oM oM;refine qa ?_;intros;refine xU (j:=1) (q:=[.c (.int .u8 v)]) rfl rfl (by decide) (by decide) rfl ?_;refine qa ?_;intros;refine qb rfl (fun hb=>?_) (fun hb=>?_)
     ·have hb:xV v 3=true:=hb;refine qa ?_;intros;refine qy (m:=1) (q:=qh (qC q 3)) rfl rfl rfl (qp _ hfl) ⟨rfl,rfl,_,rfl,by rw [w1,w2,w3,w4];rfl⟩ (by omega) (by omega) (by decide) rfl ?_;rw [show out.flatMap qh++qh (qC q 3)=(out++[qC q 3]).flatMap qh by simp,show out.length+1=(out++[qC q 3]).length by simp];refine qa ?_;intros;refine⟨m2-1,by omega,_,_,_,[(1,3)],?wa,4,out++[qC q 3],by omega,by rw [ho];exact (zG hb).symm,rfl,rfl,rfl⟩
      case wa=>exact ql
     ·have hb:xV v 3=false:=hb;refine qa ?_;intros;refine⟨m2-1,by omega,_,_,_,[],?wb,4,out,by omega,by rw [ho];exact (zH hb).symm,rfl,rfl,rfl⟩
      case wb=>exact ql
    |c+4,h=>omega
   ·have ht2:c=4:=by have:=qQ ht2;omega
    subst ht2;refine qa ?_;intros;refine⟨m-1,oM,_,_,_,[],?wc,1,out,oM,ho,rfl,rfl,rfl⟩
    case wc=>exact ql
  |1,_=>
   refine qa ?_;intros;refine qm (fun m E S nk=>∃(c:Nat) (out:List qd),c+m=4/\out=wP v q (4+c)/\E=[(3,.one (.ptr 0 0)),(5,.one (.f (.sl 1 2 [.c (.int .u8 60),.c (.int .u8 v)]))),(6,.one (.own 1 0 out.length 2)),(7,.int (1:Nat)),(11,.int (1:Nat)),(16,.int 4),(17,.int c)]/\S=[(0,.cells [.f (.c (.int .i64 q.1)),.f (.c (.int .i64 q.2))]),(1,.data (out.flatMap qh))]/\nk=2) ⟨4,_,_,_,[],?wk1,0,out,oM,ho,rfl,rfl,rfl⟩ ?_
   case wk1=>exact ql
   rintro m2 E S nk ⟨c,out,hc,ho,rfl,rfl,rfl⟩;have hol:=vV v q (4+c);rw [<-ho] at hol;have hfl:=qL out;refine qa ?_;intros;refine qb rfl (fun ht2=>?_) (fun ht2=>?_)
   ·have ht2:c<4:=by have:=qG ht2;omega
    match c,ht2 with
    |0,_=>
     have w3:IntKind.i64.wrap (2*q.1+((0:Nat):Int))=2*q.1+((0:Nat):Int):=qg oM oM;have w4:IntKind.i64.wrap (3*q.2+((1:Nat):Int))=3*q.2+((1:Nat):Int):=qg oM oM;refine qa ?_;intros;refine xU (j:=0) (q:=[.c (.int .u8 60)]) rfl rfl (by decide) (by decide) rfl ?_;refine qa ?_;intros;refine qb rfl (fun hb=>?_) (fun hb=>?_)
     ·have hb:xV v 4=true:=hb;refine qa ?_;intros;refine qy (m:=1) (q:=qh (qC q 4)) rfl rfl rfl (qp _ hfl) ⟨rfl,rfl,_,rfl,by rw [w1,w2,w3,w4];rfl⟩ (by omega) (by omega) (by decide) rfl ?_;rw [show out.flatMap qh++qh (qC q 4)=(out++[qC q 4]).flatMap qh by simp,show out.length+1=(out++[qC q 4]).length by simp];refine qa ?_;intros;refine⟨m2-1,by omega,_,_,_,[(1,3)],?wa,1,out++[qC q 4],by omega,by rw [ho];exact (zG hb).symm,rfl,rfl,rfl⟩
      case wa=>exact ql
     ·have hb:xV v 4=false:=hb;refine qa ?_;intros;refine⟨m2-1,by omega,_,_,_,[],?wb,1,out,by omega,by rw [ho];exact (zH hb).symm,rfl,rfl,rfl⟩
      case wb=>exact ql
    |1,_=>
     have w3:IntKind.i64.wrap (2*q.1+((1:Nat):Int))=2*q.1+((1:Nat):Int):=qg oM oM;have w4:IntKind.i64.wrap (3*q.2+((1:Nat):Int))=3*q.2+((1:Nat):Int):=qg oM oM;refine qa ?_;intros;refine xU (j:=0) (q:=[.c (.int .u8 60)]) rfl rfl (by decide) (by decide) rfl ?_;refine qa ?_;intros;refine qb rfl (fun hb=>?_) (fun hb=>?_)
     ·have hb:xV v 5=true:=hb;refine qa ?_;intros;refine qy (m:=1) (q:=qh (qC q 5)) rfl rfl rfl (qp _ hfl) ⟨rfl,rfl,_,rfl,by rw [w1,w2,w3,w4];rfl⟩ (by omega) (by omega) (by decide) rfl ?_;rw [show out.flatMap qh++qh (qC q 5)=(out++[qC q 5]).flatMap qh by simp,show out.length+1=(out++[qC q 5]).length by simp];refine qa ?_;intros;refine⟨m2-1,by omega,_,_,_,[(1,3)],?wa,2,out++[qC q 5],by omega,by rw [ho];exact (zG hb).symm,rfl,rfl,rfl⟩
      case wa=>exact ql
     ·have hb:xV v 5=false:=hb;refine qa ?_;intros;refine⟨m2-1,by omega,_,_,_,[],?wb,2,out,by omega,by rw [ho];exact (zH hb).symm,rfl,rfl,rfl⟩
      case wb=>exact ql
    |2,_=>
     have w3:IntKind.i64.wrap (2*q.1+((2:Nat):Int))=2*q.1+((2:Nat):Int):=qg oM oM;have w4:IntKind.i64.wrap (3*q.2+((1:Nat):Int))=3*q.2+((1:Nat):Int):=qg oM oM;refine qa ?_;intros;refine xU (j:=1) (q:=[.c (.int .u8 v)]) rfl rfl (by decide) (by decide) rfl ?_;refine qa ?_;intros;refine qb rfl (fun hb=>?_) (fun hb=>?_)
     ·have hb:xV v 6=true:=hb;refine qa ?_;intros;refine qy (m:=1) (q:=qh (qC q 6)) rfl rfl rfl (qp _ hfl) ⟨rfl,rfl,_,rfl,by rw [w1,w2,w3,w4];rfl⟩ (by omega) (by omega) (by decide) rfl ?_;rw [show out.flatMap qh++qh (qC q 6)=(out++[qC q 6]).flatMap qh by simp,show out.length+1=(out++[qC q 6]).length by simp];refine qa ?_;intros;refine⟨m2-1,by omega,_,_,_,[(1,3)],?wa,3,out++[qC q 6],by omega,by rw [ho];exact (zG hb).symm,rfl,rfl,rfl⟩
      case wa=>exact ql
     ·have hb:xV v 6=false:=hb;refine qa ?_;intros;refine⟨m2-1,by omega,_,_,_,[],?wb,3,out,by omega,by rw [ho];exact (zH hb).symm,rfl,rfl,rfl⟩
      case wb=>exact ql
    |3,_=>
     have w3:IntKind.i64.wrap (2*q.1+((3:Nat):Int))=2*q.1+((3:Nat):Int):=qg oM oM;have w4:IntKind.i64.wrap (3*q.2+((1:Nat):Int))=3*q.2+((1:Nat):Int):=qg oM oM;refine qa ?_;intros;refine xU (j:=1) (q:=[.c (.int .u8 v)]) rfl rfl (by decide) (by decide) rfl ?_;refine qa ?_;intros;refine qb rfl (fun hb=>?_) (fun hb=>?_)
     ·have hb:xV v 7=true:=hb;refine qa ?_;intros;refine qy (m:=1) (q:=qh (qC q 7)) rfl rfl rfl (qp _ hfl) ⟨rfl,rfl,_,rfl,by rw [w1,w2,w3,w4];rfl⟩ (by omega) (by omega) (by decide) rfl ?_;rw [show out.flatMap qh++qh (qC q 7)=(out++[qC q 7]).flatMap qh by simp,show out.length+1=(out++[qC q 7]).length by simp];refine qa ?_;intros;refine⟨m2-1,by omega,_,_,_,[(1,3)],?wa,4,out++[qC q 7],by omega,by rw [ho];exact (zG hb).symm,rfl,rfl,rfl⟩
      case wa=>exact ql
     ·have hb:xV v 7=false:=hb;refine qa ?_;intros;refine⟨m2-1,by omega,_,_,_,[],?wb,4,out,by omega,by rw [ho];exact (zH hb).symm,rfl,rfl,rfl⟩
      case wb=>exact ql
    |c+4,h=>omega
   ·have ht2:c=4:=by have:=qQ ht2;omega
    subst ht2;refine qa ?_;intros;refine⟨m-1,oM,_,_,_,[],?wc,2,out,oM,ho,rfl,rfl,rfl⟩
    case wc=>exact ql
  |2,_=>
   refine qa ?_;intros;refine qm (fun m E S nk=>∃(c:Nat) (out:List qd),c+m=4/\out=wP v q (8+c)/\E=[(3,.one (.ptr 0 0)),(5,.one (.f (.sl 1 2 [.c (.int .u8 60),.c (.int .u8 v)]))),(6,.one (.own 1 0 out.length 2)),(7,.int (2:Nat)),(11,.int (2:Nat)),(16,.int 4),(17,.int c)]/\S=[(0,.cells [.f (.c (.int .i64 q.1)),.f (.c (.int .i64 q.2))]),(1,.data (out.flatMap qh))]/\nk=2) ⟨4,_,_,_,[],?wk2,0,out,oM,ho,rfl,rfl,rfl⟩ ?_
   case wk2=>exact ql
   rintro m2 E S nk ⟨c,out,hc,ho,rfl,rfl,rfl⟩;have hol:=vV v q (8+c);rw [<-ho] at hol;have hfl:=qL out;refine qa ?_;intros;refine qb rfl (fun ht2=>?_) (fun ht2=>?_)
   ·have ht2:c<4:=by have:=qG ht2;omega
    match c,ht2 with
    |0,_=>
     have w3:IntKind.i64.wrap (2*q.1+((0:Nat):Int))=2*q.1+((0:Nat):Int):=qg oM oM;have w4:IntKind.i64.wrap (3*q.2+((2:Nat):Int))=3*q.2+((2:Nat):Int):=qg oM oM;refine qa ?_;intros;refine xU (j:=0) (q:=[.c (.int .u8 60)]) rfl rfl (by decide) (by decide) rfl ?_;refine qa ?_;intros;refine qb rfl (fun hb=>?_) (fun hb=>?_)
     ·have hb:xV v 8=true:=hb;refine qa ?_;intros;refine qy (m:=1) (q:=qh (qC q 8)) rfl rfl rfl (qp _ hfl) ⟨rfl,rfl,_,rfl,by rw [w1,w2,w3,w4];rfl⟩ (by omega) (by omega) (by decide) rfl ?_;rw [show out.flatMap qh++qh (qC q 8)=(out++[qC q 8]).flatMap qh by simp,show out.length+1=(out++[qC q 8]).length by simp];refine qa ?_;intros;refine⟨m2-1,by omega,_,_,_,[(1,3)],?wa,1,out++[qC q 8],by omega,by rw [ho];exact (zG hb).symm,rfl,rfl,rfl⟩
      case wa=>exact ql
     ·have hb:xV v 8=false:=hb;refine qa ?_;intros;refine⟨m2-1,by omega,_,_,_,[],?wb,1,out,by omega,by rw [ho];exact (zH hb).symm,rfl,rfl,rfl⟩
      case wb=>exact ql
    |1,_=>
     have w3:IntKind.i64.wrap (2*q.1+((1:Nat):Int))=2*q.1+((1:Nat):Int):=qg oM oM;have w4:IntKind.i64.wrap (3*q.2+((2:Nat):Int))=3*q.2+((2:Nat):Int):=qg oM oM;refine qa ?_;intros;refine xU (j:=0) (q:=[.c (.int .u8 60)]) rfl rfl (by decide) (by decide) rfl ?_;refine qa ?_;intros;refine qb rfl (fun hb=>?_) (fun hb=>?_)
     ·have hb:xV v 9=true:=hb;refine qa ?_;intros;refine qy (m:=1) (q:=qh (qC q 9)) rfl rfl rfl (qp _ hfl) ⟨rfl,rfl,_,rfl,by rw [w1,w2,w3,w4];rfl⟩ (by omega) (by omega) (by decide) rfl ?_;rw [show out.flatMap qh++qh (qC q 9)=(out++[qC q 9]).flatMap qh by simp,show out.length+1=(out++[qC q 9]).length by simp];refine qa ?_;intros;refine⟨m2-1,by omega,_,_,_,[(1,3)],?wa,2,out++[qC q 9],by omega,by rw [ho];exact (zG hb).symm,rfl,rfl,rfl⟩
      case wa=>exact ql
     ·have hb:xV v 9=false:=hb;refine qa ?_;intros;refine⟨m2-1,by omega,_,_,_,[],?wb,2,out,by omega,by rw [ho];exact (zH hb).symm,rfl,rfl,rfl⟩
      case wb=>exact ql
    |2,_=>
     have w3:IntKind.i64.wrap (2*q.1+((2:Nat):Int))=2*q.1+((2:Nat):Int):=qg oM oM;have w4:IntKind.i64.wrap (3*q.2+((2:Nat):Int))=3*q.2+((2:Nat):Int):=qg oM oM;refine qa ?_;intros;refine xU (j:=1) (q:=[.c (.int .u8 v)]) rfl rfl (by decide) (by decide) rfl ?_;refine qa ?_;intros;refine qb rfl (fun hb=>?_) (fun hb=>?_)
     ·have hb:xV v 10=true:=hb;refine qa ?_;intros;refine qy (m:=1) (q:=qh (qC q 10)) rfl rfl rfl (qp _ hfl) ⟨rfl,rfl,_,rfl,by rw [w1,w2,w3,w4];rfl⟩ (by omega) (by omega) (by decide) rfl ?_;rw [show out.flatMap qh++qh (qC q 10)=(out++[qC q 10]).flatMap qh by simp,show out.length+1=(out++[qC q 10]).length by simp];refine qa ?_;intros;refine⟨m2-1,by omega,_,_,_,[(1,3)],?wa,3,out++[qC q 10],by omega,by rw [ho];exact (zG hb).symm,rfl,rfl,rfl⟩
      case wa=>exact ql
     ·have hb:xV v 10=false:=hb;refine qa ?_;intros;refine⟨m2-1,by omega,_,_,_,[],?wb,3,out,by omega,by rw [ho];exact (zH hb).symm,rfl,rfl,rfl⟩
      case wb=>exact ql
    |3,_=>
     have w3:IntKind.i64.wrap (2*q.1+((3:Nat):Int))=2*q.1+((3:Nat):Int):=qg oM oM;have w4:IntKind.i64.wrap (3*q.2+((2:Nat):Int))=3*q.2+((2:Nat):Int):=qg oM oM;refine qa ?_;intros;refine xU (j:=1) (q:=[.c (.int .u8 v)]) rfl rfl (by decide) (by decide) rfl ?_;refine qa ?_;intros;refine qb rfl (fun hb=>?_) (fun hb=>?_)
     ·have hb:xV v 11=true:=hb;refine qa ?_;intros;refine qy (m:=1) (q:=qh (qC q 11)) rfl rfl rfl (qp _ hfl) ⟨rfl,rfl,_,rfl,by rw [w1,w2,w3,w4];rfl⟩ (by omega) (by omega) (by decide) rfl ?_;rw [show out.flatMap qh++qh (qC q 11)=(out++[qC q 11]).flatMap qh by simp,show out.length+1=(out++[qC q 11]).length by simp];refine qa ?_;intros;refine⟨m2-1,by omega,_,_,_,[(1,3)],?wa,4,out++[qC q 11],by omega,by rw [ho];exact (zG hb).symm,rfl,rfl,rfl⟩
      case wa=>exact ql
     ·have hb:xV v 11=false:=hb;refine qa ?_;intros;refine⟨m2-1,by omega,_,_,_,[],?wb,4,out,by omega,by rw [ho];exact (zH hb).symm,rfl,rfl,rfl⟩
      case wb=>exact ql
    |c+4,h=>omega
   ·have ht2:c=4:=by have:=qQ ht2;omega
    subst ht2;refine qa ?_;intros;refine⟨m-1,oM,_,_,_,[],?wc,3,out,oM,ho,rfl,rfl,rfl⟩
    case wc=>exact ql
  |r+3,h=>omega
 ·have ht:r=3:=by have:=qQ ht;omega
  subst ht;have hfl:=qL out;refine qa ?_;intros;refine qu (qf (k:=4) rfl (qw _)) (qf (k:=1) rfl (qw _)) ?_;refine qH 1 rfl qD qD ?_;refine qc ⟨_,rfl,rfl,?_⟩;rw [show wP v q 12=out from ho.symm];rfl
theorem Yw{i:Nat}{q:qd}(hi:i<8)(hq:qB 1000000 q):DK 165 [.int i,xI q] fun d=>d=qx (xO i q):=by
 refine qI fun Z0 lo=>?_;unfold qB at hq;have w1:IntKind.i64.wrap (2*q.1)=2*q.1:=qg oM oM;have w2:IntKind.i64.wrap (3*q.2)=3*q.2:=qg oM oM;refine qa ?_;intros;refine qj rfl rfl (D2 hi) ?_;rintro _ rfl;unfold Wr xO;generalize GD i=v;refine qa ?_;intros;refine qm (fun m E S nk=>∃(r:Nat) (out:List qd),r+m=3/\out=wP v q (4*r)/\E=[(3,.one (.ptr 0 0)),(5,.one (.own 1 0 out.length 2)),(6,.one (.f (.sl 1 2 [.c (.int .u8 60),.c (.int .u8 v)]))),(7,.int r)]/\S=[(0,.cells [.f (.c (.int .i64 q.1)),.f (.c (.int .i64 q.2))]),(1,.data (out.flatMap qh))]/\nk=2) ⟨3,_,_,_,[],?wk,0,[],oM,rfl,rfl,rfl,rfl⟩ ?_
 case wk=>exact ql
 rintro m E S nk ⟨r,out,hr,ho,rfl,rfl,rfl⟩;refine qa ?_;intros;refine qb rfl (fun ht=>?_) (fun ht=>?_)
 ·have ht:r<3:=by have:=qG ht;omega
  match r,ht with
  |0,_=>
   refine qa ?_;intros;refine qm (fun m E S nk=>∃(c:Nat) (out:List qd),c+m=4/\out=wP v q (0+c)/\E=[(3,.one (.ptr 0 0)),(5,.one (.own 1 0 out.length 2)),(6,.one (.f (.sl 1 2 [.c (.int .u8 60),.c (.int .u8 v)]))),(7,.int (0:Nat)),(8,.int c)]/\S=[(0,.cells [.f (.c (.int .i64 q.1)),.f (.c (.int .i64 q.2))]),(1,.data (out.flatMap qh))]/\nk=2) ⟨4,_,_,_,[],?wk0,0,out,oM,ho,rfl,rfl,rfl⟩ ?_
   case wk0=>exact ql
   rintro m2 E S nk ⟨c,out,hc,ho,rfl,rfl,rfl⟩;have hol:=vV v q (0+c);rw [<-ho] at hol;have hfl:=qL out;refine qa ?_;intros;refine qb rfl (fun ht2=>?_) (fun ht2=>?_)
   ·have ht2:c<4:=by have:=qG ht2;omega
    match c,ht2 with
    |0,_=>
     have w3:IntKind.i64.wrap (2*q.1+((0:Nat):Int))=2*q.1+((0:Nat):Int):=qg oM oM;have w4:IntKind.i64.wrap (3*q.2+((0:Nat):Int))=3*q.2+((0:Nat):Int):=qg oM oM;refine qa ?_;intros;refine xU (j:=0) (q:=[.c (.int .u8 60)]) rfl rfl (by decide) (by decide) rfl ?_;refine qa ?_;intros;refine qb rfl (fun hb=>?_) (fun hb=>?_)
     ·have hb:xV v 0=true:=hb;refine qa ?_;intros;refine qy (m:=1) (q:=qh (qC q 0)) rfl rfl rfl (qp _ hfl) ⟨rfl,rfl,_,rfl,by rw [w1,w2,w3,w4];rfl⟩ (by omega) (by omega) (by decide) rfl ?_;rw [show out.flatMap qh++qh (qC q 0)=(out++[qC q 0]).flatMap qh by simp,show out.length+1=(out++[qC q 0]).length by simp];refine qa ?_;intros;refine⟨m2-1,by omega,_,_,_,[(1,3)],?wa,1,out++[qC q 0],by omega,by rw [ho];exact (zG hb).symm,rfl,rfl,rfl⟩
      case wa=>exact ql
     ·have hb:xV v 0=false:=hb;refine qa ?_;intros;refine⟨m2-1,by omega,_,_,_,[],?wb,1,out,by omega,by rw [ho];exact (zH hb).symm,rfl,rfl,rfl⟩
      case wb=>exact ql
    |1,_=>
     have w3:IntKind.i64.wrap (2*q.1+((1:Nat):Int))=2*q.1+((1:Nat):Int):=qg oM oM;have w4:IntKind.i64.wrap (3*q.2+((0:Nat):Int))=3*q.2+((0:Nat):Int):=qg oM oM;refine qa ?_;intros;refine xU (j:=0) (q:=[.c (.int .u8 60)]) rfl rfl (by decide) (by decide) rfl ?_;refine qa ?_;intros;refine qb rfl (fun hb=>?_) (fun hb=>?_)
     ·have hb:xV v 1=true:=hb;refine qa ?_;intros;refine qy (m:=1) (q:=qh (qC q 1)) rfl rfl rfl (qp _ hfl) ⟨rfl,rfl,_,rfl,by rw [w1,w2,w3,w4];rfl⟩ (by omega) (by omega) (by decide) rfl ?_;rw [show out.flatMap qh++qh (qC q 1)=(out++[qC q 1]).flatMap qh by simp,show out.length+1=(out++[qC q 1]).length by simp];refine qa ?_;intros;refine⟨m2-1,by omega,_,_,_,[(1,3)],?wa,2,out++[qC q 1],by omega,by rw [ho];exact (zG hb).symm,rfl,rfl,rfl⟩
      case wa=>exact ql
     ·have hb:xV v 1=false:=hb;refine qa ?_;intros;refine⟨m2-1,by omega,_,_,_,[],?wb,2,out,by omega,by rw [ho];exact (zH hb).symm,rfl,rfl,rfl⟩
      case wb=>exact ql
    |2,_=>
     have w3:IntKind.i64.wrap (2*q.1+((2:Nat):Int))=2*q.1+((2:Nat):Int):=qg oM oM;have w4:IntKind.i64.wrap (3*q.2+((0:Nat):Int))=3*q.2+((0:Nat):Int):=qg oM oM;refine qa ?_;intros;refine xU (j:=1) (q:=[.c (.int .u8 v)]) rfl rfl (by decide) (by decide) rfl ?_;refine qa ?_;intros;refine qb rfl (fun hb=>?_) (fun hb=>?_)
     ·have hb:xV v 2=true:=hb;refine qa ?_;intros;refine qy (m:=1) (q:=qh (qC q 2)) rfl rfl rfl (qp _ hfl) ⟨rfl,rfl,_,rfl,by rw [w1,w2,w3,w4];rfl⟩ (by omega) (by omega) (by decide) rfl ?_;rw [show out.flatMap qh++qh (qC q 2)=(out++[qC q 2]).flatMap qh by simp,show out.length+1=(out++[qC q 2]).length by simp];refine qa ?_;intros;refine⟨m2-1,by omega,_,_,_,[(1,3)],?wa,3,out++[qC q 2],by omega,by rw [ho];exact (zG hb).symm,rfl,rfl,rfl⟩
      case wa=>exact ql
     ·have hb:xV v 2=false:=hb;refine qa ?_;intros;refine⟨m2-1,by omega,_,_,_,[],?wb,3,out,by omega,by rw [ho];exact (zH hb).symm,rfl,rfl,rfl⟩
      case wb=>exact ql
    |3,_=>
     have w3:IntKind.i64.wrap (2*q.1+((3:Nat):Int))=2*q.1+((3:Nat):Int):=qg oM oM;have w4:IntKind.i64.wrap (3*q.2+((0:Nat):Int))=3*q.2+((0:Nat):Int):=qg oM oM;refine qa ?_;intros;refine xU (j:=1) (q:=[.c (.int .u8 v)]) rfl rfl (by decide) (by decide) rfl ?_;refine qa ?_;intros;refine qb rfl (fun hb=>?_) (fun hb=>?_)
     ·have hb:xV v 3=true:=hb;refine qa ?_;intros;refine qy (m:=1) (q:=qh (qC q 3)) rfl rfl rfl (qp _ hfl) ⟨rfl,rfl,_,rfl,by rw [w1,w2,w3,w4];rfl⟩ (by omega) (by omega) (by decide) rfl ?_;rw [show out.flatMap qh++qh (qC q 3)=(out++[qC q 3]).flatMap qh by simp,show out.length+1=(out++[qC q 3]).length by simp];refine qa ?_;intros;refine⟨m2-1,by omega,_,_,_,[(1,3)],?wa,4,out++[qC q 3],by omega,by rw [ho];exact (zG hb).symm,rfl,rfl,rfl⟩
      case wa=>exact ql
     ·have hb:xV v 3=false:=hb;refine qa ?_;intros;refine⟨m2-1,by omega,_,_,_,[],?wb,4,out,by omega,by rw [ho];exact (zH hb).symm,rfl,rfl,rfl⟩
      case wb=>exact ql
    |c+4,h=>omega
   ·have ht2:c=4:=by have:=qQ ht2;omega
    subst ht2;refine qa ?_;intros;refine⟨m-1,oM,_,_,_,[],?wc,1,out,oM,ho,rfl,rfl,rfl⟩
    case wc=>exact ql
  |1,_=>
   refine qa ?_;intros;refine qm (fun m E S nk=>∃(c:Nat) (out:List qd),c+m=4/\out=wP v q (4+c)/\E=[(3,.one (.ptr 0 0)),(5,.one (.own 1 0 out.length 2)),(6,.one (.f (.sl 1 2 [.c (.int .u8 60),.c (.int .u8 v)]))),(7,.int (1:Nat)),(8,.int c)]/\S=[(0,.cells [.f (.c (.int .i64 q.1)),.f (.c (.int .i64 q.2))]),(1,.data (out.flatMap qh))]/\nk=2) ⟨4,_,_,_,[],?wk1,0,out,oM,ho,rfl,rfl,rfl⟩ ?_
   case wk1=>exact ql
   rintro m2 E S nk ⟨c,out,hc,ho,rfl,rfl,rfl⟩;have hol:=vV v q (4+c);rw [<-ho] at hol;have hfl:=qL out;refine qa ?_;intros;refine qb rfl (fun ht2=>?_) (fun ht2=>?_)
   ·have ht2:c<4:=by have:=qG ht2;omega
    match c,ht2 with
    |0,_=>
     have w3:IntKind.i64.wrap (2*q.1+((0:Nat):Int))=2*q.1+((0:Nat):Int):=qg oM oM;have w4:IntKind.i64.wrap (3*q.2+((1:Nat):Int))=3*q.2+((1:Nat):Int):=qg oM oM;refine qa ?_;intros;refine xU (j:=0) (q:=[.c (.int .u8 60)]) rfl rfl (by decide) (by decide) rfl ?_;refine qa ?_;intros;refine qb rfl (fun hb=>?_) (fun hb=>?_)
     ·have hb:xV v 4=true:=hb;refine qa ?_;intros;refine qy (m:=1) (q:=qh (qC q 4)) rfl rfl rfl (qp _ hfl) ⟨rfl,rfl,_,rfl,by rw [w1,w2,w3,w4];rfl⟩ (by omega) (by omega) (by decide) rfl ?_;rw [show out.flatMap qh++qh (qC q 4)=(out++[qC q 4]).flatMap qh by simp,show out.length+1=(out++[qC q 4]).length by simp];refine qa ?_;intros;refine⟨m2-1,by omega,_,_,_,[(1,3)],?wa,1,out++[qC q 4],by omega,by rw [ho];exact (zG hb).symm,rfl,rfl,rfl⟩
      case wa=>exact ql
     ·have hb:xV v 4=false:=hb;refine qa ?_;intros;refine⟨m2-1,by omega,_,_,_,[],?wb,1,out,by omega,by rw [ho];exact (zH hb).symm,rfl,rfl,rfl⟩
      case wb=>exact ql
    |1,_=>
     have w3:IntKind.i64.wrap (2*q.1+((1:Nat):Int))=2*q.1+((1:Nat):Int):=qg oM oM;have w4:IntKind.i64.wrap (3*q.2+((1:Nat):Int))=3*q.2+((1:Nat):Int):=qg oM oM;refine qa ?_;intros;refine xU (j:=0) (q:=[.c (.int .u8 60)]) rfl rfl (by decide) (by decide) rfl ?_;refine qa ?_;intros;refine qb rfl (fun hb=>?_) (fun hb=>?_)
     ·have hb:xV v 5=true:=hb;refine qa ?_;intros;refine qy (m:=1) (q:=qh (qC q 5)) rfl rfl rfl (qp _ hfl) ⟨rfl,rfl,_,rfl,by rw [w1,w2,w3,w4];rfl⟩ (by omega) (by omega) (by decide) rfl ?_;rw [show out.flatMap qh++qh (qC q 5)=(out++[qC q 5]).flatMap qh by simp,show out.length+1=(out++[qC q 5]).length by simp];refine qa ?_;intros;refine⟨m2-1,by omega,_,_,_,[(1,3)],?wa,2,out++[qC q 5],by omega,by rw [ho];exact (zG hb).symm,rfl,rfl,rfl⟩
      case wa=>exact ql
     ·have hb:xV v 5=false:=hb;refine qa ?_;intros;refine⟨m2-1,by omega,_,_,_,[],?wb,2,out,by omega,by rw [ho];exact (zH hb).symm,rfl,rfl,rfl⟩
      case wb=>exact ql
    |2,_=>
     have w3:IntKind.i64.wrap (2*q.1+((2:Nat):Int))=2*q.1+((2:Nat):Int):=qg oM oM;have w4:IntKind.i64.wrap (3*q.2+((1:Nat):Int))=3*q.2+((1:Nat):Int):=qg oM oM;refine qa ?_;intros;refine xU (j:=1) (q:=[.c (.int .u8 v)]) rfl rfl (by decide) (by decide) rfl ?_;refine qa ?_;intros;refine qb rfl (fun hb=>?_) (fun hb=>?_)
     ·have hb:xV v 6=true:=hb;refine qa ?_;intros;refine qy (m:=1) (q:=qh (qC q 6)) rfl rfl rfl (qp _ hfl) ⟨rfl,rfl,_,rfl,by rw [w1,w2,w3,w4];rfl⟩ (by omega) (by omega) (by decide) rfl ?_;rw [show out.flatMap qh++qh (qC q 6)=(out++[qC q 6]).flatMap qh by simp,show out.length+1=(out++[qC q 6]).length by simp];refine qa ?_;intros;refine⟨m2-1,by omega,_,_,_,[(1,3)],?wa,3,out++[qC q 6],by omega,by rw [ho];exact (zG hb).symm,rfl,rfl,rfl⟩
      case wa=>exact ql
     ·have hb:xV v 6=false:=hb;refine qa ?_;intros;refine⟨m2-1,by omega,_,_,_,[],?wb,3,out,by omega,by rw [ho];exact (zH hb).symm,rfl,rfl,rfl⟩
      case wb=>exact ql
    |3,_=>
     have w3:IntKind.i64.wrap (2*q.1+((3:Nat):Int))=2*q.1+((3:Nat):Int):=qg oM oM;have w4:IntKind.i64.wrap (3*q.2+((1:Nat):Int))=3*q.2+((1:Nat):Int):=qg oM oM;refine qa ?_;intros;refine xU (j:=1) (q:=[.c (.int .u8 v)]) rfl rfl (by decide) (by decide) rfl ?_;refine qa ?_;intros;refine qb rfl (fun hb=>?_) (fun hb=>?_)
     ·have hb:xV v 7=true:=hb;refine qa ?_;intros;refine qy (m:=1) (q:=qh (qC q 7)) rfl rfl rfl (qp _ hfl) ⟨rfl,rfl,_,rfl,by rw [w1,w2,w3,w4];rfl⟩ (by omega) (by omega) (by decide) rfl ?_;rw [show out.flatMap qh++qh (qC q 7)=(out++[qC q 7]).flatMap qh by simp,show out.length+1=(out++[qC q 7]).length by simp];refine qa ?_;intros;refine⟨m2-1,by omega,_,_,_,[(1,3)],?wa,4,out++[qC q 7],by omega,by rw [ho];exact (zG hb).symm,rfl,rfl,rfl⟩
      case wa=>exact ql
     ·have hb:xV v 7=false:=hb;refine qa ?_;intros;refine⟨m2-1,by omega,_,_,_,[],?wb,4,out,by omega,by rw [ho];exact (zH hb).symm,rfl,rfl,rfl⟩
      case wb=>exact ql
    |c+4,h=>omega
   ·have ht2:c=4:=by have:=qQ ht2;omega
    subst ht2;refine qa ?_;intros;refine⟨m-1,oM,_,_,_,[],?wc,2,out,oM,ho,rfl,rfl,rfl⟩
    case wc=>exact ql
  |2,_=>
   refine qa ?_;intros;refine qm (fun m E S nk=>∃(c:Nat) (out:List qd),c+m=4/\out=wP v q (8+c)/\E=[(3,.one (.ptr 0 0)),(5,.one (.own 1 0 out.length 2)),(6,.one (.f (.sl 1 2 [.c (.int .u8 60),.c (.int .u8 v)]))),(7,.int (2:Nat)),(8,.int c)]/\S=[(0,.cells [.f (.c (.int .i64 q.1)),.f (.c (.int .i64 q.2))]),(1,.data (out.flatMap qh))]/\nk=2) ⟨4,_,_,_,[],?wk2,0,out,oM,ho,rfl,rfl,rfl⟩ ?_
   case wk2=>exact ql
   rintro m2 E S nk ⟨c,out,hc,ho,rfl,rfl,rfl⟩;have hol:=vV v q (8+c);rw [<-ho] at hol;have hfl:=qL out;refine qa ?_;intros;refine qb rfl (fun ht2=>?_) (fun ht2=>?_)
   ·have ht2:c<4:=by have:=qG ht2;omega
    match c,ht2 with
    |0,_=>
     have w3:IntKind.i64.wrap (2*q.1+((0:Nat):Int))=2*q.1+((0:Nat):Int):=qg oM oM;have w4:IntKind.i64.wrap (3*q.2+((2:Nat):Int))=3*q.2+((2:Nat):Int):=qg oM oM;refine qa ?_;intros;refine xU (j:=0) (q:=[.c (.int .u8 60)]) rfl rfl (by decide) (by decide) rfl ?_;refine qa ?_;intros;refine qb rfl (fun hb=>?_) (fun hb=>?_)
     ·have hb:xV v 8=true:=hb;refine qa ?_;intros;refine qy (m:=1) (q:=qh (qC q 8)) rfl rfl rfl (qp _ hfl) ⟨rfl,rfl,_,rfl,by rw [w1,w2,w3,w4];rfl⟩ (by omega) (by omega) (by decide) rfl ?_;rw [show out.flatMap qh++qh (qC q 8)=(out++[qC q 8]).flatMap qh by simp,show out.length+1=(out++[qC q 8]).length by simp];refine qa ?_;intros;refine⟨m2-1,by omega,_,_,_,[(1,3)],?wa,1,out++[qC q 8],by omega,by rw [ho];exact (zG hb).symm,rfl,rfl,rfl⟩
      case wa=>exact ql
     ·have hb:xV v 8=false:=hb;refine qa ?_;intros;refine⟨m2-1,by omega,_,_,_,[],?wb,1,out,by omega,by rw [ho];exact (zH hb).symm,rfl,rfl,rfl⟩
      case wb=>exact ql
    |1,_=>
     have w3:IntKind.i64.wrap (2*q.1+((1:Nat):Int))=2*q.1+((1:Nat):Int):=qg oM oM;have w4:IntKind.i64.wrap (3*q.2+((2:Nat):Int))=3*q.2+((2:Nat):Int):=qg oM oM;refine qa ?_;intros;refine xU (j:=0) (q:=[.c (.int .u8 60)]) rfl rfl (by decide) (by decide) rfl ?_;refine qa ?_;intros;refine qb rfl (fun hb=>?_) (fun hb=>?_)
     ·have hb:xV v 9=true:=hb;refine qa ?_;intros;refine qy (m:=1) (q:=qh (qC q 9)) rfl rfl rfl (qp _ hfl) ⟨rfl,rfl,_,rfl,by rw [w1,w2,w3,w4];rfl⟩ (by omega) (by omega) (by decide) rfl ?_;rw [show out.flatMap qh++qh (qC q 9)=(out++[qC q 9]).flatMap qh by simp,show out.length+1=(out++[qC q 9]).length by simp];refine qa ?_;intros;refine⟨m2-1,by omega,_,_,_,[(1,3)],?wa,2,out++[qC q 9],by omega,by rw [ho];exact (zG hb).symm,rfl,rfl,rfl⟩
      case wa=>exact ql
     ·have hb:xV v 9=false:=hb;refine qa ?_;intros;refine⟨m2-1,by omega,_,_,_,[],?wb,2,out,by omega,by rw [ho];exact (zH hb).symm,rfl,rfl,rfl⟩
      case wb=>exact ql
    |2,_=>
     have w3:IntKind.i64.wrap (2*q.1+((2:Nat):Int))=2*q.1+((2:Nat):Int):=qg oM oM;have w4:IntKind.i64.wrap (3*q.2+((2:Nat):Int))=3*q.2+((2:Nat):Int):=qg oM oM;refine qa ?_;intros;refine xU (j:=1) (q:=[.c (.int .u8 v)]) rfl rfl (by decide) (by decide) rfl ?_;refine qa ?_;intros;refine qb rfl (fun hb=>?_) (fun hb=>?_)
     ·have hb:xV v 10=true:=hb;refine qa ?_;intros;refine qy (m:=1) (q:=qh (qC q 10)) rfl rfl rfl (qp _ hfl) ⟨rfl,rfl,_,rfl,by rw [w1,w2,w3,w4];rfl⟩ (by omega) (by omega) (by decide) rfl ?_;rw [show out.flatMap qh++qh (qC q 10)=(out++[qC q 10]).flatMap qh by simp,show out.length+1=(out++[qC q 10]).length by simp];refine qa ?_;intros;refine⟨m2-1,by omega,_,_,_,[(1,3)],?wa,3,out++[qC q 10],by omega,by rw [ho];exact (zG hb).symm,rfl,rfl,rfl⟩
      case wa=>exact ql
     ·have hb:xV v 10=false:=hb;refine qa ?_;intros;refine⟨m2-1,by omega,_,_,_,[],?wb,3,out,by omega,by rw [ho];exact (zH hb).symm,rfl,rfl,rfl⟩
      case wb=>exact ql
    |3,_=>
     have w3:IntKind.i64.wrap (2*q.1+((3:Nat):Int))=2*q.1+((3:Nat):Int):=qg oM oM;have w4:IntKind.i64.wrap (3*q.2+((2:Nat):Int))=3*q.2+((2:Nat):Int):=qg oM oM;refine qa ?_;intros;refine xU (j:=1) (q:=[.c (.int .u8 v)]) rfl rfl (by decide) (by decide) rfl ?_;refine qa ?_;intros;refine qb rfl (fun hb=>?_) (fun hb=>?_)
     ·have hb:xV v 11=true:=hb;refine qa ?_;intros;refine qy (m:=1) (q:=qh (qC q 11)) rfl rfl rfl (qp _ hfl) ⟨rfl,rfl,_,rfl,by rw [w1,w2,w3,w4];rfl⟩ (by omega) (by omega) (by decide) rfl ?_;rw [show out.flatMap qh++qh (qC q 11)=(out++[qC q 11]).flatMap qh by simp,show out.length+1=(out++[qC q 11]).length by simp];refine qa ?_;intros;refine⟨m2-1,by omega,_,_,_,[(1,3)],?wa,4,out++[qC q 11],by omega,by rw [ho];exact (zG hb).symm,rfl,rfl,rfl⟩
      case wa=>exact ql
     ·have hb:xV v 11=false:=hb;refine qa ?_;intros;refine⟨m2-1,by omega,_,_,_,[],?wb,4,out,by omega,by rw [ho];exact (zH hb).symm,rfl,rfl,rfl⟩
      case wb=>exact ql
    |c+4,h=>omega
   ·have ht2:c=4:=by have:=qQ ht2;omega
    subst ht2;refine qa ?_;intros;refine⟨m-1,oM,_,_,_,[],?wc,3,out,oM,ho,rfl,rfl,rfl⟩
    case wc=>exact ql
  |r+3,h=>omega
 ·have ht:r=3:=by have:=qQ ht;omega
  subst ht;have hfl:=qL out;refine qa ?_;intros;refine qu (qf (k:=4) rfl (qw _)) (qf (k:=1) rfl (qw _)) ?_;refine qH 1 rfl qD qD ?_;refine qc ⟨_,rfl,rfl,?_⟩;rw [show wP v q 12=out from ho.symm];rfl
theorem wG{i:Nat}{q:qd}(hq:qB 1000000 q):ki (xO i q):=fun x hx=>by
 unfold xO wP at hx;obtain⟨k,hk,rfl⟩:=List.mem_map.1 hx;have:=List.mem_range.1 (List.mem_filter.1 hk).1;unfold qB at *;simp only [qC];omega
theorem vW(i:Nat)(q:qd):(xO i q).length<=12:=vV _ _ _
def vj(p:Pic)(q:qd):Bool:=((decide (0<=q.1)&&decide (0<=q.2))&&(decide (q.1<=60)&&decide (q.2<=60)))&&(decide (2*(q.1+2)<=p.w)&&decide (3*(q.2+1)<=p.h))
def Zo(g:Int)(d l:List qd):Bool:=!decide (xC d l<=g)
def wh(p:Pic)(i:Nat)(q:qd):Bool:=vj p q&&((qz p).all (Zo p.gap (xO i q))&&decide (xC (xO i q) (((qz p)[i]?).getD [])<=3*p.gap))
theorem UA{p:Pic}{i:Nat}{q:qd}(hv:qJ p=true)(hi:i<p.fs.length)(hq:qB 1000000 q):DK 164 [yz p,.int i,xI q] fun d=>d=.bool (wh p i q):=by
 refine qI fun Z0 lo=>?_;have hl8:=(xr hv).1;have hgap:2<=p.gap/\p.gap<=6:=by
  have:=(xr hv).2.2.2;simp only [jS,xt,xF] at this;exact this.1
 have hds:=wG (i:=i) hq;have hdl:=vW i q;have hsm:=wZ hv;have hpl:(qz p).length=p.fs.length:=by simp [qz]
 have hrp:=Yv (yb hv) oM;have hlp:=Yw (i:=i) (q:=q) oM hq;unfold qB at hq;have w1:IntKind.i64.wrap (q.1+2)=q.1+2:=qg oM oM;have w2:IntKind.i64.wrap (2*(q.1+2))=2*(q.1+2):=qg oM oM;have w3:IntKind.i64.wrap (q.2+1)=q.2+1:=qg oM oM;have w4:IntKind.i64.wrap (3*(q.2+1))=3*(q.2+1):=qg oM oM;have w5:IntKind.i64.wrap (3*p.gap)=3*p.gap:=qg oM oM;refine qa ?_;intros;refine qb rfl (fun ht=>?_) (fun ht=>?_)
 ·rw [qZ,qZ,qZ,qZ,qZ,w1,w2,w3,w4] at ht;simp only [Bool.or_eq_true,xF] at ht;have hb:vj p q=false:=by
   rw [Bool.eq_false_iff];intro h2;simp only [vj,xt,xF] at h2;omega
  refine qa ?_;intros;refine qc ⟨_,rfl,rfl,?_⟩;rw [wh,hb,Bool.false_and]
 ·rw [qZ,qZ,qZ,qZ,qZ,w1,w2,w3,w4] at ht;simp only [Bool.or_eq_false_iff,decide_eq_false_iff_not] at ht;have hb:vj p q=true:=by
   simp only [vj,xt,xF];omega
  have hfit:wh p i q=((qz p).all (Zo p.gap (xO i q))&&decide (xC (xO i q) (((qz p)[i]?).getD [])<=3*p.gap)):=by rw [wh,hb,Bool.true_and]
  rw [hfit];clear hfit ht;generalize qz p=l at *;refine qa ?_;intros;refine qj rfl rfl hrp ?_;rintro _ rfl;refine qj rfl rfl hlp ?_;rintro _ rfl;generalize xO i q=dd at *;refine qa ?_;intros;refine qm (fun m E S nk=>∃k:Nat,k+m=l.length/\(∀(j:Nat) a,j<k->l[j]?=some a->Zo p.gap dd a=true)/\E=[(1,.int i),(3,.one (.ptr 0 0)),(5,.one (.ptr 1 0)),(7,wE l),(8,qx dd),(9,.int k)]/\S=[(0,.cells (yL p)),(1,.cells [.f (.c (.int .i64 q.1)),.f (.c (.int .i64 q.2))])]/\nk=2)
   ⟨l.length,_,_,_,[],?wk,0,oM,fun j a hj=>oM,rfl,rfl,rfl⟩ ?_
  case wk=>exact ql
  rintro m E S nk ⟨k,hk,hok,rfl,rfl,rfl⟩;refine qa ?_;intros;refine qb rfl (fun hk2=>?_) (fun hk2=>?_)
  ·have hk2:k<l.length:=by have:=qG hk2;omega
   obtain⟨a,ha⟩:∃r,l[k]?=some r:=⟨_,zge hk2⟩;have e1:=kH ha;have hsa:=hsm a (zmg ha);refine qa ?_;intros;refine qj rfl rfl (ka hds (wl hsa.1) oM oM) ?_;rintro _ rfl;refine qa ?_;intros;refine qb rfl (fun hd=>?_) (fun hd=>?_)
   ·refine qa ?_;intros;refine qc ⟨_,rfl,rfl,?_⟩;rw [j4 ha (by rw [Zo,hd];rfl),Bool.false_and]
   ·refine qa ?_;intros;refine⟨m-1,oM,_,_,_,[],?wk1,k+1,oM,?hno,rfl,rfl,rfl⟩
    case hno=>
     intro j b hj hb;by_cases hjk:j=k
     ·subst hjk;rw [ha] at hb;rw [<-zsi hb,Zo,hd];rfl
     ·exact hok j b oM hb
    case wk1=>exact ql
  ·have hk2:k=l.length:=by have:=qQ hk2;omega
   subst hk2;obtain⟨a,ha⟩:∃r,l[i]?=some r:=⟨_,zge oM⟩;have e1:=kH ha;have hsa:=hsm a (zmg ha);rw [XL hok,Bool.true_and,ha];refine qa ?_;intros;rw [w5];refine qj rfl rfl (ka hds (wl hsa.1) oM oM) ?_;rintro _ rfl;refine qa ?_;intros;exact qc ⟨_,rfl,rfl,rfl⟩
def wx(g:Int)(i:Nat)(a:qd)(k:Nat)(b:qd):Bool:=decide (xC (xO i a) (xO k b)<=g)
def ky(p:Pic)(i y n:Nat):List qd:=((List.range n).map fun x=>(((x:Nat):Int),((y:Nat):Int))).filter (wh p i)
def QR(p:Pic)(i w n:Nat):List qd:=(List.range n).flatMap fun y=>ky p i y w
def yH(p:Pic)(i:Nat):List qd:=QR p i ((p.w/2).toNat-1) (p.h/3).toNat
theorem s7{p:Pic}{i y n:Nat}(h:wh p i ((n:Int),(y:Int))=true):ky p i y (n+1)=ky p i y n++[((n:Int),(y:Int))]:=by
 simp [ky,List.range_succ,h]
theorem eB{p:Pic}{i y n:Nat}(h:wh p i ((n:Int),(y:Int))=false):ky p i y (n+1)=ky p i y n:=by
 simp [ky,List.range_succ,h]
theorem YC{p:Pic}{i w n:Nat}:QR p i w (n+1)=QR p i w n++ky p i n w:=by
 simp [QR,List.range_succ]
theorem WW(p:Pic)(i y n:Nat):(ky p i y n).length<=n:=by
 unfold ky;exact Nat.le_trans (List.length_filter_le _ _) (by simp)
theorem Zb(p:Pic)(i w:Nat):∀n,(QR p i w n).length<=n*w
 |0=>by simp [QR]
 |n+1=>by
  have h1:=Zb p i w n;have h2:=WW p i n w;rw [YC,List.length_append,Nat.add_mul];omega
theorem L3{p:Pic}{i:Nat}(hv:qJ p=true)(hi:i<p.fs.length):DK 119 [yz p,.int i] fun d=>d=qx (yH p i):=by
 refine qI fun Z0 lo=>?_;have hh:=(xr hv).2.2.1;simp only [yo,xt,xF] at hh;obtain⟨⟨⟨hw1,hw2⟩,hw3⟩,⟨hh1,hh2⟩,hh3⟩:=hh;rw [Int.tmod_eq_emod_of_nonneg (by omega)] at hw3 hh3;obtain⟨nw,hnw⟩:∃nw:Nat,nw=(p.w/2).toNat-1:=⟨_,rfl⟩;obtain⟨nh,hnh⟩:∃nh:Nat,nh=(p.h/3).toNat:=⟨_,rfl⟩;have hw4:p.w=2*((nw:Int)+1):=by omega
 have hh4:p.h=3*(nh:Int):=by omega
 have hnw2:nw<30:=by omega
 have hnh2:nh<=20:=by omega
 refine qa ?_;intros;refine qm (fun m E S nk=>∃(y:Nat) (out:List qd),y+m=nh/\out=QR p i nw y/\E=[(1,.int i),(2,.one (.ptr 0 0)),(5,.one (.own 1 0 out.length 2)),(6,.int y)]/\S=[(0,.cells (yL p)),(1,.data (out.flatMap qh))]/\nk=2)
  ⟨nh,_,_,_,[],?wk,0,[],oM,rfl,rfl,rfl,rfl⟩ ?_
 case wk=>exact ql
 rintro m E S nk ⟨y,out,hy,ho,rfl,rfl,rfl⟩;have w1:IntKind.i64.wrap ((y:Int)+1)=(y:Int)+1:=qg oM oM;have w2:IntKind.i64.wrap (3*((y:Int)+1))=3*((y:Int)+1):=qg oM oM;refine qa ?_;intros;refine qb rfl (fun ht=>?_) (fun ht=>?_)
 ·have ht:=qG ht;rw [w1,w2] at ht;have hy2:y<nh:=by omega
  have hcl:=Zb p i nw y;have hcm:y*nw<=20*30:=Nat.mul_le_mul oM oM;refine qa ?_;intros;refine qm (fun m E S nk=>∃(x:Nat) (o2:List qd),x+m=nw/\o2=out++ky p i y x/\E=[(1,.int i),(2,.one (.ptr 0 0)),(5,.one (.own 1 0 o2.length 2)),(6,.int y),(7,.int x)]/\S=[(0,.cells (yL p)),(1,.data (o2.flatMap qh))]/\nk=2)
   ⟨nw,_,_,_,[],?wk2,0,out,by omega,by simp [ky],rfl,rfl,rfl⟩ ?_
  case wk2=>exact ql
  rintro m2 E S nk ⟨x,o2,hx,ho2,rfl,rfl,rfl⟩;have w3:IntKind.i64.wrap ((x:Int)+2)=(x:Int)+2:=qg oM oM;have w4:IntKind.i64.wrap (2*((x:Int)+2))=2*((x:Int)+2):=qg oM oM;have hrl:=WW p i y x;have hol:o2.length<=1000:=by rw [ho2,List.length_append,ho];omega
  have hfl:=qL o2;refine qa ?_;intros;refine qb rfl (fun ht2=>?_) (fun ht2=>?_)
  ·have ht2:=qG ht2;rw [w3,w4] at ht2;have hx2:x<nw:=by omega
   refine qa ?_;intros;refine qj rfl rfl (UA (i:=i) (q:=((x:Int),(y:Int))) hv hi (by unfold qB;simp only;omega)) ?_;rintro _ rfl;refine qa ?_;intros;refine qb rfl (fun hf=>?_) (fun hf=>?_)
   ·refine qa ?_;intros;refine qy (m:=1) (q:=qh ((x:Int),(y:Int))) rfl rfl rfl (qp _ hfl) ⟨rfl,rfl,_,rfl,rfl⟩ oM oM (by decide) rfl ?_;rw [show o2.flatMap qh++qh ((x:Int),(y:Int))=(o2++[((x:Int),(y:Int))]).flatMap qh by simp,show o2.length+1=(o2++[((x:Int),(y:Int))]).length by simp];refine qa ?_;intros;refine⟨m2-1,by omega,_,_,_,[(1,4)],?wk3,x+1,o2++[((x:Int),(y:Int))],by omega,by rw [s7 hf,ho2,List.append_assoc],rfl,rfl,rfl⟩
    case wk3=>exact ql
   ·refine qa ?_;intros;refine⟨m2-1,by omega,_,_,_,[],?wk4,x+1,o2,by omega,by rw [eB hf,ho2],rfl,rfl,rfl⟩
    case wk4=>exact ql
  ·have ht2:=qQ ht2;rw [w3,w4] at ht2;have hx2:x=nw:=by omega
   subst hx2;refine qa ?_;intros;refine⟨m-1,by omega,_,_,_,[],?wk5,y+1,o2,by omega,by rw [YC,ho2,ho],rfl,rfl,rfl⟩
   case wk5=>exact ql
 ·have ht:=qQ ht;rw [w1,w2] at ht;have hy2:y=nh:=by omega
  subst hy2;have hfl:=qL out;refine qa ?_;intros;refine qu (qf (k:=4) rfl (qw _)) (qf (k:=1) rfl (qw _)) ?_;refine qH 1 rfl qD qD ?_;refine qc ⟨_,rfl,rfl,?_⟩;rw [yH,<-hnw,<-hnh,<-ho];rfl
end Go.Ah
