/- -/
import Derived.Test.YtandgamnamkkhaaGreatDoorAb38
set_option linter.unusedSimpArgs false
set_option maxHeartbeats 16000000
set_option linter.unusedVariables false
set_option maxRecDepth 8000
namespace Go.Ah
open Go.Ab Go.Proofs
theorem ZS(l:List Blk):(l.flatMap yC).length=l.length*10:=zO (f:=yC) (e:=10) (fun _=>rfl) l
theorem mJ{A B:List Blk}(hA:A.length<=6)(hB:B.length<=6)(hR:∀b∈A++B,DK 19 [vA b] fun d=>d=.bool (tt b))(hv:kW tt (A++B)=((zZ (A++B)).2&&!yx A B)){Z0:Nat->Prop}{lo:Nat}:
 DPS (Par.base Tryz.prog 7 (H00 1) Z0 lo) f6.n (.seq (.ops OP 0 true) (.seq (.ops OO 0 true) (.seq (.seq (.ops ON 0 true) (.block 0 (.loop OQ))) (.seq (.seq (.ops F8 0 true) (.cond (.t 97) (.ops F7 0 true) .skip)) (.seq (.ops F6 0 true) .ret)))))
  (Y5 (Par.base Tryz.prog 7 (H00 1) Z0 lo) f6.res fun d=>d=.bool true) [(7,.bool true),(8,jf A),(9,jf B)] [] 0:=by
 have hfa:=ZS A;have hfb:=ZS B;have hall:(A++B).length=A.length+B.length:=List.length_append ..;have hfl:=ZS (A++B);refine qa ?_;intros;refine qy (l':=[]) (m:=A.length) (q:=A.flatMap yC) rfl rfl rfl rfl ⟨rfl,rfl,rfl⟩ oM oM (by decide) rfl ?_;refine qa ?_;intros;refine qy (m:=B.length) (q:=B.flatMap yC) rfl rfl rfl (qp _ (by rw [List.nil_append];omega)) ⟨rfl,rfl,rfl⟩ (by omega) (by omega) (by decide) rfl ?_;rw [show []++A.flatMap yC++B.flatMap yC=(A++B).flatMap yC by simp,show 0+A.length+B.length=(A++B).length by rw [hall];omega];refine qa ?_;intros;refine qu (qf (k:=7) rfl (qf (k:=8) rfl (qf (k:=9) rfl (qf (k:=10) rfl (qf (k:=11) rfl (qf (k:=12) rfl (qf (k:=13) rfl (qw _)))))))) (qf (k:=2) rfl (qw _)) ?_;refine qH 2 rfl qD qD ?_;refine qm (fun m E S nk=>∃i:Nat,i+m=(A++B).length/\E=[(7,.bool true),(8,jf A),(9,jf B),(10,.int (zZ ((A++B).take i)).1),(11,.bool (zZ ((A++B).take i)).2),(12,jf (A++B)),(13,.int i)]/\S=[]/\nk=0)
  ⟨(A++B).length,_,_,_,[],?wk,0,oM,rfl,rfl,rfl⟩ ?_
 case wk=>exact ql
 rintro m E S nk ⟨i,him,rfl,rfl,rfl⟩;refine qa ?_;intros;refine qb rfl (fun h1=>?_) (fun h1=>?_)
 ·have h1:=qG h1;obtain⟨b,hb⟩:∃b,(A++B)[i]?=some b:=⟨_,zge oM⟩;have hsb:=kh hb;have hsc:zZ ((A++B).take (i+1))=if b.kind=7 then (max (zZ ((A++B).take i)).1 b.page,(zZ ((A++B).take i)).2&&decide (b.page>(zZ ((A++B).take i)).1)) else zZ ((A++B).take i):=by
   rw [List.take_add_one,hb,<-aP];rfl
  generalize hsq:zZ ((A++B).take i)=sc at *;obtain⟨p,w⟩:=sc;refine qa ?_;intros;refine qb (t:=decide (b.kind=7)) rfl (fun h7=>?_) (fun h7=>?_)
  ·have h7:=qG h7;rw [if_pos h7] at hsc;cases w with
   |false=>
    have hs1:(zZ ((A++B).take (i+1))).1=max p b.page:=by rw [hsc]
    have hs2:(zZ ((A++B).take (i+1))).2=false:=by rw [hsc];rfl
    refine qa ?_;intros;refine⟨m-1,oM,_,_,_,[],?wk,i+1,oM,rfl,rfl,rfl⟩
    case wk=>
     rw [hs1,hs2];exact ql
   |true=>
    have hs1:(zZ ((A++B).take (i+1))).1=max p b.page:=by rw [hsc]
    have hs2:(zZ ((A++B).take (i+1))).2=decide (b.page>p):=by rw [hsc];rfl
    refine qa ?_;intros;refine⟨m-1,oM,_,_,_,[],?wk,i+1,oM,rfl,rfl,rfl⟩
    case wk=>
     rw [hs1,hs2];exact ql
  ·have h7:=qQ h7;rw [if_neg h7] at hsc;refine qa ?_;intros;refine⟨m-1,oM,_,_,_,[],?wk,i+1,oM,rfl,rfl,rfl⟩
   case wk=>
    rw [hsc];exact ql
 ·have h1:=qQ h1;have hi:i=(A++B).length:=by omega
  subst hi;rw [List.take_length];generalize (zZ (A++B)).2=w at *;have hfin (t:Bool) (ht:yx A B=t):kW tt (A++B)=(w&&!t):=by rw [hv,ht]
  by_cases hB0:0<B.length
  ·have e65:decide ((B.length:Int)>0)=true:=decide_eq_true oM;obtain⟨q,hq⟩:∃q,B[0]?=some q:=⟨_,zge hB0⟩;have hsq:=kh hq;have hgq:B.getD 0 dB=q:=by rw [List.getD_eq_getElem?_getD,hq];rfl
   cases e71:(q.kind==4) with
   |false=>
    have hn:=hfin false (by unfold yx;rw [hgq,decide_eq_false (p:=q.kind=4) (by simpa using e71)];simp);have hval:=QY (R:=tt) (l:=A++B) hR;rw [hn] at hval;refine qa ?_;intros;simp only [e65];refine qa ?_;intros;simp only [e71];refine qa ?_;intros;refine qb (t:=false) rfl (fun h=>by cases h) (fun _=>?_);refine qa ?_;intros;refine qj rfl rfl hval ?_;rintro _ rfl;cases w
    all_goals
     refine qa ?_;intros;exact qc ⟨_,rfl,rfl,rfl⟩
   |true=>
    have h4:q.kind=4:=by simpa using e71
    by_cases hA0:A.length=0
    ·have e76:((A.length:Int)==0)=true:=by rw [hA0];rfl
     have hn:=hfin true (by unfold yx;rw [hgq,decide_eq_true hB0,decide_eq_true h4,decide_eq_true hA0];rfl);have hval:=QY (R:=tt) (l:=A++B) hR;rw [hn] at hval;refine qa ?_;intros;simp only [e65];refine qa ?_;intros;simp only [e71];refine qa ?_;intros;simp only [e76];refine qa ?_;intros;refine qb (t:=true) rfl (fun _=>?_) (fun h=>by cases h);refine qa ?_;intros;refine qj rfl rfl hval ?_;rintro _ rfl;cases w
     all_goals
      refine qa ?_;intros;exact qc ⟨_,rfl,rfl,rfl⟩
    ·have e76:((A.length:Int)==0)=false:=by rw [beq_eq_false_iff_ne];omega
     have hw1:IntKind.i64.wrap ((A.length:Int)-1)=((A.length-1:Nat):Int):=by rw [qg (by omega) (by omega)];omega
     obtain⟨q1,hq1⟩:∃q1,A[A.length-1]?=some q1:=⟨_,zge oM⟩;have hsq1:=kh hq1;have hgq1:A.getD (A.length-1) dB=q1:=by rw [List.getD_eq_getElem?_getD,hq1];rfl
     cases e85:(q1.kind !=1) with
     |false=>
      have k1:q1.kind=1:=by simpa using e85
      have hn:=hfin false (by unfold yx;rw [hgq,hgq1,decide_eq_false hA0,decide_eq_true k1];simp);have hval:=QY (R:=tt) (l:=A++B) hR;rw [hn] at hval;refine qa ?_;intros;simp only [e65];refine qa ?_;intros;simp only [e71];refine qa ?_;intros;simp only [e76];refine qa ?_;intros;rw [hw1];refine qa ?_;intros;simp only [e85];refine qa ?_;intros;refine qb (t:=false) rfl (fun h=>by cases h) (fun _=>?_);refine qa ?_;intros;refine qj rfl rfl hval ?_;rintro _ rfl;cases w
      all_goals
       refine qa ?_;intros;exact qc ⟨_,rfl,rfl,rfl⟩
     |true=>
      have k1:¬q1.kind=1:=by simpa using e85
      cases e94:(q1.kind !=4) with
      |false=>
       have k4:q1.kind=4:=by simpa using e94
       have hn:=hfin false (by unfold yx;rw [hgq,hgq1,decide_eq_false hA0,decide_eq_true k4];simp);have hval:=QY (R:=tt) (l:=A++B) hR;rw [hn] at hval;refine qa ?_;intros;simp only [e65];refine qa ?_;intros;simp only [e71];refine qa ?_;intros;simp only [e76];refine qa ?_;intros;rw [hw1];refine qa ?_;intros;simp only [e85];refine qa ?_;intros;rw [hw1];refine qa ?_;intros;simp only [e94];refine qa ?_;intros;refine qb (t:=false) rfl (fun h=>by cases h) (fun _=>?_);refine qa ?_;intros;refine qj rfl rfl hval ?_;rintro _ rfl;cases w
       all_goals
        refine qa ?_;intros;exact qc ⟨_,rfl,rfl,rfl⟩
      |true=>
       have k4:¬q1.kind=4:=by simpa using e94
       have hn:=hfin true (by unfold yx;rw [hgq,hgq1,decide_eq_true hB0,decide_eq_true h4,decide_eq_false hA0,decide_eq_false k1,decide_eq_false k4];rfl);have hval:=QY (R:=tt) (l:=A++B) hR;rw [hn] at hval;refine qa ?_;intros;simp only [e65];refine qa ?_;intros;simp only [e71];refine qa ?_;intros;simp only [e76];refine qa ?_;intros;rw [hw1];refine qa ?_;intros;simp only [e85];refine qa ?_;intros;rw [hw1];refine qa ?_;intros;simp only [e94];refine qa ?_;intros;refine qb (t:=true) rfl (fun _=>?_) (fun h=>by cases h);refine qa ?_;intros;refine qj rfl rfl hval ?_;rintro _ rfl;cases w
       all_goals
        refine qa ?_;intros;exact qc ⟨_,rfl,rfl,rfl⟩
  ·have e65:decide ((B.length:Int)>0)=false:=decide_eq_false oM;have hn:=hfin false (by unfold yx;rw [decide_eq_false hB0];rfl);have hval:=QY (R:=tt) (l:=A++B) hR;rw [hn] at hval;refine qa ?_;intros;simp only [e65];refine qa ?_;intros;refine qb (t:=false) rfl (fun h=>by cases h) (fun _=>?_);refine qa ?_;intros;refine qj rfl rfl hval ?_;rintro _ rfl;cases w
   all_goals
    refine qa ?_;intros;exact qc ⟨_,rfl,rfl,rfl⟩
theorem LW{l1 l2:List RawB}{k:Nat}(h1:∀x∈l1,x.ok)(g1:l1.length<9223372036854775808)(h2:∀x∈l2,x.ok)(g2:l2.length<9223372036854775808)(hk:k<256):DK 6 [J0 l1,J0 l2,.one (.f (.c (.int .u8 k)))] fun d=>d=.bool true:=by
 refine zy Gp rfl jm fun Z0 lo=>?_;refine qa ?_;intros;refine qj rfl rfl DN ?_;rintro _ rfl;refine qa ?_;intros;refine qj rfl rfl (nM h1 g1) ?_;rintro _ ⟨a,⟨ha,hal⟩,rfl⟩;refine qa ?_;intros;refine qj rfl rfl (nM h2 g2) ?_;rintro _ ⟨b,⟨hb,hbl⟩,rfl⟩;have hA:(a.map MB.blk).length<=6:=by rw [List.length_map];exact hal
 have hBl:(b.map MB.blk).length=b.length:=List.length_map ..;have hR (j:Nat):∀q∈a.map MB.blk++(b.map MB.blk).drop j,DK 19 [vA q] fun d=>d=.bool (tt q):=fun q hq=>by
  rcases List.mem_append.1 hq with hq|hq
  ·obtain⟨m,hm,rfl⟩:=List.mem_map.1 hq;exact gU (ha.good m hm)
  ·obtain⟨m,hm,rfl⟩:=List.mem_map.1 (List.mem_of_mem_drop hq);exact gU (hb.good m hm)
 have hJ (j:Nat):=pG ha hb hal hbl j;generalize a.map MB.blk=A at *;generalize b.map MB.blk=B at *;have hB (j:Nat):(B.drop j).length<=6:=by rw [List.length_drop];omega
 refine qa ?_;intros;refine qb (t:=decide ((B.length:Int)>0)) rfl (fun h0=>?_) (fun h0=>?_)
 ·have h0:=qG h0;refine qa ?_;intros;refine XB rfl rfl oM ?_;have hj:(IntKind.i64.wrap (k:Int)).tmod (B.length:Int)=((k % B.length:Nat):Int):=by rw [qg (by omega) (by omega)];exact (Int.ofNat_tmod _ _).symm
  have hjl:k % B.length<B.length:=Nat.mod_lt _ oM;rw [hj];generalize k % B.length=j at *;have hdl:(B.drop j).length=B.length-j:=List.length_drop ..;have hq:qT (B.flatMap yC) (j*10) ((B.drop j).length*10)=some ((B.drop j).flatMap yC):=by
   have hf1:=ZS B;have hf2:=ZS (B.drop j);have hf3:=ZS (B.take j);have hap:B.flatMap yC=(B.take j).flatMap yC++(B.drop j).flatMap yC:=by rw [<-List.flatMap_append,List.take_append_drop]
   have htl:(B.take j).length=j:=by rw [List.length_take];omega
   rw [htl] at hf3;rw [zw (by omega),hap,<-hf3,List.drop_left,<-hf2,List.take_length]
  refine Vd (l:=j) (n':=(B.drop j).length) (q:=(B.drop j).flatMap yC) rfl rfl rfl oM oM oM hq ?_;refine xT rfl ?_;refine zE ?_;refine wi [] ?wk (mJ hA (hB j) (hR j) (hJ j))
  case wk=>exact ql
 ·have h0:=qQ h0;have hB0:B=[]:=List.eq_nil_of_length_eq_zero oM;refine ZJ ?_;refine wi [] ?wk2 (mJ hA (hB 0) (hR 0) (hJ 0))
  case wk2=>
   rw [List.drop_zero];exact ql
theorem kU{n:Int}(h:(Lit.int .u8 n).wf=true):Xv n:=by
 obtain⟨m,rfl,hm⟩:=Qe h;unfold Xv;omega
def oV:Ty:=.agg (.pair (.int .u8) (.pair (.int .u8) .unit))
def Eb:Ty:=.agg (.pair (.int .u8) (.pair (.int .u8) (.pair (.int .u8) (.pair (.int .u8) (.pair (.int .u8) (.pair (.int .u8) .unit))))))
def Af:Ty:=.agg (.pair (.int .u8) (.pair (.int .u8) (.pair (.slice oV) .unit)))
def Ad:Ty:=.agg (.pair (.int .u8) (.pair (.int .u8) (.pair (.int .u8) (.pair (.slice Eb) .unit))))
def rawBT:Ty:=.agg (.pair (.int .u8) (.pair (.int .u8) (.pair (.slice (.int .u8)) (.pair Af (.pair Ad .unit)))))
def sY(y:Int × Int × Int × Int × Int × Int × Unit):Rw:=⟨y.1,y.2.1,y.2.2.1,y.2.2.2.1,y.2.2.2.2.1,y.2.2.2.2.2.1⟩
def Ae(a:Int × Int × Int × List (Int × Int × Int × Int × Int × Int × Unit) × Unit):Raw:=⟨a.1,a.2.1,a.2.2.1,a.2.2.2.1.map sY⟩
def Ag(a:Int × Int × List (Int × Int × Unit) × Unit):RawF:=⟨a.1.toNat,a.2.1.toNat,a.2.2.1.map fun p=>(p.1.toNat,p.2.1.toNat)⟩
abbrev Q0:=Int × Int × List Int × (Int × Int × List (Int × Int × Unit) × Unit) × (Int × Int × Int × List (Int × Int × Int × Int × Int × Int × Unit) × Unit) × Unit
def XW(a:Q0):RawB:=⟨a.1.toNat,a.2.1.toNat,a.2.2.1.map Int.toNat,Ag a.2.2.2.1,Ae a.2.2.2.2.1⟩
theorem r4:∀l:List Int,(∀y,List.Mem y l->(Lit.int .u8 y).wf=true)->Zf (l.map Int.toNat)=List.flatMap (Ty.fd (.int .u8)) l
 |[],_=>rfl
 |y::l,h=>by
  obtain⟨m,rfl,_⟩:=Qe (h y (.head _));have ih:=r4 l fun z hz=>h z (.tail _ hz);show FD.c (.int .u8 (((m:Int).toNat:Nat):Int))::Zf (l.map Int.toNat)=_;rw [ih];rfl
theorem BB:∀l:List (Int × Int × Unit),(∀y,List.Mem y l->Ty.okD oV y)->(l.map fun p=>(p.1.toNat,p.2.1.toNat)).flatMap iG=List.flatMap (Ty.fd oV) l
 |[],_=>rfl
 |(y1,y2,u)::l,h=>by
  obtain⟨h1,h2,_⟩:=h _ (.head _);obtain⟨m1,e1,_⟩:=Qe h1;obtain⟨m2,e2,_⟩:=Qe h2;simp only at e1 e2;subst e1 e2;have ih:=BB l fun z hz=>h z (.tail _ hz);rw [List.map_cons,List.flatMap_cons,ih];rfl
theorem sZ:∀l:List (Int × Int × Int × Int × Int × Int × Unit),(l.map sY).flatMap vG=List.flatMap (Ty.fd Eb) l
 |[]=>rfl
 |y::l=>by rw [List.map_cons,List.flatMap_cons,sZ l];rfl
theorem eK{a:Q0}(h:Ty.okD rawBT a):(XW a).ok:=by
 obtain⟨h1,h2,⟨h3,h3l⟩,⟨f1,f2,⟨f3,f3l⟩,_⟩,⟨p1,p2,p3,⟨p4,p4l⟩,_⟩,_⟩:=h;have nat {n:Int} (h:(Lit.int .u8 n).wf=true):n.toNat<256:=by obtain⟨m,rfl,hm⟩:=Qe h;omega
 refine⟨nat h1,nat h2,fun v hv=>?_,?_,⟨nat f1,nat f2,fun q hq=>?_,?_⟩,⟨⟨kU p1,kU p2,kU p3⟩,fun r hr=>?_⟩,?_⟩
 ·obtain⟨y,hy,rfl⟩:=List.mem_map.1 hv;exact nat (h3 y hy)
 ·show (List.map Int.toNat a.2.2.1).length<_
  rw [List.length_map];exact Nat.lt_succ_of_le h3l
 ·obtain⟨y,hy,rfl⟩:=List.mem_map.1 hq;obtain⟨g1,g2,_⟩:=f3 y hy;exact⟨nat g1,nat g2⟩
 ·show (List.map _ a.2.2.2.1.2.2.1).length<_
  rw [List.length_map];exact Nat.lt_succ_of_le f3l
 ·obtain⟨y,hy,rfl⟩:=List.mem_map.1 hr;obtain⟨g1,g2,g3,g4,g5,g6,_⟩:=p4 y hy;exact⟨⟨kU g1,kU g2,kU g3⟩,kU g4,kU g5,kU g6⟩
 ·show (List.map sY a.2.2.2.2.1.2.2.2.1).length<_
  rw [List.length_map];exact Nat.lt_succ_of_le p4l
theorem B7{a:Q0}(h:Ty.okD rawBT a):Qh (XW a)=Ty.fd rawBT (show rawBT.den from a):=by
 obtain⟨a1,a2,t,⟨k,n,l,u1⟩,⟨w,hh,g,fs,u2⟩,u3⟩:=a;obtain⟨h1,h2,⟨h3,h3l⟩,⟨f1,f2,⟨f3,f3l⟩,_⟩,_,_⟩:=h;obtain⟨m1,e1,_⟩:=Qe h1;obtain⟨m2,e2,_⟩:=Qe h2;obtain⟨m3,e3,_⟩:=Qe f1;obtain⟨m4,e4,_⟩:=Qe f2;simp only at e1 e2 e3 e4;subst e1 e2 e3 e4;have q1:=r4 t h3;have q2:=BB l f3;have q3:=sZ fs;show [FD.c (.int .u8 _),.c (.int .u8 _),.sl 1 (t.map Int.toNat).length (Zf (t.map Int.toNat)),.c (.int .u8 _),.c (.int .u8 _),.sl 2 (l.map fun p=>(p.1.toNat,p.2.1.toNat)).length ((l.map fun p=>(p.1.toNat,p.2.1.toNat)).flatMap iG),.c (.int .u8 w),.c (.int .u8 hh),.c (.int .u8 g),.sl 6 (fs.map sY).length ((fs.map sY).flatMap vG)]=_;rw [q1,q2,q3,List.length_map,List.length_map,List.length_map];rfl
theorem eJ:∀l:List Q0,(∀y,List.Mem y l->Ty.okD rawBT y)->(l.map XW).flatMap Qh=List.flatMap (Ty.fd rawBT) l
 |[],_=>rfl
 |y::l,h=>by
  have ih:=eJ l fun z hz=>h z (.tail _ hz);rw [List.map_cons,List.flatMap_cons,ih,B7 (h y (.head _))];rfl
theorem eI{l:List Q0}(h:∀y,List.Mem y l->Ty.okD rawBT y):J0 (l.map XW)=ES (.slice rawBT) (show (Ty.slice rawBT).den from l):=by
 show DV.one (.f (.sl 10 (l.map XW).length ((l.map XW).flatMap Qh)))=_
 rw [eJ l h,List.length_map];rfl
theorem joins_law{l m:List Q0}{k:Int}(h:FX [.slice rawBT,.slice rawBT,.int .u8] (l,m,k,())):DK 6 (DA [.slice rawBT,.slice rawBT,.int .u8] (l,m,k,())) fun d=>d=.bool true:=by
 obtain⟨⟨h1,h1l⟩,⟨h2,h2l⟩,h3,_⟩:=h;obtain⟨n,e,hn⟩:=Qe h3;simp only at e;subst e;have:=LW (l1:=l.map XW) (l2:=m.map XW) (k:=n) (fun x hx=>by obtain⟨y,hy,rfl⟩:=List.mem_map.1 hx;exact eK (h1 y hy)) (by rw [List.length_map];exact Nat.lt_succ_of_le h1l) (fun x hx=>by obtain⟨y,hy,rfl⟩:=List.mem_map.1 hx;exact eK (h2 y hy)) (by rw [List.length_map];exact Nat.lt_succ_of_le h2l) hn;rw [eI h1,eI h2] at this;exact this
end Go.Ah
