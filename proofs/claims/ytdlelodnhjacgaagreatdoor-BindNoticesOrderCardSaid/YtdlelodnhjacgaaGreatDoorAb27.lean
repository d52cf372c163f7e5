/- -/
import Derived.Test.YtdlelodnhjacgaaGreatDoorAb26
set_option linter.unusedSimpArgs false
set_option linter.unusedVariables false
set_option maxRecDepth 8000
set_option maxHeartbeats 16000000
namespace Go.Ai
open Go.Ab Go.Proofs
structure Rw where
 x0:Int
 x1:Int
 x2:Int
 x3:Int
 x4:Int
 x5:Int
def Xd(x:Rw):List FD:=[.c (.int .u8 x.x0),.c (.int .u8 x.x1),.c (.int .u8 x.x2),.c (.int .u8 x.x3),.c (.int .u8 x.x4),.c (.int .u8 x.x5)]
def Uv(x:Rw):DV:=.agg ((Xd x).map .f)
def Yj(n:Int):Prop:=0<=n/\n<256
def Rw.ok(x:Rw):Prop:=(Yj x.x0/\Yj x.x1/\Yj x.x2)/\Yj x.x3/\Yj x.x4/\Yj x.x5
def fA(x:Rw)(w:Int):Int:=x.x1.tmod w
def fB(x:Rw)(h:Int):Int:=x.x2.tmod h
def fR(x:Rw)(w:Int):Int:=min (fA x w+(1+x.x3.tmod 8)) (w-1)
def fL(x:Rw)(h:Int):Int:=min (fB x h+(1+x.x4.tmod 8)) (h-1)
def jl(x:Rw)(w h:Int):Ft:=
 if x.x0.tmod 3=0 then ⟨1,0,[(fA x w,fB x h)]⟩
 else if x.x0.tmod 3=1 then ⟨2,0,[(fA x w,fB x h),(fR x w,fL x h)]++if x.x5.tmod 2=1 then [(fA x w,fL x h)] else []⟩
 else ⟨3,(x.x0.tdiv 3).tmod 4,[(fA x w,fB x h),(fR x w,fB x h),(fR x w,fL x h)]++if x.x5.tmod 2=1 then [(fA x w,fL x h)] else []⟩
theorem P0{x:Rw}{w h:Int}(hx:x.ok)(hw:4<=w/\w<=60)(hh:3<=h/\h<=60):DK 92 [Uv x,.int w,.int h] fun d=>d=Nm (jl x w h):=by
 refine vL fun Z0 lo=>?_;obtain⟨⟨hx0,hx1,hx2⟩,hx3,hx4,hx5⟩:=hx;unfold Yj at *;have w1:IntKind.i64.wrap x.x1=x.x1:=qm oM oM;have w2:IntKind.i64.wrap x.x2=x.x2:=qm oM oM;have w3:IntKind.i64.wrap x.x3=x.x3:=qm oM oM;have w4:IntKind.i64.wrap x.x4=x.x4:=qm oM oM;have t1:0<=x.x1.tmod w/\x.x1.tmod w<w:=⟨YP _ hx1.1,Q6 _ oM⟩;have t2:0<=x.x2.tmod h/\x.x2.tmod h<h:=⟨YP _ hx2.1,Q6 _ oM⟩;have t3:0<=x.x3.tmod 8/\x.x3.tmod 8<8:=⟨YP _ hx3.1,Q6 _ oM⟩;have t4:0<=x.x4.tmod 8/\x.x4.tmod 8<8:=⟨YP _ hx4.1,Q6 _ oM⟩;refine qa ?_;intros;rw [w1];refine Wd O O oM ?_;refine qa ?_;intros;rw [w2];refine Wd O O oM ?_;refine qa ?_;intros;have q1:0<=x.x0.tdiv 3/\x.x0.tdiv 3<256:=by rw [DP hx0.1];omega
 have u1:IntKind.u8.wrap (x.x0.tdiv 3)=x.x0.tdiv 3:=by
  simp [IntKind.wrap,IntKind.signed,IntKind.bits];omega
 have t5:0<=(x.x0.tdiv 3).tmod 4/\(x.x0.tdiv 3).tmod 4<4:=⟨YP _ q1.1,Q6 _ oM⟩;have t6:0<=x.x0.tmod 3/\x.x0.tmod 3<3:=⟨YP _ hx0.1,Q6 _ oM⟩;have hK:IntKind.i64.wrap (1+IntKind.i64.wrap (x.x0.tmod 3))=1+x.x0.tmod 3:=by rw [qm (n:=x.x0.tmod 3) (by omega) (by omega),qm (by omega) (by omega)]
 have hT:IntKind.i64.wrap ((IntKind.u8.wrap (x.x0.tdiv 3)).tmod 4)=(x.x0.tdiv 3).tmod 4:=by rw [u1,qm (by omega) (by omega)]
 have hR:min (IntKind.i64.wrap (x.x1.tmod w+IntKind.i64.wrap (1+(IntKind.i64.wrap x.x3).tmod 8))) (IntKind.i64.wrap (w-1))=fR x w:=by
  rw [w3,qm (n:=1+x.x3.tmod 8) (by omega) (by omega),qm (n:=x.x1.tmod w+(1+x.x3.tmod 8)) (by omega) (by omega),qm (n:=w-1) (by omega) (by omega)];rfl
 have hL:min (IntKind.i64.wrap (x.x2.tmod h+IntKind.i64.wrap (1+(IntKind.i64.wrap x.x4).tmod 8))) (IntKind.i64.wrap (h-1))=fL x h:=by
  rw [w4,qm (n:=1+x.x4.tmod 8) (by omega) (by omega),qm (n:=x.x2.tmod h+(1+x.x4.tmod 8)) (by omega) (by omega),qm (n:=h-1) (by omega) (by omega)];rfl
 refine qx (E0:=[(3,.one (.ptr 0 0)),(6,.one (.ptr 1 0)),(7,.int (fA x w)),(8,.int (fB x h)),(11,.int (fR x w)),(12,.int (fL x h)),(13,.one (.ptr 2 0)),(14,.one (.ptr 3 0)),(15,.int (1+x.x0.tmod 3)),(16,.int ((x.x0.tdiv 3).tmod 4)),(68,.bool (1+x.x0.tmod 3==1))])
  (S0:=[(0,.cells ((Xd x).map .f)),(1,.cells [.f (.c (.int .i64 0)),.f (.c (.int .i64 0)),.f (.c .nils)]),(2,.cells [.f (.c (.int .i64 (fA x w))),.f (.c (.int .i64 (fB x h)))]),(3,.cells [.f (.c (.int .i64 (fR x w))),.f (.c (.int .i64 (fL x h)))])])
  (qg rfl (qg rfl (qg rfl (qg rfl (qg (congrArg (fun z=>some (DV.int z)) hR) (qg (congrArg (fun z=>some (DV.int z)) hL) (qg rfl (qg rfl (qg (congrArg (fun z=>some (DV.int z)) hK) (qg (congrArg (fun z=>some (DV.int z)) hT) (qg (congrArg (fun z=>some (DV.bool (z==1))) hK) (qv _))))))))))))
  (qg rfl (qg rfl (qg rfl (qg (by rw [<-hR,<-hL];rfl) (qv _))))) ?_
 refine qd O (fun h1=>?_) (fun h1=>?_)
 ·have h1:x.x0.tmod 3=0:=by
   have:1+x.x0.tmod 3=1:=by simpa using h1
   omega
  refine qa ?_;intros;refine qx (E0:=[(6,.one (.ptr 1 0))]) (S0:=[(1,.cells [.f (.c (.int .i64 (1+x.x0.tmod 3))),.f (.c (.int .i64 0)),.own 4 0 1 2]),(4,.data (qB (fA x w,fB x h)))]) (qg O (qv _)) (qg O (qg O (qv _))) ?_;refine qF 4 O qo qo ?_;refine qb ⟨_,O,O,?_⟩;rw [jl,if_pos h1,h1];rfl
 ·have h1:¬x.x0.tmod 3=0:=fun h=>by rw [h] at h1;simp at h1
  refine qa ?_;intros;refine qd O (fun h2=>?_) (fun h2=>?_)
  ·have h2:x.x0.tmod 3=1:=by
    have:1+x.x0.tmod 3=2:=by simpa using h2
    omega
   refine qa ?_;intros;refine qd O (fun h5=>?_) (fun h5=>?_)
   ·have h5:x.x5.tmod 2=1:=by simpa using h5
    refine qa ?_;intros;refine qZ (m:=1) (q:=qB (fA x w,fL x h)) (l:=qB (fA x w,fB x h)++qB (fR x w,fL x h)) O O O O ⟨O,O,_,O,O⟩ oM oM qr O ?_;refine qa ?_;intros;refine qx (E0:=[(6,.one (.ptr 1 0))]) (S0:=[(1,.cells [.f (.c (.int .i64 (1+x.x0.tmod 3))),.f (.c (.int .i64 0)),.own 6 0 3 2]),(6,.data [.c (.int .i64 (fA x w)),.c (.int .i64 (fB x h)),.c (.int .i64 (fR x w)),.c (.int .i64 (fL x h)),.c (.int .i64 (fA x w)),.c (.int .i64 (fL x h))])]) (qg O (qv _)) (qg O (qg O (qv _))) ?_;refine qF 6 O qo qo ?_;refine qb ⟨_,O,O,?_⟩;rw [jl,if_neg h1,if_pos h2,if_pos h5,h2];rfl
   ·have h5:¬x.x5.tmod 2=1:=by simpa using h5
    refine qa ?_;intros;refine qx (E0:=[(6,.one (.ptr 1 0))]) (S0:=[(1,.cells [.f (.c (.int .i64 (1+x.x0.tmod 3))),.f (.c (.int .i64 0)),.own 4 0 2 2]),(4,.data [.c (.int .i64 (fA x w)),.c (.int .i64 (fB x h)),.c (.int .i64 (fR x w)),.c (.int .i64 (fL x h))])]) (qg O (qv _)) (qg O (qg O (qv _))) ?_;refine qF 4 O qo qo ?_;refine qb ⟨_,O,O,?_⟩;rw [jl,if_neg h1,if_pos h2,if_neg h5,h2];rfl
  ·have h2:¬x.x0.tmod 3=1:=fun h=>by rw [h] at h2;simp at h2
   have h3:x.x0.tmod 3=2:=oM;refine qa ?_;intros;refine qd O (fun h5=>?_) (fun h5=>?_)
   ·have h5:x.x5.tmod 2=1:=by simpa using h5
    refine qa ?_;intros;refine qZ (m:=1) (q:=qB (fA x w,fL x h)) (l:=qB (fA x w,fB x h)++qB (fR x w,fB x h)++qB (fR x w,fL x h)) O O O O ⟨O,O,_,O,O⟩ oM oM qr O ?_;refine qa ?_;intros;refine qx (E0:=[(6,.one (.ptr 1 0))]) (S0:=[(1,.cells [.f (.c (.int .i64 (1+x.x0.tmod 3))),.f (.c (.int .i64 ((x.x0.tdiv 3).tmod 4))),.own 6 0 4 2]),(6,.data [.c (.int .i64 (fA x w)),.c (.int .i64 (fB x h)),.c (.int .i64 (fR x w)),.c (.int .i64 (fB x h)),.c (.int .i64 (fR x w)),.c (.int .i64 (fL x h)),.c (.int .i64 (fA x w)),.c (.int .i64 (fL x h))])]) (qg O (qv _)) (qg O (qg O (qv _))) ?_;refine qF 6 O qo qo ?_;refine qb ⟨_,O,O,?_⟩;rw [jl,if_neg h1,if_neg h2,if_pos h5,h3];rfl
   ·have h5:¬x.x5.tmod 2=1:=by simpa using h5
    refine qa ?_;intros;refine qx (E0:=[(6,.one (.ptr 1 0))]) (S0:=[(1,.cells [.f (.c (.int .i64 (1+x.x0.tmod 3))),.f (.c (.int .i64 ((x.x0.tdiv 3).tmod 4))),.own 4 0 3 2]),(4,.data [.c (.int .i64 (fA x w)),.c (.int .i64 (fB x h)),.c (.int .i64 (fR x w)),.c (.int .i64 (fB x h)),.c (.int .i64 (fR x w)),.c (.int .i64 (fL x h))])]) (qg O (qv _)) (qg O (qg O (qv _))) ?_;refine qF 4 O qo qo ?_;refine qb ⟨_,O,O,?_⟩;rw [jl,if_neg h1,if_neg h2,if_neg h5,h3];rfl
structure Raw where
 w:Int
 h:Int
 g:Int
 f:List Rw
def Raw.ok(x:Raw):Prop:=(Yj x.w/\Yj x.h/\Yj x.g)/\∀r∈x.f,r.ok
def SP(x:Raw):List DC:=[.f (.c (.int .u8 x.w)),.f (.c (.int .u8 x.h)),.f (.c (.int .u8 x.g)),.f (.sl 6 x.f.length (x.f.flatMap Xd))]
def Uc(x:Raw):DV:=.agg (SP x)
def mW(x:Raw):Int:=12+2*x.w.tmod 13
def mH(x:Raw):Int:=12+3*x.h.tmod 9
def mG(x:Raw):Int:=2+x.g.tmod 3
def HJ:Ft:=⟨1,0,[(1,1)]⟩
def mF(x:Raw):List Ft:=match (x.f.take 4).map (fun r=>jl r (mW x) (mH x)) with
 |[]=>[HJ]
 |l=>l
def ZR(x:Raw):Pic:=⟨mW x,mH x,mG x,mF x⟩
theorem Mc{l:List Rw}{i:Nat}{x:Rw}(h:l[i]?=some x):xd (l.flatMap Xd) (i*6) 6=some (Xd x):=zp (e:=6) (fun _=>rfl) h
theorem Ot{x:Raw}(hx:x.ok):DK 62 [Uc x] fun d=>d=Qa (ZR x):=by
 refine vL fun Z0 lo=>?_;obtain⟨⟨hw,hh,hg⟩,hf⟩:=hx;unfold Yj at hw hh hg;have t1:0<=x.w.tmod 13/\x.w.tmod 13<13:=⟨YP _ hw.1,Q6 _ oM⟩;have t2:0<=x.h.tmod 9/\x.h.tmod 9<9:=⟨YP _ hh.1,Q6 _ oM⟩;have t3:0<=x.g.tmod 3/\x.g.tmod 3<3:=⟨YP _ hg.1,Q6 _ oM⟩;have hW:IntKind.i64.wrap (12+IntKind.i64.wrap (2*IntKind.i64.wrap (x.w.tmod 13)))=mW x:=by
  rw [qm (n:=x.w.tmod 13) (by omega) (by omega),qm (n:=2*x.w.tmod 13) (by omega) (by omega),qm (by omega) (by omega)];rfl
 have hH:IntKind.i64.wrap (12+IntKind.i64.wrap (3*IntKind.i64.wrap (x.h.tmod 9)))=mH x:=by
  rw [qm (n:=x.h.tmod 9) (by omega) (by omega),qm (n:=3*x.h.tmod 9) (by omega) (by omega),qm (by omega) (by omega)];rfl
 have hG:IntKind.i64.wrap (2+IntKind.i64.wrap (x.g.tmod 3))=mG x:=by
  rw [qm (n:=x.g.tmod 3) (by omega) (by omega),qm (by omega) (by omega)];rfl
 refine qa ?_;intros;refine qx (E0:=[(1,.one (.ptr 0 0)),(2,.one (.ptr 1 0)),(3,.one (.ptr 2 0)),(4,.int 0)])
  (S0:=[(0,.cells (SP x)),(1,.cells [.f (.c (.int .i64 0)),.f (.c (.int .i64 0)),.f (.c (.int .i64 0)),.f (.c .nils)]),(2,.cells [.f (.c (.int .i64 (mW x))),.f (.c (.int .i64 (mH x))),.f (.c (.int .i64 (mG x))),.f (.c .nils)])])
  (qg rfl (qg rfl (qg rfl (qg rfl (qv _)))))
  (qg rfl (qg rfl (qg (by rw [<-hW,<-hH,<-hG];rfl) (qv _)))) ?_
 refine yG 2 3 3 O O ?_;refine qu (fun m E S nk=>∃(i:Nat) (out:List Ft),i+m=min x.f.length 4/\out=(x.f.take i).map (fun r=>jl r (mW x) (mH x))/\E=[(1,.one (.ptr 0 0)),(2,.one (.ptr 1 0)),(3,.one (.ptr 2 0)),(4,.int i)]/\
  S=[(0,.cells (SP x)),(1,.cells [.f (.c (.int .i64 0)),.f (.c (.int .i64 0)),.f (.c (.int .i64 0)),.f (.c .nils)]),(2,.cells [.f (.c (.int .i64 (mW x))),.f (.c (.int .i64 (mH x))),.f (.c (.int .i64 (mG x))),.own 3 0 out.length 3]),(3,.data (out.flatMap ZA))]/\nk=4)
  ⟨min x.f.length 4,_,_,_,[],?wk,0,[],oM,rfl,rfl,rfl,rfl⟩ ?_
 case wk=>exact qs
 rintro m E S nk ⟨i,out,hi,ho,rfl,rfl,rfl⟩;refine qa ?_;intros;refine qd O (fun ht=>?_) (fun ht=>?_)
 ·rw [WY,x8] at ht;have h1:=xo ht.1;have h2:=xo ht.2;obtain⟨r,hr⟩:∃r,x.f[i]?=some r:=⟨_,zge oM⟩;have e1:=Mc hr;have hol:out.length=i:=by rw [ho,xX,xS];omega
  have hfl:=EZ out;refine qa ?_;intros;refine x6 O O (P0 (x:=r) (w:=mW x) (h:=mH x) (hf r (zmg hr)) (by unfold mW;omega) (by unfold mH;omega)) ?_;intros;refine qZ (m:=1) (q:=ZA (jl r (mW x) (mH x))) O O O (qD _ hfl) ⟨O,O,_,O,O⟩ oM oM qr O ?_;rw [show out.flatMap ZA++ZA (jl r (mW x) (mH x))=(out++[jl r (mW x) (mH x)]).flatMap ZA by simp,show out.length+1=(out++[jl r (mW x) (mH x)]).length by simp];refine Wf O ?_;refine qa ?_;intros;refine⟨m-1,by omega,_,_,_,[(3,5)],?wk1,i+1,out++[jl r (mW x) (mH x)],by omega,by rw [Q5,hr,ho];simp,rfl,rfl,rfl⟩
  case wk1=>exact qs
 ·rw [WY] at ht;have hi4:i=min x.f.length 4:=by
   rcases Bool.and_eq_false_iff.1 ht with h|h
   ·have:=zK h;omega
   ·have:=zK h;omega
  have ho4:out=(x.f.take 4).map (fun r=>jl r (mW x) (mH x)):=by
   rw [ho,hi4];by_cases h4:x.f.length<=4
   ·rw [Q9 (by omega),Q9 h4]
   ·rw [show min x.f.length 4=4 by omega]
  clear ho;refine qa ?_;intros;refine qd O (fun hz=>?_) (fun hz=>?_)
  ·have hz:out=[]:=by
    have h:(out.length:Int)=0:=by simpa using hz
    exact List.length_eq_zero_iff.1 oM
   have hmF:mF x=[HJ]:=by rw [mF,<-ho4,hz]
   clear ho4;subst hz;refine qx (qg (k:=2) O (qg (k:=3) O (qv _))) (wC _) ?_
   iterate 4 (first|(refine jO O O ?_)|(refine wO O O ?_)|(refine wq O ?_)|(refine wr O O ?_)|(refine wu O O ?_)|(refine Qu O Qv Qv ?_)|(refine vK O O ?_)|(refine vJ O O ?_)|(refine zi O ?_)|(refine xZ O ?_)|(refine xH O ?_)|(refine Jf O Qv ?_)|(refine Jg O Qv ?_)|(refine kX O O oM oM ?_)|(refine kY O O oM oM ?_)|(refine kW O O oM oM ?_)|(refine Yr O O oM qr aM ?_)|(refine yE O O oM qr aM ?_)|(refine xZ (xJ O O aM O) ?_)|(refine xH (xJ O O aM O) ?_)|(refine xZ (xE O O aM) ?_)|(refine xH (xE O O aM) ?_)|(refine xZ (xF O O aM aM) ?_)|(refine xH (xF O O aM aM) ?_)|(refine Qf O ?_)|(refine XU O O O ?_)|(refine wh O O O O O (jP O) O ?_)|(refine jd ?_)|(refine yn ?_)|(refine yv vB (fun base=>?_))|(refine kC ?_)|(refine jT ?_)|(refine yW ?_))
   have hq2:(qB (1,1)).length=1*2:=rfl;refine qY 4 O qo qo ?_;refine qa ?_;intros;refine qx (qg (k:=2) O (qv _)) (qg (k:=1) O (qg (k:=5) O (qv _))) ?_;have hq3:(ZA HJ).length=1*3:=rfl;refine qF 5 O qo qo ?_;refine qb ⟨_,O,O,?_⟩;rw [ZR,hmF];rfl
  ·have hz:out≠[]:=fun h=>by
    subst h;cases hz
   have hmF:mF x=out:=by
    rw [mF,<-ho4];cases out with
    |nil=>exact absurd O hz
    |cons=>rfl
   have hfl:=EZ out;refine qa ?_;intros;refine qx (qg (k:=2) O (qv _)) (qg (k:=1) O (qg (k:=3) O (qv _))) ?_;refine qF 3 O qo qo ?_;refine qb ⟨_,O,O,?_⟩;rw [ZR,hmF];rfl
def I8(a:qj):List qj:=(List.range 9).flatMap fun (y:Nat)=>(List.range 9).map fun (x:Nat)=>(a.1+(x:Int),a.2+(y:Int))
theorem Be(a:qj):(I8 a).length=81:=rfl
theorem Bd{a p:qj}(h:zg a (a.1+8,a.2+8) p):p∈I8 a:=by
 obtain⟨p1,p2⟩:=p;unfold zg at h;simp only at h;simp only [I8,nN,j6,jF,zpi];exact⟨(p2-a.2).toNat,oM,(p1-a.1).toNat,oM,oM,oM⟩
theorem CW{f:Ft}{a:qj}(hv:ye f=true)(h:∀q∈f.pts,zg a (a.1+8,a.2+8) q):(xV f).length<=256:=by
 have:=ZO (KG hv) (b:=I8 a) fun p hp=>Bd (Ju h p hp);rw [Be] at this;omega
theorem OV{x:Rw}{w h:Int}(hx:x.ok)(hw:0<w)(hh:0<h):∀q∈(jl x w h).pts,zg (fA x w,fB x h) (fA x w+8,fB x h+8) q:=by
 obtain⟨⟨_,hx1,hx2⟩,hx3,hx4,_⟩:=hx;unfold Yj at *;have t1:0<=x.x1.tmod w/\x.x1.tmod w<w:=⟨YP _ hx1.1,Q6 _ hw⟩;have t2:0<=x.x2.tmod h/\x.x2.tmod h<h:=⟨YP _ hx2.1,Q6 _ hh⟩;have t3:0<=x.x3.tmod 8/\x.x3.tmod 8<8:=⟨YP _ hx3.1,Q6 _ oM⟩;have t4:0<=x.x4.tmod 8/\x.x4.tmod 8<8:=⟨YP _ hx4.1,Q6 _ oM⟩;have hR:fA x w<=fR x w/\fR x w<=fA x w+8:=by unfold fR fA;omega
 have hL:fB x h<=fL x h/\fL x h<=fB x h+8:=by unfold fL fB;omega
 have b1:zg (fA x w,fB x h) (fA x w+8,fB x h+8) (fA x w,fB x h):=by unfold zg;simp only;omega
 have b2:zg (fA x w,fB x h) (fA x w+8,fB x h+8) (fR x w,fL x h):=by unfold zg;simp only;omega
 have b3:zg (fA x w,fB x h) (fA x w+8,fB x h+8) (fA x w,fL x h):=by unfold zg;simp only;omega
 have b4:zg (fA x w,fB x h) (fA x w+8,fB x h+8) (fR x w,fB x h):=by unfold zg;simp only;omega
 intro q hq;unfold jl at hq;split at hq
 ·simp only [xM] at hq;subst hq;exact b1
 ·split at hq
  ·simp only [xu,zd,nO,or_false] at hq;rcases hq with (rfl|rfl)|hq
   ·exact b1
   ·exact b2
   ·split at hq
    ·simp only [xM] at hq;subst hq;exact b3
    ·cases hq
  ·simp only [xu,zd,nO,or_false] at hq;rcases hq with (rfl|rfl|rfl)|hq
   ·exact b1
   ·exact b4
   ·exact b2
   ·split at hq
    ·simp only [xM] at hq;subst hq;exact b3
    ·cases hq
theorem OU{x:Rw}{w h:Int}:(jl x w h).pts.length<=4:=by
 unfold jl;split
 ·exact Nat.le_add_left 1 3
 ·split
  ·split<;>simp
  ·split<;>simp
theorem N9{x:Raw}{f:Ft}(h:f∈mF x):f=HJ\/∃r∈x.f,f=jl r (mW x) (mH x):=by
 unfold mF at h;split at h
 ·simp only [xM] at h;exact .inl h
 ·rename_i l hl;obtain⟨r,hr,rfl⟩:=j6.1 h;exact .inr ⟨r,nQ hr,O⟩
theorem My(x:Raw):1<=(mF x).length/\(mF x).length<=4:=by
 unfold mF;split
 ·decide
 ·rename_i l hl;refine⟨?_,?_⟩
  ·cases h:(x.f.take 4).map (fun r=>jl r (mW x) (mH x)) with
   |nil=>exact absurd h hl
   |cons=>simp
  ·rw [xX,xS];omega
theorem Uy{x:Raw}(hx:x.ok):(12<=mW x/\mW x<=36)/\(12<=mH x/\mH x<=36)/\2<=mG x/\mG x<=4:=by
 obtain⟨⟨hw,hh,hg⟩,hf⟩:=hx;unfold Yj at hw hh hg;have t1:0<=x.w.tmod 13/\x.w.tmod 13<13:=⟨YP _ hw.1,Q6 _ oM⟩;have t2:0<=x.h.tmod 9/\x.h.tmod 9<9:=⟨YP _ hh.1,Q6 _ oM⟩;have t3:0<=x.g.tmod 3/\x.g.tmod 3<3:=⟨YP _ hg.1,Q6 _ oM⟩;unfold mW mH mG;omega
theorem oP(x:Raw):VZ (ZR x):=by
 refine⟨?_,fun f hf=>?_⟩
 ·have:=My x;show (mF x).length<1000;omega
 ·rcases N9 hf with rfl|⟨r,_,rfl⟩
  ·decide
  ·have:=OU (x:=r) (w:=mW x) (h:=mH x);omega
theorem Ge{f:Ft}{q:qj}(h1:f.kind=1)(h2:f.pts=[q]):(xV f).length<=256:=by
 unfold xV;rw [if_pos h1,h2];exact Nat.le_add_left 1 255
theorem TH{x:Raw}(hx:x.ok):Tu (ZR x):=fun f hf hv=>by
 have hb:=Uy hx;rcases N9 hf with rfl|⟨r,hr,rfl⟩
 ·exact Ge (q:=(1,1)) O O
 ·exact CW hv (OV (hx.2 r hr) oM oM)
structure RawB where
 kind:Nat
 n:Nat
 t:List Nat
 f:RawF
 p:Raw
structure RawB.ok (x:RawB):Prop where
 k:x.kind<256
 n:x.n<256
 t:∀v∈x.t,v<256
 tl:x.t.length<9223372036854775808
 f:x.f.ok
 p:x.p.ok
 pl:x.p.f.length<9223372036854775808
def QL(x:RawB):List FD:=[.c (.int .u8 x.kind),.c (.int .u8 x.n),.sl 1 x.t.length (Jr x.t),.c (.int .u8 x.f.kind),.c (.int .u8 x.f.n),.sl 2 x.f.l.length (x.f.l.flatMap CE),.c (.int .u8 x.p.w),.c (.int .u8 x.p.h),.c (.int .u8 x.p.g),.sl 6 x.p.f.length (x.p.f.flatMap Xd)]
abbrev rV(x:RawB):DV:=.agg ((QL x).map .f)
def MB.cells:MB->List FD
 |.text note s=>[FD.int (if note then 4 else 1),FD.int 0,.c (.str s),.c .nils,.c .nils,FD.int 0,FD.int 0,FD.int 0,.c .nils,FD.int 0]
 |.head lv s=>[FD.int 2,FD.int lv,.c (.str s),.c .nils,.c .nils,FD.int 0,FD.int 0,FD.int 0,.c .nils,FD.int 0]
 |.tab rows=>[FD.int 3,FD.int 0,.c (.str ⟨#[]⟩),YW rows,.c .nils,FD.int 0,FD.int 0,FD.int 0,.c .nils,FD.int 0]
 |.math t=>[FD.int 5,FD.int 0,.c (.str ⟨#[]⟩),.c .nils,gC t.fl,FD.int 0,FD.int 0,FD.int 0,.c .nils,FD.int 0]
 |.map p=>[FD.int 6,FD.int 0,.c (.str ⟨#[]⟩),.c .nils,.c .nils,FD.int p.w,FD.int p.h,FD.int p.gap,.sl 3 p.fs.length (p.fs.flatMap ZA),FD.int 0]
 |.ink page=>[FD.int 7,FD.int 0,.c (.str ⟨#[]⟩),.c .nils,.c .nils,FD.int 0,FD.int 0,FD.int 0,.c .nils,FD.int page]
theorem MB.nil(m:MB):qe NilF m.cells (VV m.blk):=by
 cases m with
 |text note s=>exact⟨.refl _,.refl _,.refl _,.nil 1,.nil 2,.refl _,.refl _,.refl _,.nil 3,.refl _,trivial⟩
 |head lv s=>exact⟨.refl _,.refl _,.refl _,.nil 1,.nil 2,.refl _,.refl _,.refl _,.nil 3,.refl _,trivial⟩
 |tab rows=>exact⟨.refl _,.refl _,.refl _,.refl _,.nil 2,.refl _,.refl _,.refl _,.nil 3,.refl _,trivial⟩
 |math t=>exact⟨.refl _,.refl _,.refl _,.nil 1,.refl _,.refl _,.refl _,.refl _,.nil 3,.refl _,trivial⟩
 |map p=>exact⟨.refl _,.refl _,.refl _,.nil 1,.nil 2,.refl _,.refl _,.refl _,.refl _,.refl _,trivial⟩
 |ink page=>exact⟨.refl _,.refl _,.refl _,.nil 1,.nil 2,.refl _,.refl _,.refl _,.nil 3,.refl _,trivial⟩
theorem MB.len(m:MB):m.cells.length=10:=by cases m<;>rfl
abbrev LA(d:DV):Prop:=∃m:MB,m.good/\d=.agg (m.cells.map .f)
theorem Ap{A:ByteArray}(hA:Alph A){x:RawB}(hx:x.ok)(hk:x.kind % 9≠2/\x.kind % 9≠6):DK 34 [rV x,xI A] LA:=by
 have hn:=hx.n;have hm9:(x.kind:Int).tmod 9=((x.kind % 9:Nat):Int):=(JK x.kind 9).symm;have h9:x.kind % 9<9:=kp _ qr;have h3:x.n % 3<3:=kp _ qr;have hlv:IntKind.i64.wrap (1+IntKind.i64.wrap ((x.n:Int).tmod 3))=((1+x.n % 3:Nat):Int):=by
  rw [show (x.n:Int).tmod 3=((x.n % 3:Nat):Int) from (JK x.n 3).symm,qm (n:=((x.n % 3:Nat):Int)) (by omega) (by omega),qm (by omega) (by omega)];omega
 have hpg:IntKind.i64.wrap (1+IntKind.i64.wrap (x.n:Int))=((1+x.n:Nat):Int):=by
  rw [qm (n:=(x.n:Int)) (by omega) (by omega),qm (by omega) (by omega)];omega
 have htx:=aL hA (l:=x.t) (n:=12) oM hx.t hx.tl;have ec:x.kind % 9=0\/x.kind % 9=8\/x.kind % 9=3\/x.kind % 9=4\/x.kind % 9=1\/x.kind % 9=7\/x.kind % 9=5:=oM;rcases ec with e|e|e|e|e|e|e
 all_goals
  rw [e] at hm9;refine yQ ?_;intros;refine qf O O htx ?_;rintro _ ⟨s,hs,rfl⟩;refine qa ?_;intros;simp only [hm9]
  repeat (first|(refine qd (t:=false) O (fun h=>by cases h) (fun _=>?_);refine qa ?_;intros)|(refine qd (t:=true) O (fun _=>?_) (fun h=>by cases h);refine qa ?_;intros))
 ·exact qb ⟨_,O,O,.text false s,hs,O⟩
 ·exact qb ⟨_,O,O,.text false s,hs,O⟩
 ·exact qb ⟨_,O,O,.text true s,hs,O⟩
 ·exact qb ⟨_,O,O,.text true s,hs,O⟩
 ·rw [hlv];exact qb ⟨_,O,O,.head (1+x.n % 3) s,⟨oM,oM,hs⟩,O⟩
 ·rw [hpg];exact qb ⟨_,O,O,.ink (1+x.n),⟨oM,oM⟩,O⟩
 ·refine x6 O O (Hn hx.f) ?_;intros;exact qb ⟨_,O,O,.math (kL x.f),T3 hx.f,O⟩
theorem An{A:ByteArray}(hA:Alph A){x:RawB}(hx:x.ok)(e:x.kind % 9=6):DK 34 [rV x,xI A] LA:=by
 have hm9:(x.kind:Int).tmod 9=((x.kind % 9:Nat):Int):=(JK x.kind 9).symm;rw [e] at hm9;have htx:=aL hA (l:=x.t) (n:=12) oM hx.t hx.tl;have hmn:min (x.p.f.length:Int) 2=((min x.p.f.length 2:Nat):Int):=oM;have hp2:({ x.p with f:=x.p.f.take 2 }:Raw).ok:=⟨hx.p.1,fun r hr=>hx.p.2 r (nQ hr)⟩
 have htl:(x.p.f.take 2).length=min x.p.f.length 2:=by rw [xS];omega
 have hq:xd (x.p.f.flatMap Xd) (0*6) ((x.p.f.take 2).length*6)=some ((x.p.f.take 2).flatMap Xd):=by
  have hl:(x.p.f.flatMap Xd).length=x.p.f.length*6:=qO (f:=Xd) (e:=6) (fun _=>rfl) _;have ht:((x.p.f.take 2).flatMap Xd).length=(x.p.f.take 2).length*6:=qO (f:=Xd) (e:=6) (fun _=>rfl) _;have hap:x.p.f.flatMap Xd=(x.p.f.take 2).flatMap Xd++(x.p.f.drop 2).flatMap Xd:=by rw [<-X0,ZV]
  rw [nT,yj (by omega),Kz,<-ht,hap,List.take_left]
 have hmade:=Ot hp2;have hpl:=BN (oP { x.p with f:=x.p.f.take 2 })
 have hfew:=TH hp2;have hfine:=oP { x.p with f:=x.p.f.take 2 }
 refine yQ ?_;intros;refine qf O O htx ?_;rintro _ ⟨s,hs,rfl⟩;refine qa ?_;intros;simp only [hm9]
 repeat (first|(refine qd (t:=false) O (fun h=>by cases h) (fun _=>?_);refine qa ?_;intros)|(refine qd (t:=true) O (fun _=>?_) (fun h=>by cases h);refine qa ?_;intros))
 rw [hmn];refine iJ (n':=(x.p.f.take 2).length) (q:=(x.p.f.take 2).flatMap Xd) O O O oM oM oM hq ?_;refine qa ?_;intros;refine x6 O O hmade ?_;intros;refine qf O O hpl ?_;rintro _ ⟨v,rfl,hv⟩;refine qa ?_;intros;refine qd (t:=v) O (fun hb=>?_) (fun hb=>?_)
 ·refine qa ?_;intros;exact qb ⟨_,O,O,.map (ZR { x.p with f:=x.p.f.take 2 }),⟨hfine,hfew,hv hb⟩,O⟩
 ·refine qa ?_;intros;exact qb ⟨_,O,O,.text false s,hs,O⟩
abbrev s9(r:List ByteArray):List FD:=r.map fun s=>.c (.str s)
abbrev It:List DC:=[.f (FD.int 0),.f (FD.int 0),.f (.c (.str ⟨#[]⟩)),.f (.c .nils),.f (.c .nils),.f (FD.int 0),.f (FD.int 0),.f (FD.int 0),.f (.c .nils),.f (FD.int 0)]
theorem Ao{A:ByteArray}(hA:Alph A){x:RawB}(hx:x.ok)(e:x.kind % 9=2):DK 34 [rV x,xI A] LA:=by
 have hn:=hx.n;have hm9:(x.kind:Int).tmod 9=((x.kind % 9:Nat):Int):=(JK x.kind 9).symm;rw [e] at hm9;have h3:x.n % 3<3:=kp _ qr;have h43:x.n/4 % 3<3:=kp _ qr;have hC:IntKind.i64.wrap (1+IntKind.i64.wrap ((x.n:Int).tmod 3))=((1+x.n % 3:Nat):Int):=by
  rw [show (x.n:Int).tmod 3=((x.n % 3:Nat):Int) from (JK x.n 3).symm,qm (n:=((x.n % 3:Nat):Int)) (by omega) (by omega),qm (by omega) (by omega)];omega
 have hR:IntKind.i64.wrap (1+IntKind.i64.wrap ((IntKind.u8.wrap ((x.n:Int).tdiv 4)).tmod 3))=((1+x.n/4 % 3:Nat):Int):=by
  rw [show IntKind.u8.wrap ((x.n:Int).tdiv 4)=((x.n/4:Nat):Int) from Lm hn,show ((x.n/4:Nat):Int).tmod 3=((x.n/4 % 3:Nat):Int) from (JK _ 3).symm,qm (n:=((x.n/4 % 3:Nat):Int)) (by omega) (by omega),qm (by omega) (by omega)];omega
 have htx:=aL hA (l:=x.t) (n:=12) oM hx.t hx.tl;generalize hc:1+x.n % 3=c at *;generalize hr:1+x.n/4 % 3=R at *;refine yQ ?_;intros;refine qf O O htx ?_;rintro _ ⟨s,hs,rfl⟩;refine qa ?_;intros;simp only [hm9]
 repeat (first|(refine qd (t:=false) O (fun h=>by cases h) (fun _=>?_);refine qa ?_;intros)|(refine qd (t:=true) O (fun _=>?_) (fun h=>by cases h);refine qa ?_;intros))
 refine yG 2 3 1 O O ?_;refine qu (fun m E S nk=>∃rows:List (List ByteArray),rows.length+m=R/\(∀r∈rows,r.length=c/\∀s∈r,Gd 4 s)/\E=[(1,xI A),(2,.one (.ptr 0 0)),(4,.one (.ptr 1 0)),(6,.int c),(7,.one (.ptr 2 0)),(8,.int rows.length)]/\
  S=[(0,.cells ((QL x).map .f)),(1,.cells It),(2,.cells [.f (FD.int 3),.f (FD.int 0),.f (.c (.str ⟨#[]⟩)),.own 3 0 rows.length 1,.f (.c .nils),.f (FD.int 0),.f (FD.int 0),.f (FD.int 0),.f (.c .nils),.f (FD.int 0)]),(3,.data (rows.map kR))]/\nk=4)
  ⟨R,_,_,_,[],?wk,[],by simp,fun r hr=>(by cases hr),rfl,rfl,rfl⟩ ?_
 case wk=>
  exact⟨by repeat (first|exact trivial|refine⟨by first|rfl|exact congrArg (fun z=>some (DV.int z)) hC,rfl,?_⟩),by repeat (first|exact trivial|refine⟨by rfl,rfl,rfl,?_⟩),rfl,rfl⟩
 rintro m E S nk ⟨rows,hm,hrows,rfl,rfl,rfl⟩;refine qa ?_;intros;refine qd O (fun h1=>?_) (fun h1=>?_)
 ·have h1:=xo h1;rw [hR] at h1;refine qa ?_;intros;refine qu (fun m E S nk=>∃row:List ByteArray,row.length+m=c/\(∀s∈row,Gd 4 s)/\E=[(1,xI A),(2,.one (.ptr 0 0)),(4,.one (.ptr 1 0)),(6,.int c),(7,.one (.ptr 2 0)),(8,.int rows.length),(9,.one (.own 4 0 row.length 1)),(10,.int row.length)]/\
   S=[(4,.data (s9 row)),(0,.cells ((QL x).map .f)),(1,.cells It),(2,.cells [.f (FD.int 3),.f (FD.int 0),.f (.c (.str ⟨#[]⟩)),.own 3 0 rows.length 1,.f (.c .nils),.f (FD.int 0),.f (FD.int 0),.f (FD.int 0),.f (.c .nils),.f (FD.int 0)]),(3,.data (rows.map kR))]/\nk=5)
   ⟨c,_,_,_,[],?wk,[],by simp,fun r hr=>(by cases hr),rfl,rfl,rfl⟩ ?_
  case wk=>exact qs
  rintro m2 E S nk ⟨row,hm2,hrow,rfl,rfl,rfl⟩;refine qa ?_;intros;refine qd O (fun h2=>?_) (fun h2=>?_)
  ·have h2:=xo h2;have hro:rows.length<4:=oM;have hat:min (IntKind.i64.wrap (2*IntKind.i64.wrap ((rows.length:Int)+row.length))) (x.t.length:Int)=((min (2*(rows.length+row.length)) x.t.length:Nat):Int):=by
    rw [qm (n:=(rows.length:Int)+row.length) (by omega) (by omega),qm (by omega) (by omega)];omega
   have hle:min (2*(rows.length+row.length)) x.t.length<=x.t.length:=Nat.min_le_right _ _;refine qa ?_;intros;rw [hat];generalize min (2*(rows.length+row.length)) x.t.length=a at *;have hdl:(x.t.drop a).length=x.t.length-a:=zS ..;have hq:xd (Jr x.t) (a*1) ((x.t.drop a).length*1)=some (Jr (x.t.drop a)):=by
    rw [yj (by simp;omega)];congr 1;rw [X2,X2,<-List.map_drop,Q9 (by simp)]
   refine iJ (l:=a) (n':=(x.t.drop a).length) (q:=Jr (x.t.drop a)) O O O oM oM oM hq ?_;refine qa ?_;intros;refine qf O O (aL hA (l:=x.t.drop a) (n:=4) oM (fun v hv=>hx.t v (Cg hv)) (by have:=hx.tl;omega)) ?_;rintro _ ⟨s1,hs1,rfl⟩;have hsl:(s9 row).length=row.length*1:=sM;refine qa ?_;intros;refine qZ (q:=[.c (.str s1)]) O O O (qD _ hsl) ⟨O,O,_,O,O⟩ oM oM qr O ?_;rw [show s9 row++[.c (.str s1)]=s9 (row++[s1]) by simp,show row.length+1=(row++[s1]).length by simp];refine qa ?_;intros;have hni:IntKind.i64.wrap ((row.length:Int)+1)=((row++[s1]).length:Nat):=by rw [qm (by omega) (by omega)];simp
   refine⟨m2-1,by omega,_,_,_,[(4,6)],?wk,row++[s1],by simp;omega,fun y hy=>?_,rfl,rfl,rfl⟩
   case wk=>
    exact⟨by repeat (first|exact trivial|refine⟨by first|rfl|exact congrArg (fun z=>some (DV.int z)) hni,rfl,?_⟩),by repeat (first|exact trivial|refine⟨by rfl,rfl,rfl,?_⟩),rfl,rfl⟩
   rcases xu.1 hy with hy|hy
   ·exact hrow y hy
   ·rw [xM.1 hy];exact hs1
  ·have h2:=zK h2;have hlr:row.length=c:=oM;have hsl:(s9 row).length=row.length*1:=sM;refine qF 4 O qo qo ?_;have hl:(rows.map kR).length=rows.length*1:=sM;refine qa ?_;intros;refine qZ (q:=[kR row]) O O O (qD _ hl) ⟨O,O,_,O,O⟩ oM oM qr O ?_;rw [show rows.map kR++[kR row]=(rows++[row]).map kR by simp,show rows.length+1=(rows++[row]).length by simp];refine qa ?_;intros;have hni:IntKind.i64.wrap ((rows.length:Int)+1)=((rows++[row]).length:Nat):=by rw [qm (by omega) (by omega)];simp
   refine⟨m-1,by omega,_,_,_,[(3,6)],?wk,rows++[row],by simp;omega,fun y hy=>?_,rfl,rfl,rfl⟩
   case wk=>
    exact⟨by repeat (first|exact trivial|refine⟨by first|rfl|exact congrArg (fun z=>some (DV.int z)) hni,rfl,?_⟩),by repeat (first|exact trivial|refine⟨by rfl,rfl,rfl,?_⟩),rfl,rfl⟩
   rcases xu.1 hy with hy|hy
   ·exact hrows y hy
   ·rw [xM.1 hy];exact⟨hlr,hrow⟩
 ·have h1:=zK h1;rw [hR] at h1;have hl:(rows.map kR).length=rows.length*1:=sM;refine qF 3 O qo qo ?_;refine qa ?_;intros;exact qb ⟨_,O,O,.tab rows,⟨oM,oM,c,oM,oM,hrows⟩,O⟩
theorem HN:∀{l' l:List FD},qe NilF l' l->l'.length=l.length/\∀(i:Nat) a b,l'[i]?=some a->l[i]?=some b->NilF a b
 |[],[],_=>⟨rfl,fun i a b h=>by simp at h⟩
 |x::l',y::l,h=>⟨by simp only [xA,(HN h.2).1],fun i a b ha hb=>by
  cases i with
  |zero=>simp at ha hb;subst ha;subst hb;exact h.1
  |succ i=>exact (HN h.2).2 i a b (by simpa using ha) (by simpa using hb)⟩
 |[],_::_,h=>h.elim
 |_::_,[],h=>h.elim
theorem NilF.sl2{e n:Nat}{l' l:List FD}(h:qe NilF l' l):NilF (.sl e n l') (.sl e n l):=.sl (HN h).1 (HN h).2
def bk(kind level:Int)(text:ByteArray)(rows:List (List ByteArray))(page:Int):Blk:=⟨kind,level,text,rows,[],0,0,0,0,[],page⟩
theorem CP{l1' l1:List FD}:∀{l2' l2:List FD},qe NilF l2' l2->qe NilF l1' l1->qe NilF (l2'++l1') (l2++l1)
 |[],[],_,h=>h
 |_::_,_::_,g,h=>⟨g.1,CP g.2 h⟩
 |[],_::_,g,_=>g.elim
 |_::_,[],g,_=>g.elim
theorem Hr{A:ByteArray}(hA:Alph A){x:RawB}(hx:x.ok):DK 34 [rV x,xI A] LA:=by
 by_cases h2:x.kind % 9=2
 ·exact Ao hA hx h2
 ·by_cases h6:x.kind % 9=6
  ·exact An hA hx h6
  ·exact Ap hA hx ⟨h2,h6⟩
structure MOk (ms:List MB):Prop where
 good:∀m∈ms,m.good
 ok:∀i,i<ms.length->Zo (ms.map MB.blk) i
abbrev Zy(ms:List MB):DV:=.one (.f (.sl 10 ms.length (ms.flatMap MB.cells)))
theorem N7:∀ms:List MB,qe NilF (ms.flatMap MB.cells) ((ms.map MB.blk).flatMap VV)
 |[]=>trivial
 |m::ms=>by
  rw [wB,jr,wB];exact CP m.nil (N7 ms)
theorem Fl(ms:List MB):NilF (.sl 10 ms.length (ms.flatMap MB.cells)) (.sl 10 (ms.map MB.blk).length ((ms.map MB.blk).flatMap VV)):=by
 rw [xX];exact NilF.sl2 (N7 ms)
theorem N8(ms:List MB):(ms.flatMap MB.cells).length=ms.length*10:=qO (f:=MB.cells) MB.len ms
theorem Hf{f:FuncId}{d' d:FD}{x:DV}{R:DV->Prop}(h:NilF d' d)(k:DK f [.one (.f d),x] R):DK f [.one (.f d'),x] R:=fun H Z args hw hz hg ha=>by
 match args,ha with
 |[v,w],⟨⟨c,e,hc⟩,h2,_⟩=>
  subst e;exact k H Z [.one c,w] hw hz hg ⟨⟨c,O,h.ok hc⟩,h2,trivial⟩
theorem Sf{ms:List MB}{i:Nat}{m:MB}(hl:ms.length<1000)(hm:m.good)(hb:ms[i]?=some m):DK 35 [Zy ms,.int i] fun d=>∃v:Bool,d=.bool v/\(v=true->Zo (ms.map MB.blk) i):=
 Hf (Fl ms) (Uk (l:=ms.map MB.blk) (by rw [xX];exact hl) hm (by rw [jH,hb];rfl))
theorem TB{l r:List Blk}{i:Nat}(h:Zo l i)(hi:i<l.length):Zo (l++r) i:=fun b hb=>by
 have hb':l[i]?=some b:=by rwa [Qz hi] at hb
 obtain⟨h1,h2⟩:=h b hb';refine⟨fun e=>?_,fun e k q hk hq h7=>?_⟩
 ·obtain⟨q,hp,hq,hk⟩:=h1 e;exact⟨q,hp,by rw [Qz (by omega)];exact hq,hk⟩
 ·exact h2 e k q hk (by rwa [Qz oM] at hq) h7
theorem MOk.push{ms:List MB}(h:MOk ms){m:MB}(hm:m.good)(ho:Zo ((ms++[m]).map MB.blk) ms.length):MOk (ms++[m]):=by
 refine⟨fun x hx=>?_,fun i hi=>?_⟩
 ·rcases xu.1 hx with hx|hx
  ·exact h.good x hx
  ·rw [xM.1 hx];exact hm
 ·by_cases e:i<ms.length
  ·rw [JM];exact TB (h.ok i e) (by rw [xX];exact e)
  ·have:i=ms.length:=by rw [qE] at hi;simp at hi;omega
   rw [this];exact ho
abbrev Db(l:List RawB):DV:=.one (.f (.sl 10 l.length (l.flatMap QL)))
theorem Mk{l:List RawB}{i:Nat}{x:RawB}(h:l[i]?=some x):xd (l.flatMap QL) (i*10) 10=some (QL x):=zp (f:=QL) (e:=10) (fun _=>rfl) h
theorem Hd{A:ByteArray}(hA:Alph A){l:List RawB}(hl:∀x∈l,x.ok)(hll:l.length<9223372036854775808){N:Nat}(hN:N<=6):DK 19 [Db l,.int N,xI A] fun d=>∃ms:List MB,MOk ms/\ms.length<=N/\d=Zy ms:=by
 refine yQ ?_;intros;refine qu (fun m E S nk=>∃(i:Nat) (ms:List MB),i+m=min l.length N/\ms.length<=i/\MOk ms/\E=[(0,Db l),(1,.int N),(2,xI A),(7,.one (.own 0 0 ms.length 10)),(8,.int i)]/\S=[(0,.data (ms.flatMap MB.cells))]/\nk=1)
  ⟨min l.length N,_,_,_,[],?wk,0,[],by omega,by simp,⟨fun m hm=>(by cases hm),fun i hi=>(by cases hi)⟩,rfl,rfl,rfl⟩ ?_
 case wk=>exact qs
 rintro m E S nk ⟨i,ms,him,hmi,hok,rfl,rfl,rfl⟩;have hnf:=N8 ms;refine qa ?_;intros;refine qd O (fun ht=>?_) (fun ht=>?_)
 ·rw [WY,x8] at ht;have h1:=xo ht.1;have h2:=xo ht.2;obtain⟨x,hx⟩:∃x,l[i]?=some x:=⟨_,zge oM⟩;have hsx:=Mk hx;refine qa ?_;intros;refine qf O O (Hr hA (hl x (zmg hx))) ?_;rintro _ ⟨mb0,hg0,rfl⟩;obtain⟨mb,hmb⟩:∃m',m'=mb0:=⟨_,rfl⟩;have hg:mb.good:=hmb▸hg0;have hla:(ms++[mb]).length=ms.length+1:=sM;have hnf2:=N8 (ms++[mb]);have hw:IntKind.i64.wrap (((ms++[mb]).length:Int)-1)=((ms.length:Nat):Int):=by rw [hla,qm (by omega) (by omega)];omega
  have hgt:(ms++[mb])[ms.length]?=some mb:=sM;have hrr:=Sf (ms:=ms++[mb]) oM hg hgt;cases mb0
  all_goals
   refine qa ?_;intros;refine qZ (m:=1) (q:=mb.cells) O O O (qD _ hnf) ⟨O,O,_,O,by rw [hmb];rfl⟩ (by omega) (by omega) (by decide) O ?_;rw [show ms.flatMap MB.cells++mb.cells=(ms++[mb]).flatMap MB.cells by simp,show ms.length+1=(ms++[mb]).length by simp];refine qa ?_;intros;rw [hw];refine Ys (ds:=[Zy (ms++[mb]),.int ms.length]) O ⟨⟨_,O,_,_,O,qD _ hnf2,O⟩,⟨_,O,O,O⟩,trivial⟩ hrr (by rintro _ ⟨v,rfl,_⟩;rfl) ?_;rintro _ ⟨v,rfl,hv⟩;refine qa ?_;intros;refine qd (t:=!v) O (fun hb=>?_) (fun hb=>?_)
   ·refine PB 2 (ms.length*10) O ?_;rw [show ((ms++[mb]).flatMap MB.cells).take (ms.length*10)=ms.flatMap MB.cells by rw [X0,<-hnf,List.take_left]];refine qa ?_;intros;rw [hw];refine iI (l:=0) (h:=ms.length) (o':=0) (n':=ms.length) O O O oM oM oM oM ?_;refine qa ?_;intros;refine⟨m-1,oM,_,_,_,[(0,2)],?wk,i+1,ms,oM,oM,hok,O,O,O⟩
    case wk=>exact qs
   ·have hb:v=true:=by simpa using hb
    refine qa ?_;intros;refine⟨m-1,oM,_,_,_,[(0,2)],?wk,i+1,ms++[mb],oM,oM,hok.push hg (hv hb),O,O,O⟩
    case wk=>exact qs
 ·refine qx (qg (k:=7) O (qv _)) (qg (k:=0) O (qv _)) ?_;refine qF 0 O qo qo ?_;refine qa ?_;intros;exact qb ⟨_,O,O,ms,hok,oM,O⟩
end Go.Ai
