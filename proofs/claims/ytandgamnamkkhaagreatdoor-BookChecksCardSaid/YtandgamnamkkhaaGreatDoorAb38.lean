/- -/
import Derived.Test.YtandgamnamkkhaaGreatDoorAb37
set_option linter.unusedSimpArgs false
set_option maxHeartbeats 16000000
set_option linter.unusedVariables false
set_option maxRecDepth 8000
namespace Go.Ah
open Go.Ab Go.Proofs
theorem Cq{l:List Blk}{i:Nat}{s:ByteArray}(hl:l.length<1000)(hm:Gd 12 s)(hb:l[i]?=some (MB.text true s).blk):DK 20 [jf l,.int i] fun d=>∃v:Bool,d=.bool v/\(v=true->vT l i):=by
 have hil:i<l.length:=(zgs hb).1;have hsb:=kh hb;have hcl:=Yx hm oM;have hfin (h:∃q,0<i/\l[i-1]?=some q/\(q.kind=1\/q.kind=4)):vT l i:=fun b' hb'=>by
  rw [hb] at hb';obtain rfl:=zsi hb';exact⟨fun _=>h,fun e=>by cases e⟩
 cases i with
 |zero=>
  have e69:decide (((0:Nat):Int)>0)=false:=rfl;refine qI fun Z0 lo=>?_;refine qa ?_;intros;refine qj rfl rfl kQ ?_;rintro _ ⟨v1,rfl⟩;refine qa ?_;intros
  repeat (first|(refine qb (t:=false) rfl (fun h=>by cases h) (fun _=>?_);refine qa ?_;intros)|(refine qb (t:=true) rfl (fun _=>?_) (fun h=>by cases h);refine qa ?_;intros))
  refine qj rfl rfl hcl ?_;rintro _ rfl;refine qa ?_;intros;exact qc ⟨_,rfl,rfl,_,rfl,fun h=>by cases h⟩
 |succ j=>
  obtain⟨q,hq⟩:∃q,l[j]?=some q:=⟨_,zge oM⟩;have hsq:=kh hq;have e69:decide (((j+1:Nat):Int)>0)=true:=decide_eq_true oM;have hwj:IntKind.i64.wrap (((j+1:Nat):Int)-1)=((j:Nat):Int):=by rw [qg (by omega) (by omega)];omega
  refine qI fun Z0 lo=>?_;refine qa ?_;intros;refine qj rfl rfl kQ ?_;rintro _ ⟨v1,rfl⟩;refine qa ?_;intros
  repeat (first|(refine qb (t:=false) rfl (fun h=>by cases h) (fun _=>?_);refine qa ?_;intros)|(refine qb (t:=true) rfl (fun _=>?_) (fun h=>by cases h);refine qa ?_;intros))
  refine qj rfl rfl hcl ?_;rintro _ rfl;refine qa ?_;intros;simp only [e69];refine qa ?_;intros;rw [hwj];refine qa ?_;intros;cases e78:(q.kind==1) with
  |true=>
   have hok:=hfin ⟨q,by omega,by rw [Nat.add_sub_cancel];exact hq,.inl (by simpa using e78)⟩
   try simp only [e78]
   refine qa ?_;intros;exact qc ⟨_,rfl,rfl,_,rfl,fun _=>hok⟩
  |false=>
   cases e86:(q.kind==4) with
   |true=>
    have hok:=hfin ⟨q,by omega,by rw [Nat.add_sub_cancel];exact hq,.inr (by simpa using e86)⟩
    try simp only [e78]
    refine qa ?_;intros;rw [hwj];refine qa ?_;intros;exact qc ⟨_,rfl,rfl,_,rfl,fun _=>hok⟩
   |false=>
    try simp only [e78]
    refine qa ?_;intros;rw [hwj];refine qa ?_;intros
    try simp only [e86]
    refine qa ?_;intros;exact qc ⟨_,rfl,rfl,_,rfl,fun h=>by cases h⟩
theorem Cp{l:List Blk}{i:Nat}{page:Nat}(hl:l.length<1000)(hm:(MB.ink page).good)(hb:l[i]?=some (MB.ink page).blk):DK 20 [jf l,.int i] fun d=>∃v:Bool,d=.bool v/\(v=true->vT l i):=by
 have hil:i<l.length:=(zgs hb).1;have hsb:=kh hb;have e103:decide ((page:Int)>=1)=true:=decide_eq_true (by have:=hm.1;omega);have e107:decide ((page:Int)<=9999)=true:=decide_eq_true (by have:=hm.2;omega);have hfin (h:∀k q,k<i->l[k]?=some q->q.kind=7->q.page<page):vT l i:=fun b' hb'=>by
  rw [hb] at hb';obtain rfl:=zsi hb';exact⟨fun e=>(by cases e),fun _=>h⟩
 refine qI fun Z0 lo=>?_;refine qa ?_;intros;refine qj rfl rfl kQ ?_;rintro _ ⟨v1,rfl⟩;refine qa ?_;intros
 repeat (first|(refine qb (t:=false) rfl (fun h=>by cases h) (fun _=>?_);refine qa ?_;intros)|(refine qb (t:=true) rfl (fun _=>?_) (fun h=>by cases h);refine qa ?_;intros))
 refine qm (fun m E S nk=>∃(k:Nat) (fl b6 b7 b8 b9:Bool),k+m=i/\(fl=true->∀k' q,k'<k->l[k']?=some q->q.kind=7->q.page<page)/\E=[(0,jf l),(1,.int i),(5,.one (.ptr 0 0)),(6,.bool b6),(7,.bool b7),(8,.bool b8),(9,.bool b9),(10,.bool v1),(11,.bool fl),(12,.int k)]/\S=[(0,.cells ((yC (MB.ink page).blk).map .f))]/\nk=1)
  ⟨i,_,_,_,[],?wk,0,?fl,?b6,?b7,?b8,?b9,oM,fun _ k' q h=>absurd h (Nat.not_lt_zero _),rfl,rfl,rfl⟩ ?_
 case wk=>exact ql
 rintro m E S nk ⟨k,fl,b6,b7,b8,b9,hkm,hfl,rfl,rfl,rfl⟩;refine qa ?_;intros;refine qb rfl (fun h1=>?_) (fun h1=>?_)
 ·have h1:=qG h1;obtain⟨q,hq⟩:∃q,l[k]?=some q:=⟨_,zge oM⟩;have hsq:=kh hq;cases fl with
  |false=>
   refine qa ?_;intros;refine⟨m-1,oM,_,_,_,[],?wk,k+1,false,b6,b7,b8,b9,oM,fun h=>(by cases h),rfl,rfl,rfl⟩
   case wk=>exact ql
  |true=>
   have hfl:=hfl rfl;cases e121:(q.kind !=7) with
   |true=>
    have h7:q.kind≠7:=by simpa using e121
    refine qa ?_;intros
    try simp only [e121]
    refine qa ?_;intros;refine⟨m-1,oM,_,_,_,[],?wk,k+1,true,b6,b7,b8,b9,oM,fun _ k' q' hk' hq' h=>?_,rfl,rfl,rfl⟩
    case wk=>exact ql
    by_cases e:k'=k
    ·rw [e,hq] at hq';obtain rfl:=zsi hq';exact absurd h h7
    ·exact hfl k' q' oM hq' h
   |false=>
    refine qa ?_;intros
    try simp only [e121]
    refine qa ?_;intros;refine⟨m-1,oM,_,_,_,[],?wk,k+1,decide (q.page<page),b6,b7,b8,b9,oM,fun hp k' q' hk' hq' h=>?_,rfl,rfl,rfl⟩
    case wk=>exact ql
    by_cases e:k'=k
    ·rw [e,hq] at hq';obtain rfl:=zsi hq';exact qG hp
    ·exact hfl k' q' oM hq' h
 ·have h1:=qQ h1;have hki:k=i:=by omega
  subst hki;refine qa ?_;intros;refine qc ⟨_,rfl,rfl,_,rfl,fun hv=>?_⟩;cases fl with
  |false=>
   refine absurd hv ?_;cases b6<;>cases b7<;>cases b8<;>cases b9<;>cases v1<;>simp
  |true=>exact hfin (hfl rfl)
theorem Fo{l:List Blk}{i:Nat}{m:MB}(hl:l.length<1000)(hm:m.good)(hb:l[i]?=some m.blk):DK 20 [jf l,.int i] fun d=>∃v:Bool,d=.bool v/\(v=true->vT l i):=by
 match m,hm,hb with
 |.text true s,hm,hb=>exact Cq hl hm hb
 |.ink page,hm,hb=>exact Cp hl hm hb
 |.text false s,hm,hb=>exact Vm hl (m:=.text false s) hm hb ⟨(by decide:(1:Int)≠4),(by decide:(1:Int)≠7)⟩
 |.head lv s,hm,hb=>exact Vm hl (m:=.head lv s) hm hb ⟨(by decide:(2:Int)≠4),(by decide:(2:Int)≠7)⟩
 |.tab rows,hm,hb=>exact Vm hl (m:=.tab rows) hm hb ⟨(by decide:(3:Int)≠4),(by decide:(3:Int)≠7)⟩
 |.math t,hm,hb=>exact Vm hl (m:=.math t) hm hb ⟨(by decide:(5:Int)≠4),(by decide:(5:Int)≠7)⟩
 |.map p,hm,hb=>exact Vm hl (m:=.map p) hm hb ⟨(by decide:(6:Int)≠4),(by decide:(6:Int)≠7)⟩
structure Rw where
 x0:Int
 x1:Int
 x2:Int
 x3:Int
 x4:Int
 x5:Int
def vG(x:Rw):List FD:=[.c (.int .u8 x.x0),.c (.int .u8 x.x1),.c (.int .u8 x.x2),.c (.int .u8 x.x3),.c (.int .u8 x.x4),.c (.int .u8 x.x5)]
def Gh(x:Rw):DV:=.agg ((vG x).map .f)
def Xv(n:Int):Prop:=0<=n/\n<256
def Rw.ok(x:Rw):Prop:=(Xv x.x0/\Xv x.x1/\Xv x.x2)/\Xv x.x3/\Xv x.x4/\Xv x.x5
def fA(x:Rw)(w:Int):Int:=x.x1.tmod w
def fB(x:Rw)(h:Int):Int:=x.x2.tmod h
def fR(x:Rw)(w:Int):Int:=min (fA x w+(1+x.x3.tmod 8)) (w-1)
def fL(x:Rw)(h:Int):Int:=min (fB x h+(1+x.x4.tmod 8)) (h-1)
def yi(x:Rw)(w h:Int):Ft:=
 if x.x0.tmod 3=0 then ⟨1,0,[(fA x w,fB x h)]⟩
 else if x.x0.tmod 3=1 then ⟨2,0,[(fA x w,fB x h),(fR x w,fL x h)]++if x.x5.tmod 2=1 then [(fA x w,fL x h)] else []⟩
 else ⟨3,(x.x0.tdiv 3).tmod 4,[(fA x w,fB x h),(fR x w,fB x h),(fR x w,fL x h)]++if x.x5.tmod 2=1 then [(fA x w,fL x h)] else []⟩
theorem A0{x:Rw}{w h:Int}(hx:x.ok)(hw:4<=w/\w<=60)(hh:3<=h/\h<=60):DK 99 [Gh x,.int w,.int h] fun d=>d=bM (yi x w h):=by
 refine qI fun Z0 lo=>?_;obtain⟨⟨hx0,hx1,hx2⟩,hx3,hx4,hx5⟩:=hx;unfold Xv at *;have w1:IntKind.i64.wrap x.x1=x.x1:=qg oM oM;have w2:IntKind.i64.wrap x.x2=x.x2:=qg oM oM;have w3:IntKind.i64.wrap x.x3=x.x3:=qg oM oM;have w4:IntKind.i64.wrap x.x4=x.x4:=qg oM oM;have t1:0<=x.x1.tmod w/\x.x1.tmod w<w:=⟨Int.tmod_nonneg _ hx1.1,Int.tmod_lt_of_pos _ oM⟩;have t2:0<=x.x2.tmod h/\x.x2.tmod h<h:=⟨Int.tmod_nonneg _ hx2.1,Int.tmod_lt_of_pos _ oM⟩;have t3:0<=x.x3.tmod 8/\x.x3.tmod 8<8:=⟨Int.tmod_nonneg _ hx3.1,Int.tmod_lt_of_pos _ oM⟩;have t4:0<=x.x4.tmod 8/\x.x4.tmod 8<8:=⟨Int.tmod_nonneg _ hx4.1,Int.tmod_lt_of_pos _ oM⟩;refine qa ?_;intros;rw [w1];refine XB rfl rfl oM ?_;refine qa ?_;intros;rw [w2];refine XB rfl rfl oM ?_;refine qa ?_;intros;have q1:0<=x.x0.tdiv 3/\x.x0.tdiv 3<256:=by rw [Int.tdiv_eq_ediv_of_nonneg hx0.1];omega
 have u1:IntKind.u8.wrap (x.x0.tdiv 3)=x.x0.tdiv 3:=by
  simp [IntKind.wrap,IntKind.signed,IntKind.bits];omega
 have t5:0<=(x.x0.tdiv 3).tmod 4/\(x.x0.tdiv 3).tmod 4<4:=⟨Int.tmod_nonneg _ q1.1,Int.tmod_lt_of_pos _ oM⟩;have t6:0<=x.x0.tmod 3/\x.x0.tmod 3<3:=⟨Int.tmod_nonneg _ hx0.1,Int.tmod_lt_of_pos _ oM⟩;have hK:IntKind.i64.wrap (1+IntKind.i64.wrap (x.x0.tmod 3))=1+x.x0.tmod 3:=by rw [qg (n:=x.x0.tmod 3) (by omega) (by omega),qg (by omega) (by omega)]
 have hT:IntKind.i64.wrap ((IntKind.u8.wrap (x.x0.tdiv 3)).tmod 4)=(x.x0.tdiv 3).tmod 4:=by rw [u1,qg (by omega) (by omega)]
 have hR:min (IntKind.i64.wrap (x.x1.tmod w+IntKind.i64.wrap (1+(IntKind.i64.wrap x.x3).tmod 8))) (IntKind.i64.wrap (w-1))=fR x w:=by
  rw [w3,qg (n:=1+x.x3.tmod 8) (by omega) (by omega),qg (n:=x.x1.tmod w+(1+x.x3.tmod 8)) (by omega) (by omega),qg (n:=w-1) (by omega) (by omega)];rfl
 have hL:min (IntKind.i64.wrap (x.x2.tmod h+IntKind.i64.wrap (1+(IntKind.i64.wrap x.x4).tmod 8))) (IntKind.i64.wrap (h-1))=fL x h:=by
  rw [w4,qg (n:=1+x.x4.tmod 8) (by omega) (by omega),qg (n:=x.x2.tmod h+(1+x.x4.tmod 8)) (by omega) (by omega),qg (n:=h-1) (by omega) (by omega)];rfl
 refine qu (E0:=[(3,.one (.ptr 0 0)),(6,.one (.ptr 1 0)),(7,.int (fA x w)),(8,.int (fB x h)),(11,.int (fR x w)),(12,.int (fL x h)),(13,.one (.ptr 2 0)),(14,.one (.ptr 3 0)),(15,.int (1+x.x0.tmod 3)),(16,.int ((x.x0.tdiv 3).tmod 4)),(68,.bool (1+x.x0.tmod 3==1))])
  (S0:=[(0,.cells ((vG x).map .f)),(1,.cells [.f (.c (.int .i64 0)),.f (.c (.int .i64 0)),.f (.c .nils)]),(2,.cells [.f (.c (.int .i64 (fA x w))),.f (.c (.int .i64 (fB x h)))]),(3,.cells [.f (.c (.int .i64 (fR x w))),.f (.c (.int .i64 (fL x h)))])])
  (qf rfl (qf rfl (qf rfl (qf rfl (qf (congrArg (fun z=>some (DV.int z)) hR) (qf (congrArg (fun z=>some (DV.int z)) hL) (qf rfl (qf rfl (qf (congrArg (fun z=>some (DV.int z)) hK) (qf (congrArg (fun z=>some (DV.int z)) hT) (qf (congrArg (fun z=>some (DV.bool (z==1))) hK) (qw _))))))))))))
  (qf rfl (qf rfl (qf rfl (qf (by rw [<-hR,<-hL];rfl) (qw _))))) ?_
 refine qb rfl (fun h1=>?_) (fun h1=>?_)
 ·have h1:x.x0.tmod 3=0:=by
   have:1+x.x0.tmod 3=1:=by simpa using h1
   omega
  refine qa ?_;intros;refine qu (E0:=[(6,.one (.ptr 1 0))]) (S0:=[(1,.cells [.f (.c (.int .i64 (1+x.x0.tmod 3))),.f (.c (.int .i64 0)),.own 4 0 1 2]),(4,.data (qh (fA x w,fB x h)))]) (qf rfl (qw _)) (qf rfl (qf rfl (qw _))) ?_;refine qH 4 rfl qD qD ?_;refine qc ⟨_,rfl,rfl,?_⟩;rw [yi,if_pos h1,h1];rfl
 ·have h1:¬x.x0.tmod 3=0:=fun h=>by rw [h] at h1;simp at h1
  refine qa ?_;intros;refine qb rfl (fun h2=>?_) (fun h2=>?_)
  ·have h2:x.x0.tmod 3=1:=by
    have:1+x.x0.tmod 3=2:=by simpa using h2
    omega
   refine qa ?_;intros;refine qb rfl (fun h5=>?_) (fun h5=>?_)
   ·have h5:x.x5.tmod 2=1:=by simpa using h5
    refine qa ?_;intros;refine qy (m:=1) (q:=qh (fA x w,fL x h)) (l:=qh (fA x w,fB x h)++qh (fR x w,fL x h)) rfl rfl rfl rfl ⟨rfl,rfl,_,rfl,rfl⟩ oM oM (by decide) rfl ?_;refine qa ?_;intros;refine qu (E0:=[(6,.one (.ptr 1 0))]) (S0:=[(1,.cells [.f (.c (.int .i64 (1+x.x0.tmod 3))),.f (.c (.int .i64 0)),.own 6 0 3 2]),(6,.data [.c (.int .i64 (fA x w)),.c (.int .i64 (fB x h)),.c (.int .i64 (fR x w)),.c (.int .i64 (fL x h)),.c (.int .i64 (fA x w)),.c (.int .i64 (fL x h))])]) (qf rfl (qw _)) (qf rfl (qf rfl (qw _))) ?_;refine qH 6 rfl qD qD ?_;refine qc ⟨_,rfl,rfl,?_⟩;rw [yi,if_neg h1,if_pos h2,if_pos h5,h2];rfl
   ·have h5:¬x.x5.tmod 2=1:=by simpa using h5
    refine qa ?_;intros;refine qu (E0:=[(6,.one (.ptr 1 0))]) (S0:=[(1,.cells [.f (.c (.int .i64 (1+x.x0.tmod 3))),.f (.c (.int .i64 0)),.own 4 0 2 2]),(4,.data [.c (.int .i64 (fA x w)),.c (.int .i64 (fB x h)),.c (.int .i64 (fR x w)),.c (.int .i64 (fL x h))])]) (qf rfl (qw _)) (qf rfl (qf rfl (qw _))) ?_;refine qH 4 rfl qD qD ?_;refine qc ⟨_,rfl,rfl,?_⟩;rw [yi,if_neg h1,if_pos h2,if_neg h5,h2];rfl
  ·have h2:¬x.x0.tmod 3=1:=fun h=>by rw [h] at h2;simp at h2
   have h3:x.x0.tmod 3=2:=by omega
   refine qa ?_;intros;refine qb rfl (fun h5=>?_) (fun h5=>?_)
   ·have h5:x.x5.tmod 2=1:=by simpa using h5
    refine qa ?_;intros;refine qy (m:=1) (q:=qh (fA x w,fL x h)) (l:=qh (fA x w,fB x h)++qh (fR x w,fB x h)++qh (fR x w,fL x h)) rfl rfl rfl rfl ⟨rfl,rfl,_,rfl,rfl⟩ oM oM (by decide) rfl ?_;refine qa ?_;intros;refine qu (E0:=[(6,.one (.ptr 1 0))]) (S0:=[(1,.cells [.f (.c (.int .i64 (1+x.x0.tmod 3))),.f (.c (.int .i64 ((x.x0.tdiv 3).tmod 4))),.own 6 0 4 2]),(6,.data [.c (.int .i64 (fA x w)),.c (.int .i64 (fB x h)),.c (.int .i64 (fR x w)),.c (.int .i64 (fB x h)),.c (.int .i64 (fR x w)),.c (.int .i64 (fL x h)),.c (.int .i64 (fA x w)),.c (.int .i64 (fL x h))])]) (qf rfl (qw _)) (qf rfl (qf rfl (qw _))) ?_;refine qH 6 rfl qD qD ?_;refine qc ⟨_,rfl,rfl,?_⟩;rw [yi,if_neg h1,if_neg h2,if_pos h5,h3];rfl
   ·have h5:¬x.x5.tmod 2=1:=by simpa using h5
    refine qa ?_;intros;refine qu (E0:=[(6,.one (.ptr 1 0))]) (S0:=[(1,.cells [.f (.c (.int .i64 (1+x.x0.tmod 3))),.f (.c (.int .i64 ((x.x0.tdiv 3).tmod 4))),.own 4 0 3 2]),(4,.data [.c (.int .i64 (fA x w)),.c (.int .i64 (fB x h)),.c (.int .i64 (fR x w)),.c (.int .i64 (fB x h)),.c (.int .i64 (fR x w)),.c (.int .i64 (fL x h))])]) (qf rfl (qw _)) (qf rfl (qf rfl (qw _))) ?_;refine qH 4 rfl qD qD ?_;refine qc ⟨_,rfl,rfl,?_⟩;rw [yi,if_neg h1,if_neg h2,if_neg h5,h3];rfl
structure Raw where
 w:Int
 h:Int
 g:Int
 f:List Rw
def Raw.ok(x:Raw):Prop:=(Xv x.w/\Xv x.h/\Xv x.g)/\∀r∈x.f,r.ok
def B6(x:Raw):List DC:=[.f (.c (.int .u8 x.w)),.f (.c (.int .u8 x.h)),.f (.c (.int .u8 x.g)),.f (.sl 6 x.f.length (x.f.flatMap vG))]
def Eo(x:Raw):DV:=.agg (B6 x)
def mW(x:Raw):Int:=12+2*x.w.tmod 13
def mH(x:Raw):Int:=12+3*x.h.tmod 9
def mG(x:Raw):Int:=2+x.g.tmod 3
def oY:Ft:=⟨1,0,[(1,1)]⟩
def mF(x:Raw):List Ft:=match (x.f.take 4).map (fun r=>yi r (mW x) (mH x)) with
 |[]=>[oY]
 |l=>l
def QV(x:Raw):Pic:=⟨mW x,mH x,mG x,mF x⟩
theorem NO{l:List Rw}{i:Nat}{x:Rw}(h:l[i]?=some x):qT (l.flatMap vG) (i*6) 6=some (vG x):=zC (e:=6) (fun _=>rfl) h
theorem T4{x:Raw}(hx:x.ok):DK 70 [Eo x] fun d=>d=yz (QV x):=by
 refine qI fun Z0 lo=>?_;obtain⟨⟨hw,hh,hg⟩,hf⟩:=hx;unfold Xv at hw hh hg;have t1:0<=x.w.tmod 13/\x.w.tmod 13<13:=⟨Int.tmod_nonneg _ hw.1,Int.tmod_lt_of_pos _ oM⟩;have t2:0<=x.h.tmod 9/\x.h.tmod 9<9:=⟨Int.tmod_nonneg _ hh.1,Int.tmod_lt_of_pos _ oM⟩;have t3:0<=x.g.tmod 3/\x.g.tmod 3<3:=⟨Int.tmod_nonneg _ hg.1,Int.tmod_lt_of_pos _ oM⟩;have hW:IntKind.i64.wrap (12+IntKind.i64.wrap (2*IntKind.i64.wrap (x.w.tmod 13)))=mW x:=by
  rw [qg (n:=x.w.tmod 13) (by omega) (by omega),qg (n:=2*x.w.tmod 13) (by omega) (by omega),qg (by omega) (by omega)];rfl
 have hH:IntKind.i64.wrap (12+IntKind.i64.wrap (3*IntKind.i64.wrap (x.h.tmod 9)))=mH x:=by
  rw [qg (n:=x.h.tmod 9) (by omega) (by omega),qg (n:=3*x.h.tmod 9) (by omega) (by omega),qg (by omega) (by omega)];rfl
 have hG:IntKind.i64.wrap (2+IntKind.i64.wrap (x.g.tmod 3))=mG x:=by
  rw [qg (n:=x.g.tmod 3) (by omega) (by omega),qg (by omega) (by omega)];rfl
 refine qa ?_;intros;refine qu (E0:=[(1,.one (.ptr 0 0)),(2,.one (.ptr 1 0)),(3,.one (.ptr 2 0)),(4,.int 0)])
  (S0:=[(0,.cells (B6 x)),(1,.cells [.f (.c (.int .i64 0)),.f (.c (.int .i64 0)),.f (.c (.int .i64 0)),.f (.c .nils)]),(2,.cells [.f (.c (.int .i64 (mW x))),.f (.c (.int .i64 (mH x))),.f (.c (.int .i64 (mG x))),.f (.c .nils)])])
  (qf rfl (qf rfl (qf rfl (qf rfl (qw _)))))
  (qf rfl (qf rfl (qf (by rw [<-hW,<-hH,<-hG];rfl) (qw _)))) ?_
 refine Ke 2 3 3 rfl rfl ?_;refine qm (fun m E S nk=>∃(i:Nat) (out:List Ft),i+m=min x.f.length 4/\out=(x.f.take i).map (fun r=>yi r (mW x) (mH x))/\E=[(1,.one (.ptr 0 0)),(2,.one (.ptr 1 0)),(3,.one (.ptr 2 0)),(4,.int i)]/\
  S=[(0,.cells (B6 x)),(1,.cells [.f (.c (.int .i64 0)),.f (.c (.int .i64 0)),.f (.c (.int .i64 0)),.f (.c .nils)]),(2,.cells [.f (.c (.int .i64 (mW x))),.f (.c (.int .i64 (mH x))),.f (.c (.int .i64 (mG x))),.own 3 0 out.length 3]),(3,.data (out.flatMap w8))]/\nk=4)
  ⟨min x.f.length 4,_,_,_,[],?wk,0,[],oM,rfl,rfl,rfl,rfl⟩ ?_
 case wk=>exact ql
 rintro m E S nk ⟨i,out,hi,ho,rfl,rfl,rfl⟩;refine qa ?_;intros;refine qb rfl (fun ht=>?_) (fun ht=>?_)
 ·rw [vh,xt] at ht;have h1:=qG ht.1;have h2:=qG ht.2;obtain⟨r,hr⟩:∃r,x.f[i]?=some r:=⟨_,zge oM⟩;have e1:=NO hr;have hol:out.length=i:=by rw [ho,List.length_map,List.length_take];omega
  have hfl:=mO out;refine qa ?_;intros;refine qj rfl rfl (A0 (x:=r) (w:=mW x) (h:=mH x) (hf r (zmg hr)) (by unfold mW;omega) (by unfold mH;omega)) ?_;rintro _ rfl;refine qa ?_;intros;refine qy (m:=1) (q:=w8 (yi r (mW x) (mH x))) rfl rfl rfl (qp _ hfl) ⟨rfl,rfl,_,rfl,rfl⟩ oM oM (by decide) rfl ?_;rw [show out.flatMap w8++w8 (yi r (mW x) (mH x))=(out++[yi r (mW x) (mH x)]).flatMap w8 by simp,show out.length+1=(out++[yi r (mW x) (mH x)]).length by simp];refine TH rfl ?_;refine qa ?_;intros;refine⟨m-1,by omega,_,_,_,[(3,5)],?wk1,i+1,out++[yi r (mW x) (mH x)],by omega,by rw [List.take_add_one,hr,ho];simp,rfl,rfl,rfl⟩
  case wk1=>exact ql
 ·rw [vh] at ht;have hi4:i=min x.f.length 4:=by
   rcases Bool.and_eq_false_iff.1 ht with h|h
   ·have:=qQ h;omega
   ·have:=qQ h;omega
  have ho4:out=(x.f.take 4).map (fun r=>yi r (mW x) (mH x)):=by
   rw [ho,hi4];by_cases h4:x.f.length<=4
   ·rw [List.take_of_length_le (by omega),List.take_of_length_le h4]
   ·rw [show min x.f.length 4=4 by omega]
  clear ho;refine qa ?_;intros;refine qb rfl (fun hz=>?_) (fun hz=>?_)
  ·have hz:out=[]:=by
    have h:(out.length:Int)=0:=by simpa using hz
    exact List.length_eq_zero_iff.1 oM
   have hmF:mF x=[oY]:=by rw [mF,<-ho4,hz]
   clear ho4;subst hz;refine qu (qf (k:=2) rfl (qf (k:=3) rfl (qw _))) (zj _) ?_
   iterate 4 (first|(refine ZG rfl rfl ?_)|(refine ZH rfl rfl ?_)|(refine Yr rfl ?_)|(refine Ys rfl rfl ?_)|(refine Yt rfl rfl ?_)|(refine Wg rfl QF QF ?_)|(refine Vf rfl rfl ?_)|(refine Ve rfl rfl ?_)|(refine xT rfl ?_)|(refine jF rfl ?_)|(refine jt rfl ?_)|(refine cX rfl QF ?_)|(refine cY rfl QF ?_)|(refine Vh rfl rfl oM oM ?_)|(refine Vi rfl rfl oM oM ?_)|(refine Vg rfl rfl oM oM ?_)|(refine Vk rfl rfl oM (by decide) aM ?_)|(refine xU rfl rfl oM (by decide) aM ?_)|(refine jF (ja rfl rfl aM rfl) ?_)|(refine jt (ja rfl rfl aM rfl) ?_)|(refine jF (y8 rfl rfl aM) ?_)|(refine jt (y8 rfl rfl aM) ?_)|(refine jF (y9 rfl rfl aM aM) ?_)|(refine jt (y9 rfl rfl aM aM) ?_)|(refine Qz rfl ?_)|(refine cZ rfl rfl rfl ?_)|(refine vq rfl rfl rfl rfl rfl (Nat.le_of_ble_eq_true rfl) rfl ?_)|(refine zE ?_)|(refine yB ?_)|(refine yq wq (fun base=>?_))|(refine ZJ ?_)|(refine XD ?_)|(refine ya ?_))
   have hq2:(qh (1,1)).length=1*2:=rfl;refine JB 4 rfl qD qD ?_;refine qa ?_;intros;refine qu (qf (k:=2) rfl (qw _)) (qf (k:=1) rfl (qf (k:=5) rfl (qw _))) ?_;have hq3:(w8 oY).length=1*3:=rfl;refine qH 5 rfl qD qD ?_;refine qc ⟨_,rfl,rfl,?_⟩;rw [QV,hmF];rfl
  ·have hz:out≠[]:=fun h=>by
    subst h;cases hz
   have hmF:mF x=out:=by
    rw [mF,<-ho4];cases out with
    |nil=>exact absurd rfl hz
    |cons=>rfl
   have hfl:=mO out;refine qa ?_;intros;refine qu (qf (k:=2) rfl (qw _)) (qf (k:=1) rfl (qf (k:=3) rfl (qw _))) ?_;refine qH 3 rfl qD qD ?_;refine qc ⟨_,rfl,rfl,?_⟩;rw [QV,hmF];rfl
def rE(a:qd):List qd:=(List.range 9).flatMap fun (y:Nat)=>(List.range 9).map fun (x:Nat)=>(a.1+(x:Int),a.2+(y:Int))
theorem EL(a:qd):(rE a).length=81:=rfl
theorem EK{a p:qd}(h:xf a (a.1+8,a.2+8) p):p∈rE a:=by
 obtain⟨p1,p2⟩:=p;unfold xf at h;simp only at h;simp only [rE,List.mem_flatMap,List.mem_map,List.mem_range,zpi];exact⟨(p2-a.2).toNat,oM,(p1-a.1).toNat,oM,oM,oM⟩
theorem iZ{f:Ft}{a:qd}(hv:xB f=true)(h:∀q∈f.pts,xf a (a.1+8,a.2+8) q):(qN f).length<=256:=by
 have:=wD (YO hv) (b:=rE a) fun p hp=>EK (Zi h p hp);rw [EL] at this;omega
theorem uM{x:Rw}{w h:Int}(hx:x.ok)(hw:0<w)(hh:0<h):∀q∈(yi x w h).pts,xf (fA x w,fB x h) (fA x w+8,fB x h+8) q:=by
 obtain⟨⟨_,hx1,hx2⟩,hx3,hx4,_⟩:=hx;unfold Xv at *;have t1:0<=x.x1.tmod w/\x.x1.tmod w<w:=⟨Int.tmod_nonneg _ hx1.1,Int.tmod_lt_of_pos _ hw⟩;have t2:0<=x.x2.tmod h/\x.x2.tmod h<h:=⟨Int.tmod_nonneg _ hx2.1,Int.tmod_lt_of_pos _ hh⟩;have t3:0<=x.x3.tmod 8/\x.x3.tmod 8<8:=⟨Int.tmod_nonneg _ hx3.1,Int.tmod_lt_of_pos _ oM⟩;have t4:0<=x.x4.tmod 8/\x.x4.tmod 8<8:=⟨Int.tmod_nonneg _ hx4.1,Int.tmod_lt_of_pos _ oM⟩;have hR:fA x w<=fR x w/\fR x w<=fA x w+8:=by unfold fR fA;omega
 have hL:fB x h<=fL x h/\fL x h<=fB x h+8:=by unfold fL fB;omega
 have b1:xf (fA x w,fB x h) (fA x w+8,fB x h+8) (fA x w,fB x h):=by unfold xf;simp only;omega
 have b2:xf (fA x w,fB x h) (fA x w+8,fB x h+8) (fR x w,fL x h):=by unfold xf;simp only;omega
 have b3:xf (fA x w,fB x h) (fA x w+8,fB x h+8) (fA x w,fL x h):=by unfold xf;simp only;omega
 have b4:xf (fA x w,fB x h) (fA x w+8,fB x h+8) (fR x w,fB x h):=by unfold xf;simp only;omega
 intro q hq;unfold yi at hq;split at hq
 ·simp only [List.mem_singleton] at hq;subst hq;exact b1
 ·split at hq
  ·simp only [List.mem_append,List.mem_cons,List.not_mem_nil,or_false] at hq;rcases hq with (rfl|rfl)|hq
   ·exact b1
   ·exact b2
   ·split at hq
    ·simp only [List.mem_singleton] at hq;subst hq;exact b3
    ·cases hq
  ·simp only [List.mem_append,List.mem_cons,List.not_mem_nil,or_false] at hq;rcases hq with (rfl|rfl|rfl)|hq
   ·exact b1
   ·exact b4
   ·exact b2
   ·split at hq
    ·simp only [List.mem_singleton] at hq;subst hq;exact b3
    ·cases hq
theorem uL{x:Rw}{w h:Int}:(yi x w h).pts.length<=4:=by
 unfold yi;split
 ·exact Nat.le_add_left 1 3
 ·split
  ·split<;>simp
  ·split<;>simp
theorem tX{x:Raw}{f:Ft}(h:f∈mF x):f=oY\/∃r∈x.f,f=yi r (mW x) (mH x):=by
 unfold mF at h;split at h
 ·simp only [List.mem_singleton] at h;exact .inl h
 ·rename_i l hl;obtain⟨r,hr,rfl⟩:=List.mem_map.1 h;exact .inr ⟨r,List.mem_of_mem_take hr,rfl⟩
theorem N9(x:Raw):1<=(mF x).length/\(mF x).length<=4:=by
 unfold mF;split
 ·decide
 ·rename_i l hl;refine⟨?_,?_⟩
  ·cases h:(x.f.take 4).map (fun r=>yi r (mW x) (mH x)) with
   |nil=>exact absurd h hl
   |cons=>simp
  ·rw [List.length_map,List.length_take];omega
theorem Gk{x:Raw}(hx:x.ok):(12<=mW x/\mW x<=36)/\(12<=mH x/\mH x<=36)/\2<=mG x/\mG x<=4:=by
 obtain⟨⟨hw,hh,hg⟩,hf⟩:=hx;unfold Xv at hw hh hg;have t1:0<=x.w.tmod 13/\x.w.tmod 13<13:=⟨Int.tmod_nonneg _ hw.1,Int.tmod_lt_of_pos _ oM⟩;have t2:0<=x.h.tmod 9/\x.h.tmod 9<9:=⟨Int.tmod_nonneg _ hh.1,Int.tmod_lt_of_pos _ oM⟩;have t3:0<=x.g.tmod 3/\x.g.tmod 3<3:=⟨Int.tmod_nonneg _ hg.1,Int.tmod_lt_of_pos _ oM⟩;unfold mW mH mG;omega
theorem bA(x:Raw):Zr (QV x):=by
 refine⟨?_,fun f hf=>?_⟩
 ·have:=N9 x;show (mF x).length<1000;omega
 ·rcases tX hf with rfl|⟨r,_,rfl⟩
  ·decide
  ·have:=uL (x:=r) (w:=mW x) (h:=mH x);omega
theorem H6{f:Ft}{q:qd}(h1:f.kind=1)(h2:f.pts=[q]):(qN f).length<=256:=by
 unfold qN;rw [if_pos h1,h2];exact Nat.le_add_left 1 255
theorem CM{x:Raw}(hx:x.ok):iV (QV x):=fun f hf hv=>by
 have hb:=Gk hx;rcases tX hf with rfl|⟨r,hr,rfl⟩
 ·exact H6 (q:=(1,1)) rfl rfl
 ·exact iZ hv (uM (hx.2 r hr) oM oM)
structure RawB where
 kind:Nat
 n:Nat
 t:List Nat
 f:RawF
 p:Raw
structure RawB.ok (x:RawB):Prop where
 k:x.kind<256
 n:x.n<256
 t:∀v∈x.t,v<256
 tl:x.t.length<9223372036854775808
 f:x.f.ok
 p:x.p.ok
 pl:x.p.f.length<9223372036854775808
def Qh(x:RawB):List FD:=[.c (.int .u8 x.kind),.c (.int .u8 x.n),.sl 1 x.t.length (Zf x.t),.c (.int .u8 x.f.kind),.c (.int .u8 x.f.n),.sl 2 x.f.l.length (x.f.l.flatMap iG),.c (.int .u8 x.p.w),.c (.int .u8 x.p.h),.c (.int .u8 x.p.g),.sl 6 x.p.f.length (x.p.f.flatMap vG)]
abbrev cQ(x:RawB):DV:=.agg ((Qh x).map .f)
def MB.cells:MB->List FD
 |.text note s=>[FD.int (if note then 4 else 1),FD.int 0,.c (.str s),.c .nils,.c .nils,FD.int 0,FD.int 0,FD.int 0,.c .nils,FD.int 0]
 |.head lv s=>[FD.int 2,FD.int lv,.c (.str s),.c .nils,.c .nils,FD.int 0,FD.int 0,FD.int 0,.c .nils,FD.int 0]
 |.tab rows=>[FD.int 3,FD.int 0,.c (.str ⟨#[]⟩),Qg rows,.c .nils,FD.int 0,FD.int 0,FD.int 0,.c .nils,FD.int 0]
 |.math t=>[FD.int 5,FD.int 0,.c (.str ⟨#[]⟩),.c .nils,pK t.fl,FD.int 0,FD.int 0,FD.int 0,.c .nils,FD.int 0]
 |.map p=>[FD.int 6,FD.int 0,.c (.str ⟨#[]⟩),.c .nils,.c .nils,FD.int p.w,FD.int p.h,FD.int p.gap,.sl 3 p.fs.length (p.fs.flatMap w8),FD.int 0]
 |.ink page=>[FD.int 7,FD.int 0,.c (.str ⟨#[]⟩),.c .nils,.c .nils,FD.int 0,FD.int 0,FD.int 0,.c .nils,FD.int page]
theorem MB.nil(m:MB):qe NilF m.cells (yC m.blk):=by
 cases m with
 |text note s=>exact⟨.refl _,.refl _,.refl _,.nil 1,.nil 2,.refl _,.refl _,.refl _,.nil 3,.refl _,trivial⟩
 |head lv s=>exact⟨.refl _,.refl _,.refl _,.nil 1,.nil 2,.refl _,.refl _,.refl _,.nil 3,.refl _,trivial⟩
 |tab rows=>exact⟨.refl _,.refl _,.refl _,.refl _,.nil 2,.refl _,.refl _,.refl _,.nil 3,.refl _,trivial⟩
 |math t=>exact⟨.refl _,.refl _,.refl _,.nil 1,.refl _,.refl _,.refl _,.refl _,.nil 3,.refl _,trivial⟩
 |map p=>exact⟨.refl _,.refl _,.refl _,.nil 1,.nil 2,.refl _,.refl _,.refl _,.refl _,.refl _,trivial⟩
 |ink page=>exact⟨.refl _,.refl _,.refl _,.nil 1,.nil 2,.refl _,.refl _,.refl _,.nil 3,.refl _,trivial⟩
theorem MB.len(m:MB):m.cells.length=10:=by cases m<;>rfl
abbrev rG(d:DV):Prop:=∃m:MB,m.good/\d=.agg (m.cells.map .f)
theorem D9{x:RawB}(hx:x.ok)(hk:x.kind % 9≠2/\x.kind % 9≠6):DK 35 [cQ x,zQ vC] rG:=by
 have hn:=hx.n;have hm9:(x.kind:Int).tmod 9=((x.kind % 9:Nat):Int):=(Int.ofNat_tmod x.kind 9).symm;have h9:x.kind % 9<9:=Nat.mod_lt _ (by decide);have h3:x.n % 3<3:=Nat.mod_lt _ (by decide);have hlv:IntKind.i64.wrap (1+IntKind.i64.wrap ((x.n:Int).tmod 3))=((1+x.n % 3:Nat):Int):=by
  rw [show (x.n:Int).tmod 3=((x.n % 3:Nat):Int) from (Int.ofNat_tmod x.n 3).symm,qg (n:=((x.n % 3:Nat):Int)) (by omega) (by omega),qg (by omega) (by omega)];omega
 have hpg:IntKind.i64.wrap (1+IntKind.i64.wrap (x.n:Int))=((1+x.n:Nat):Int):=by
  rw [qg (n:=(x.n:Int)) (by omega) (by omega),qg (by omega) (by omega)];omega
 have htx:=Wj (l:=x.t) (n:=12) oM hx.t hx.tl;have ec:x.kind % 9=0\/x.kind % 9=8\/x.kind % 9=3\/x.kind % 9=4\/x.kind % 9=1\/x.kind % 9=7\/x.kind % 9=5:=by omega
 rcases ec with e|e|e|e|e|e|e
 all_goals
  rw [e] at hm9;refine qI fun Z0 lo=>?_;refine qa ?_;intros;refine qj rfl rfl htx ?_;rintro _ ⟨s,hs,rfl⟩;refine qa ?_;intros;simp only [hm9]
  repeat (first|(refine qb (t:=false) rfl (fun h=>by cases h) (fun _=>?_);refine qa ?_;intros)|(refine qb (t:=true) rfl (fun _=>?_) (fun h=>by cases h);refine qa ?_;intros))
 ·exact qc ⟨_,rfl,rfl,.text false s,hs,rfl⟩
 ·exact qc ⟨_,rfl,rfl,.text false s,hs,rfl⟩
 ·exact qc ⟨_,rfl,rfl,.text true s,hs,rfl⟩
 ·exact qc ⟨_,rfl,rfl,.text true s,hs,rfl⟩
 ·rw [hlv];exact qc ⟨_,rfl,rfl,.head (1+x.n % 3) s,⟨oM,oM,hs⟩,rfl⟩
 ·rw [hpg];exact qc ⟨_,rfl,rfl,.ink (1+x.n),⟨oM,oM⟩,rfl⟩
 ·refine qj rfl rfl (LX hx.f) ?_;rintro _ rfl;refine qa ?_;intros;exact qc ⟨_,rfl,rfl,.math (wg x.f),CY hx.f,rfl⟩
theorem D7{x:RawB}(hx:x.ok)(e:x.kind % 9=6):DK 35 [cQ x,zQ vC] rG:=by
 have hm9:(x.kind:Int).tmod 9=((x.kind % 9:Nat):Int):=(Int.ofNat_tmod x.kind 9).symm;rw [e] at hm9;have htx:=Wj (l:=x.t) (n:=12) oM hx.t hx.tl;have hmn:min (x.p.f.length:Int) 2=((min x.p.f.length 2:Nat):Int):=by omega
 have hp2:({ x.p with f:=x.p.f.take 2 }:Raw).ok:=⟨hx.p.1,fun r hr=>hx.p.2 r (List.mem_of_mem_take hr)⟩
 have htl:(x.p.f.take 2).length=min x.p.f.length 2:=by rw [List.length_take];omega
 have hq:qT (x.p.f.flatMap vG) (0*6) ((x.p.f.take 2).length*6)=some ((x.p.f.take 2).flatMap vG):=by
  have hl:(x.p.f.flatMap vG).length=x.p.f.length*6:=zO (f:=vG) (e:=6) (fun _=>rfl) _;have ht:((x.p.f.take 2).flatMap vG).length=(x.p.f.take 2).length*6:=zO (f:=vG) (e:=6) (fun _=>rfl) _;have hap:x.p.f.flatMap vG=(x.p.f.take 2).flatMap vG++(x.p.f.drop 2).flatMap vG:=by rw [<-List.flatMap_append,List.take_append_drop]
  rw [Nat.zero_mul,zw (by omega),List.drop_zero,<-ht,hap,List.take_left]
 have hmade:=T4 hp2;have hpl:=gY (bA { x.p with f:=x.p.f.take 2 })
 have hfew:=CM hp2;have hfine:=bA { x.p with f:=x.p.f.take 2 }
 refine qI fun Z0 lo=>?_;refine qa ?_;intros;refine qj rfl rfl htx ?_;rintro _ ⟨s,hs,rfl⟩;refine qa ?_;intros;simp only [hm9]
 repeat (first|(refine qb (t:=false) rfl (fun h=>by cases h) (fun _=>?_);refine qa ?_;intros)|(refine qb (t:=true) rfl (fun _=>?_) (fun h=>by cases h);refine qa ?_;intros))
 rw [hmn];refine Vd (n':=(x.p.f.take 2).length) (q:=(x.p.f.take 2).flatMap vG) rfl rfl rfl oM oM oM hq ?_;refine qa ?_;intros;refine qj rfl rfl hmade ?_;rintro _ rfl;refine qa ?_;intros;refine qj rfl rfl hpl ?_;rintro _ ⟨v,rfl,hv⟩;refine qa ?_;intros;refine qb (t:=v) rfl (fun hb=>?_) (fun hb=>?_)
 ·refine qa ?_;intros;exact qc ⟨_,rfl,rfl,.map (QV { x.p with f:=x.p.f.take 2 }),⟨hfine,hfew,hv hb⟩,rfl⟩
 ·refine qa ?_;intros;exact qc ⟨_,rfl,rfl,.text false s,hs,rfl⟩
abbrev dZ(r:List ByteArray):List FD:=r.map fun s=>.c (.str s)
abbrev MM:List DC:=[.f (FD.int 0),.f (FD.int 0),.f (.c (.str ⟨#[]⟩)),.f (.c .nils),.f (.c .nils),.f (FD.int 0),.f (FD.int 0),.f (FD.int 0),.f (.c .nils),.f (FD.int 0)]
theorem D8{x:RawB}(hx:x.ok)(e:x.kind % 9=2):DK 35 [cQ x,zQ vC] rG:=by
 have hn:=hx.n;have hm9:(x.kind:Int).tmod 9=((x.kind % 9:Nat):Int):=(Int.ofNat_tmod x.kind 9).symm;rw [e] at hm9;have h3:x.n % 3<3:=Nat.mod_lt _ (by decide);have h43:x.n/4 % 3<3:=Nat.mod_lt _ (by decide);have hC:IntKind.i64.wrap (1+IntKind.i64.wrap ((x.n:Int).tmod 3))=((1+x.n % 3:Nat):Int):=by
  rw [show (x.n:Int).tmod 3=((x.n % 3:Nat):Int) from (Int.ofNat_tmod x.n 3).symm,qg (n:=((x.n % 3:Nat):Int)) (by omega) (by omega),qg (by omega) (by omega)];omega
 have hR:IntKind.i64.wrap (1+IntKind.i64.wrap ((IntKind.u8.wrap ((x.n:Int).tdiv 4)).tmod 3))=((1+x.n/4 % 3:Nat):Int):=by
  rw [show IntKind.u8.wrap ((x.n:Int).tdiv 4)=((x.n/4:Nat):Int) from M9 hn,show ((x.n/4:Nat):Int).tmod 3=((x.n/4 % 3:Nat):Int) from (Int.ofNat_tmod _ 3).symm,qg (n:=((x.n/4 % 3:Nat):Int)) (by omega) (by omega),qg (by omega) (by omega)];omega
 have htx:=Wj (l:=x.t) (n:=12) oM hx.t hx.tl;generalize hc:1+x.n % 3=c at *;generalize hr:1+x.n/4 % 3=R at *;refine qI fun Z0 lo=>?_;refine qa ?_;intros;refine qj rfl rfl htx ?_;rintro _ ⟨s,hs,rfl⟩;refine qa ?_;intros;simp only [hm9]
 repeat (first|(refine qb (t:=false) rfl (fun h=>by cases h) (fun _=>?_);refine qa ?_;intros)|(refine qb (t:=true) rfl (fun _=>?_) (fun h=>by cases h);refine qa ?_;intros))
 refine Ke 2 3 1 rfl rfl ?_;refine qm (fun m E S nk=>∃rows:List (List ByteArray),rows.length+m=R/\(∀r∈rows,r.length=c/\∀s∈r,Gd 4 s)/\E=[(1,zQ vC),(2,.one (.ptr 0 0)),(4,.one (.ptr 1 0)),(6,.int c),(7,.one (.ptr 2 0)),(8,.int rows.length)]/\
  S=[(0,.cells ((Qh x).map .f)),(1,.cells MM),(2,.cells [.f (FD.int 3),.f (FD.int 0),.f (.c (.str ⟨#[]⟩)),.own 3 0 rows.length 1,.f (.c .nils),.f (FD.int 0),.f (FD.int 0),.f (FD.int 0),.f (.c .nils),.f (FD.int 0)]),(3,.data (rows.map kw))]/\nk=4)
  ⟨R,_,_,_,[],?wk,[],by simp,fun r hr=>(by cases hr),rfl,rfl,rfl⟩ ?_
 case wk=>
  exact⟨by repeat (first|exact trivial|refine⟨by first|rfl|exact congrArg (fun z=>some (DV.int z)) hC,rfl,?_⟩),by repeat (first|exact trivial|refine⟨by rfl,rfl,rfl,?_⟩),rfl,rfl⟩
 rintro m E S nk ⟨rows,hm,hrows,rfl,rfl,rfl⟩;refine qa ?_;intros;refine qb rfl (fun h1=>?_) (fun h1=>?_)
 ·have h1:=qG h1;rw [hR] at h1;refine qa ?_;intros;refine qm (fun m E S nk=>∃row:List ByteArray,row.length+m=c/\(∀s∈row,Gd 4 s)/\E=[(1,zQ vC),(2,.one (.ptr 0 0)),(4,.one (.ptr 1 0)),(6,.int c),(7,.one (.ptr 2 0)),(8,.int rows.length),(9,.one (.own 4 0 row.length 1)),(10,.int row.length)]/\
   S=[(4,.data (dZ row)),(0,.cells ((Qh x).map .f)),(1,.cells MM),(2,.cells [.f (FD.int 3),.f (FD.int 0),.f (.c (.str ⟨#[]⟩)),.own 3 0 rows.length 1,.f (.c .nils),.f (FD.int 0),.f (FD.int 0),.f (FD.int 0),.f (.c .nils),.f (FD.int 0)]),(3,.data (rows.map kw))]/\nk=5)
   ⟨c,_,_,_,[],?wk,[],by simp,fun r hr=>(by cases hr),rfl,rfl,rfl⟩ ?_
  case wk=>exact ql
  rintro m2 E S nk ⟨row,hm2,hrow,rfl,rfl,rfl⟩;refine qa ?_;intros;refine qb rfl (fun h2=>?_) (fun h2=>?_)
  ·have h2:=qG h2;have hro:rows.length<4:=by omega
   have hat:min (IntKind.i64.wrap (2*IntKind.i64.wrap ((rows.length:Int)+row.length))) (x.t.length:Int)=((min (2*(rows.length+row.length)) x.t.length:Nat):Int):=by
    rw [qg (n:=(rows.length:Int)+row.length) (by omega) (by omega),qg (by omega) (by omega)];omega
   have hle:min (2*(rows.length+row.length)) x.t.length<=x.t.length:=Nat.min_le_right _ _;refine qa ?_;intros;rw [hat];generalize min (2*(rows.length+row.length)) x.t.length=a at *;have hdl:(x.t.drop a).length=x.t.length-a:=List.length_drop ..;have hq:qT (Zf x.t) (a*1) ((x.t.drop a).length*1)=some (Zf (x.t.drop a)):=by
    rw [zw (by simp;omega)];congr 1;rw [Nat.mul_one,Nat.mul_one,<-List.map_drop,List.take_of_length_le (by simp)]
   refine Vd (l:=a) (n':=(x.t.drop a).length) (q:=Zf (x.t.drop a)) rfl rfl rfl oM oM oM hq ?_;refine qa ?_;intros;refine qj rfl rfl (Wj (l:=x.t.drop a) (n:=4) oM (fun v hv=>hx.t v (List.mem_of_mem_drop hv)) (by have:=hx.tl;omega)) ?_;rintro _ ⟨s1,hs1,rfl⟩;have hsl:(dZ row).length=row.length*1:=by simp
   refine qa ?_;intros;refine qy (q:=[.c (.str s1)]) rfl rfl rfl (qp _ hsl) ⟨rfl,rfl,_,rfl,rfl⟩ oM oM (by decide) rfl ?_;rw [show dZ row++[.c (.str s1)]=dZ (row++[s1]) by simp,show row.length+1=(row++[s1]).length by simp];refine qa ?_;intros;have hni:IntKind.i64.wrap ((row.length:Int)+1)=((row++[s1]).length:Nat):=by rw [qg (by omega) (by omega)];simp
   refine⟨m2-1,by omega,_,_,_,[(4,6)],?wk,row++[s1],by simp;omega,fun y hy=>?_,rfl,rfl,rfl⟩
   case wk=>
    exact⟨by repeat (first|exact trivial|refine⟨by first|rfl|exact congrArg (fun z=>some (DV.int z)) hni,rfl,?_⟩),by repeat (first|exact trivial|refine⟨by rfl,rfl,rfl,?_⟩),rfl,rfl⟩
   rcases List.mem_append.1 hy with hy|hy
   ·exact hrow y hy
   ·rw [List.mem_singleton.1 hy];exact hs1
  ·have h2:=qQ h2;have hlr:row.length=c:=by omega
   have hsl:(dZ row).length=row.length*1:=by simp
   refine qH 4 rfl qD qD ?_;have hl:(rows.map kw).length=rows.length*1:=by simp
   refine qa ?_;intros;refine qy (q:=[kw row]) rfl rfl rfl (qp _ hl) ⟨rfl,rfl,_,rfl,rfl⟩ oM oM (by decide) rfl ?_;rw [show rows.map kw++[kw row]=(rows++[row]).map kw by simp,show rows.length+1=(rows++[row]).length by simp];refine qa ?_;intros;have hni:IntKind.i64.wrap ((rows.length:Int)+1)=((rows++[row]).length:Nat):=by rw [qg (by omega) (by omega)];simp
   refine⟨m-1,by omega,_,_,_,[(3,6)],?wk,rows++[row],by simp;omega,fun y hy=>?_,rfl,rfl,rfl⟩
   case wk=>
    exact⟨by repeat (first|exact trivial|refine⟨by first|rfl|exact congrArg (fun z=>some (DV.int z)) hni,rfl,?_⟩),by repeat (first|exact trivial|refine⟨by rfl,rfl,rfl,?_⟩),rfl,rfl⟩
   rcases List.mem_append.1 hy with hy|hy
   ·exact hrows y hy
   ·rw [List.mem_singleton.1 hy];exact⟨hlr,hrow⟩
 ·have h1:=qQ h1;rw [hR] at h1;have hl:(rows.map kw).length=rows.length*1:=by simp
  refine qH 3 rfl qD qD ?_;refine qa ?_;intros;exact qc ⟨_,rfl,rfl,.tab rows,⟨oM,oM,c,oM,oM,hrows⟩,rfl⟩
theorem L4{x:RawB}(hx:x.ok):DK 35 [cQ x,zQ vC] rG:=by
 by_cases h2:x.kind % 9=2
 ·exact D8 hx h2
 ·by_cases h6:x.kind % 9=6
  ·exact D7 hx h6
  ·exact D9 hx ⟨h2,h6⟩
structure MOk (ms:List MB):Prop where
 good:∀m∈ms,m.good
 ok:∀i,i<ms.length->vT (ms.map MB.blk) i
abbrev FY(ms:List MB):DV:=.one (.f (.sl 10 ms.length (ms.flatMap MB.cells)))
theorem tV:∀ms:List MB,qe NilF (ms.flatMap MB.cells) ((ms.map MB.blk).flatMap yC)
 |[]=>trivial
 |m::ms=>by
  rw [List.flatMap_cons,List.map_cons,List.flatMap_cons];exact iQ m.nil (tV ms)
theorem mA(ms:List MB):NilF (.sl 10 ms.length (ms.flatMap MB.cells)) (.sl 10 (ms.map MB.blk).length ((ms.map MB.blk).flatMap yC)):=by
 rw [List.length_map];exact NilF.sl2 (tV ms)
theorem tW(ms:List MB):(ms.flatMap MB.cells).length=ms.length*10:=zO (f:=MB.cells) MB.len ms
theorem LS{f:FuncId}{d' d:FD}{x:DV}{R:DV->Prop}(h:NilF d' d)(k:DK f [.one (.f d),x] R):DK f [.one (.f d'),x] R:=fun H Z args hw hz hg ha=>by
 match args,ha with
 |[v,w],⟨⟨c,e,hc⟩,h2,_⟩=>
  subst e;exact k H Z [.one c,w] hw hz hg ⟨⟨c,rfl,h.ok hc⟩,h2,trivial⟩
theorem Co{ms:List MB}{i:Nat}{m:MB}(hl:ms.length<1000)(hm:m.good)(hb:ms[i]?=some m):DK 20 [FY ms,.int i] fun d=>∃v:Bool,d=.bool v/\(v=true->vT (ms.map MB.blk) i):=
 LS (mA ms) (Fo (l:=ms.map MB.blk) (by rw [List.length_map];exact hl) hm (by rw [List.getElem?_map,hb];rfl))
theorem CH{l r:List Blk}{i:Nat}(h:vT l i)(hi:i<l.length):vT (l++r) i:=fun b hb=>by
 have hb':l[i]?=some b:=by rwa [List.getElem?_append_left hi] at hb
 obtain⟨h1,h2⟩:=h b hb';refine⟨fun e=>?_,fun e k q hk hq h7=>?_⟩
 ·obtain⟨q,hp,hq,hk⟩:=h1 e;exact⟨q,hp,by rw [List.getElem?_append_left (by omega)];exact hq,hk⟩
 ·exact h2 e k q hk (by rwa [List.getElem?_append_left oM] at hq) h7
theorem MOk.push{ms:List MB}(h:MOk ms){m:MB}(hm:m.good)(ho:vT ((ms++[m]).map MB.blk) ms.length):MOk (ms++[m]):=by
 refine⟨fun x hx=>?_,fun i hi=>?_⟩
 ·rcases List.mem_append.1 hx with hx|hx
  ·exact h.good x hx
  ·rw [List.mem_singleton.1 hx];exact hm
 ·by_cases e:i<ms.length
  ·rw [List.map_append];exact CH (h.ok i e) (by rw [List.length_map];exact e)
  ·have:i=ms.length:=by rw [List.length_append] at hi;simp at hi;omega
   rw [this];exact ho
abbrev J0(l:List RawB):DV:=.one (.f (.sl 10 l.length (l.flatMap Qh)))
theorem NV{l:List RawB}{i:Nat}{x:RawB}(h:l[i]?=some x):qT (l.flatMap Qh) (i*10) 10=some (Qh x):=zC (f:=Qh) (e:=10) (fun _=>rfl) h
theorem LR{l:List RawB}(hl:∀x∈l,x.ok)(hll:l.length<9223372036854775808):DK 18 [J0 l,.int 6,zQ vC] fun d=>∃ms:List MB,MOk ms/\ms.length<=6/\d=FY ms:=by
 refine qI fun Z0 lo=>?_;refine qa ?_;intros;refine qm (fun m E S nk=>∃(i:Nat) (ms:List MB),i+m=min l.length 6/\ms.length<=i/\MOk ms/\E=[(0,J0 l),(1,.int 6),(2,zQ vC),(7,.one (.own 0 0 ms.length 10)),(8,.int i)]/\S=[(0,.data (ms.flatMap MB.cells))]/\nk=1)
  ⟨min l.length 6,_,_,_,[],?wk,0,[],by omega,by simp,⟨fun m hm=>(by cases hm),fun i hi=>(by cases hi)⟩,rfl,rfl,rfl⟩ ?_
 case wk=>exact ql
 rintro m E S nk ⟨i,ms,him,hmi,hok,rfl,rfl,rfl⟩;have hnf:=tW ms;refine qa ?_;intros;refine qb rfl (fun ht=>?_) (fun ht=>?_)
 ·rw [vh,xt] at ht;have h1:=qG ht.1;have h2:=qG ht.2;obtain⟨x,hx⟩:∃x,l[i]?=some x:=⟨_,zge oM⟩;have hsx:=NV hx;refine qa ?_;intros;refine qj rfl rfl (L4 (hl x (zmg hx))) ?_;rintro _ ⟨mb0,hg0,rfl⟩;obtain⟨mb,hmb⟩:∃m',m'=mb0:=⟨_,rfl⟩;have hg:mb.good:=hmb▸hg0;have hla:(ms++[mb]).length=ms.length+1:=by simp
  have hnf2:=tW (ms++[mb]);have hw:IntKind.i64.wrap (((ms++[mb]).length:Int)-1)=((ms.length:Nat):Int):=by rw [hla,qg (by omega) (by omega)];omega
  have hgt:(ms++[mb])[ms.length]?=some mb:=by simp
  have hrr:=Co (ms:=ms++[mb]) oM hg hgt;cases mb0
  all_goals
   refine qa ?_;intros;refine qy (m:=1) (q:=mb.cells) rfl rfl rfl (qp _ hnf) ⟨rfl,rfl,_,rfl,by rw [hmb];rfl⟩ (by omega) (by omega) (by decide) rfl ?_;rw [show ms.flatMap MB.cells++mb.cells=(ms++[mb]).flatMap MB.cells by simp,show ms.length+1=(ms++[mb]).length by simp];refine qa ?_;intros;rw [hw];refine XC (ds:=[FY (ms++[mb]),.int ms.length]) rfl ⟨⟨_,rfl,_,_,rfl,qp _ hnf2,rfl⟩,⟨_,rfl,rfl,rfl⟩,trivial⟩ hrr (by rintro _ ⟨v,rfl,_⟩;rfl) ?_;rintro _ ⟨v,rfl,hv⟩;refine qa ?_;intros;refine qb (t:=!v) rfl (fun hb=>?_) (fun hb=>?_)
   ·refine bW 2 (ms.length*10) rfl ?_;rw [show ((ms++[mb]).flatMap MB.cells).take (ms.length*10)=ms.flatMap MB.cells by rw [List.flatMap_append,<-hnf,List.take_left]];refine qa ?_;intros;rw [hw];refine XA (l:=0) (h:=ms.length) (o':=0) (n':=ms.length) rfl rfl rfl oM oM oM oM ?_;refine qa ?_;intros;refine⟨m-1,oM,_,_,_,[(0,2)],?wk,i+1,ms,oM,oM,hok,rfl,rfl,rfl⟩
    case wk=>exact ql
   ·have hb:v=true:=by simpa using hb
    refine qa ?_;intros;refine⟨m-1,oM,_,_,_,[(0,2)],?wk,i+1,ms++[mb],oM,oM,hok.push hg (hv hb),rfl,rfl,rfl⟩
    case wk=>exact ql
 ·refine qu (qf (k:=7) rfl (qw _)) (qf (k:=0) rfl (qw _)) ?_;refine qH 0 rfl qD qD ?_;refine qa ?_;intros;exact qc ⟨_,rfl,rfl,ms,hok,oM,rfl⟩
theorem T3{f:FuncId}{ds:List DV}{P:List MB->Prop}(h:DK f ds fun d=>∃ms,P ms/\d=FY ms):DK f ds fun d=>∃ms,P ms/\d=jf (ms.map MB.blk):=fun H Z args hw hz hg ha=>(h H Z args hw hz hg ha).mono fun v H' ⟨a1,a2,a3,d,hd,ms,hp,e⟩=>by
 subst e;obtain⟨c,e,hc⟩:=hd;exact⟨a1,a2,a3,jf (ms.map MB.blk),⟨c,e,(mA ms).ok hc⟩,ms,hp,rfl⟩
theorem nM{l:List RawB}(hl:∀x∈l,x.ok)(hll:l.length<9223372036854775808):DK 9 [J0 l] fun d=>∃ms:List MB,(MOk ms/\ms.length<=6)/\d=jf (ms.map MB.blk):=by
 refine T3 ?_;refine qI fun Z0 lo=>?_;refine qa ?_;intros;refine qj rfl rfl (LR hl hll) ?_;rintro _ ⟨ms,h1,h2,rfl⟩;refine qa ?_;intros;exact qc ⟨_,rfl,rfl,ms,⟨h1,h2⟩,rfl⟩
def zZ(l:List Blk):Int × Bool:=l.foldl (fun p b=>if b.kind=7 then (max p.1 b.page,p.2&&decide (b.page>p.1)) else p) (0,true)
theorem aP(l:List Blk)(b:Blk):zZ (l++[b])=if b.kind=7 then (max (zZ l).1 b.page,(zZ l).2&&decide (b.page>(zZ l).1)) else zZ l:=by
 unfold zZ;rw [List.foldl_append];rfl
abbrev tt:Blk->Bool:=fun _=>true
abbrev dB:Blk:=⟨0,0,⟨#[]⟩,[],[],0,0,0,0,[],0⟩
def KJ(l:List Blk)(i:Nat):Prop:=(l.getD i dB).kind=4/\(i=0\/(l.getD (i-1) dB).kind≠1/\(l.getD (i-1) dB).kind≠4)
theorem EH(l:List Blk)(h4:∀i,i<l.length->¬KJ l i):∀n,n<=l.length->(∀i b,i<n->l[i]?=some b->b.kind=7->1<=b.page)->
 ((zZ (l.take n)).2=true/\At tt l n (zZ (l.take n)).1)\/((zZ (l.take n)).2=false/\∃i:Nat,XF tt 0 0 0 l=((i:Int),170)):=by
 intro n;induction n with
 |zero=>intro _ _;exact .inl ⟨rfl,At.zero tt l⟩
 |succ n ih=>
  intro hn hp;obtain⟨b,hb⟩:∃b,l[n]?=some b:=⟨_,zge oM⟩;have ht:l.take (n+1)=l.take n++[b]:=by rw [List.take_add_one,hb];rfl
  have hg:l.getD n dB=b:=by rw [List.getD_eq_getElem?_getD,hb];rfl
  rw [ht,aP];have hno:¬(b.kind=4/\(n=0\/(l.getD (n-1) dB).kind≠1/\(l.getD (n-1) dB).kind≠4)):=fun h=>h4 n (by omega) ⟨by rw [hg];exact h.1,h.2⟩;rcases ih oM (fun i b' hi=>hp i b' oM) with⟨h1,h2⟩|⟨h1,h2⟩
  ·by_cases h7:b.kind=7
   ·rw [if_pos h7,h1];by_cases hpg:b.page>(zZ (l.take n)).1
    ·refine .inl ⟨by simp [hpg],?_⟩;have:=h2.step hb rfl hno (fun h=>by omega);rw [if_pos h7] at this
     rwa [show max (zZ (l.take n)).1 b.page=b.page by omega]
    ·refine .inr ⟨by simp [hpg],n,h2.bad hb (.inr (.inr ⟨h7,by omega⟩))⟩
   ·rw [if_neg h7];refine .inl ⟨h1,?_⟩;have:=h2.step hb rfl hno (fun h=>h7 h.1)
    rwa [if_neg h7] at this
  ·refine .inr ⟨?_,h2⟩;split
   ·rw [h1];rfl
   ·exact h1
theorem oG{l:List Blk}(hl:l.length<=100)(h4:∀i,i<l.length->¬KJ l i)(hp:∀i b,i<l.length->l[i]?=some b->b.kind=7->1<=b.page):kW tt l=(zZ l).2:=by
 have h:=EH l h4 l.length (Nat.le_refl _) hp;rw [List.take_length] at h;unfold kW jX;rw [if_neg (by omega)];rcases h with⟨h1,h2⟩|⟨h1,i,h2⟩
 ·rw [h1,h2.done];rfl
 ·rw [h1,h2];rfl
theorem L9(l:List Blk):∀n,n<=l.length->(∃page,At tt l n page)\/∃i:Nat,XF tt 0 0 0 l=((i:Int),170):=by
 intro n;induction n with
 |zero=>intro _;exact .inl ⟨0,At.zero tt l⟩
 |succ n ih=>
  intro hn;obtain⟨b,hb⟩:∃b,l[n]?=some b:=⟨_,zge oM⟩;rcases ih oM with⟨page,h⟩|h
  ·by_cases h4:b.kind=4/\(n=0\/(l.getD (n-1) dB).kind≠1/\(l.getD (n-1) dB).kind≠4)
   ·exact .inr ⟨n,h.bad hb (.inr (.inl h4))⟩
   ·by_cases h7:b.kind=7/\b.page<=page
    ·exact .inr ⟨n,h.bad hb (.inr (.inr h7))⟩
    ·exact .inl ⟨_,h.step hb rfl h4 h7⟩
  ·exact .inr h
theorem oH{l:List Blk}(hl:l.length<=100){i:Nat}(hi:i<l.length)(h:KJ l i):kW tt l=false:=by
 obtain⟨b,hb⟩:∃b,l[i]?=some b:=⟨_,zge hi⟩;have hg:l.getD i dB=b:=by rw [List.getD_eq_getElem?_getD,hb];rfl
 have he:∃i:Nat,XF tt 0 0 0 l=((i:Int),170):=by
  rcases L9 l i oM with⟨page,h2⟩|h2
  ·exact⟨i,h2.bad hb (.inr (.inl ⟨by rw [<-hg];exact h.1,h.2⟩))⟩
  ·exact h2
 obtain⟨k,he⟩:=he;unfold kW jX;rw [if_neg (by omega),he];rfl
theorem eY{l:List Blk}{i:Nat}(hi:i<l.length)(h:vT l i):¬KJ l i:=fun hn=>by
 obtain⟨b,hb⟩:∃b,l[i]?=some b:=⟨_,zge hi⟩;have hg:l.getD i dB=b:=by rw [List.getD_eq_getElem?_getD,hb];rfl
 obtain⟨q,h0,hq,hk⟩:=(h b hb).1 (by rw [<-hg];exact hn.1);have hgq:l.getD (i-1) dB=q:=by rw [List.getD_eq_getElem?_getD,hq];rfl
 rcases hn.2 with h|h
 ·omega
 ·rw [hgq] at h;rcases hk with hk|hk
  ·exact h.1 hk
  ·exact h.2 hk
def yx(a b:List Blk):Bool:=decide (0<b.length)&&decide ((b.getD 0 dB).kind=4)&&(decide (a.length=0)||(!decide ((a.getD (a.length-1) dB).kind=1)&&!decide ((a.getD (a.length-1) dB).kind=4)))
theorem X5{a b:List Blk}{i:Nat}(h:i<a.length):(a++b).getD i dB=a.getD i dB:=by
 rw [List.getD_eq_getElem?_getD,List.getD_eq_getElem?_getD,List.getElem?_append_left h]
theorem QO{a b:List Blk}{i:Nat}(h:a.length<=i):(a++b).getD i dB=b.getD (i-a.length) dB:=by
 rw [List.getD_eq_getElem?_getD,List.getD_eq_getElem?_getD,List.getElem?_append_right h]
theorem bK{b:List Blk}{j i:Nat}:(b.drop j).getD i dB=b.getD (j+i) dB:=by
 rw [List.getD_eq_getElem?_getD,List.getD_eq_getElem?_getD,List.getElem?_drop]
theorem bJ{ms:List MB}(h:MOk ms){b:Blk}(hb:b∈ms.map MB.blk)(h7:b.kind=7):1<=b.page:=by
 obtain⟨m,hm,rfl⟩:=List.mem_map.1 hb;have hg:=h.good m hm;cases m with
 |text note s=>cases note<;>cases h7
 |head lv s=>cases h7
 |tab rows=>cases h7
 |math t=>cases h7
 |map p=>cases h7
 |ink page=>have:=hg.1;show (1:Int)<=page;omega
theorem pG{a b:List MB}(ha:MOk a)(hb:MOk b)(hal:a.length<=6)(hbl:b.length<=6)(j:Nat):
 kW tt (a.map MB.blk++(b.map MB.blk).drop j)=((zZ (a.map MB.blk++(b.map MB.blk).drop j)).2&&!yx (a.map MB.blk) ((b.map MB.blk).drop j)):=by
 have h1:(a.map MB.blk).length=a.length:=List.length_map ..;have h2:((b.map MB.blk).drop j).length=b.length-j:=by rw [List.length_drop,List.length_map]
 have hlen:(a.map MB.blk++(b.map MB.blk).drop j).length=a.length+(b.length-j):=by rw [List.length_append,h1,h2]
 by_cases hn:yx (a.map MB.blk) ((b.map MB.blk).drop j)=true
 ·have hn':=hn;unfold yx at hn';simp only [xt,Bool.or_eq_true,Bool.not_eq_true',xF,decide_eq_false_iff_not,h1] at hn';obtain⟨⟨g1,g2⟩,g3⟩:=hn';rw [oH (i:=a.length) (by omega) (by omega) ⟨by rw [QO (by omega),h1,Nat.sub_self];exact g2,?_⟩,hn]
  ·simp
  ·rcases g3 with g|g
   ·exact .inl g
   ·by_cases h0:a.length=0
    ·exact .inl h0
    ·refine .inr ?_;rw [X5 (by omega)];exact g
 ·have hn0:yx (a.map MB.blk) ((b.map MB.blk).drop j)=false:=by simpa using hn
  rw [hn0,Bool.not_false,Bool.and_true];refine oG oM (fun i hi hna=>?_) fun i q hi hq h7=>?_
  ·rw [hlen] at hi;by_cases hia:i<a.length
   ·have:=eY oM (ha.ok i hia);refine this ⟨by rw [<-X5 (b:=(b.map MB.blk).drop j) (by omega)];exact hna.1,?_⟩;rcases hna.2 with h|h
    ·exact .inl h
    ·rw [X5 (by omega)] at h;exact .inr h
   ·by_cases hie:i=a.length
    ·subst hie;refine hn ?_;unfold yx;have k1:=hna.1;rw [QO (by omega),h1,Nat.sub_self] at k1;simp only [xt,Bool.or_eq_true,Bool.not_eq_true',xF,decide_eq_false_iff_not,h1];refine⟨⟨oM,k1⟩,?_⟩;rcases hna.2 with h|h
     ·exact .inl h
     ·by_cases h0:a.length=0
      ·exact .inl h0
      ·rw [X5 (by omega)] at h;exact .inr h
    ·have hjb:j+(i-a.length)<b.length:=by omega
     have:=eY (l:=b.map MB.blk) (by rw [List.length_map];exact hjb) (hb.ok _ hjb);refine this ⟨?_,?_⟩
     ·have k1:=hna.1;rw [QO (by omega),h1,bK] at k1;exact k1
     ·rcases hna.2 with h|h
      ·omega
      ·rw [QO (by omega),h1,bK,show j+(i-1-a.length)=j+(i-a.length)-1 by omega] at h;exact .inr h
  ·have hm:=zmg hq;rcases List.mem_append.1 hm with hm|hm
   ·exact bJ ha hm h7
   ·exact bJ hb (List.mem_of_mem_drop hm) h7
end Go.Ah
