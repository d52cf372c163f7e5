/- -/
import Derived.Test.YtandgamnamkkhaaGreatDoorAb25
set_option linter.unusedSimpArgs false
set_option maxHeartbeats 16000000
set_option linter.unusedVariables false
set_option maxRecDepth 8000
namespace Go.Ah
open Go.Ab Go.Proofs
theorem eS:∀v,v<256->tL v=true->vu v=true/\Zp v≠4:=by decide+kernel
theorem L7:∀v,v<256->Zp v≠0:=by decide+kernel
theorem Out.chr{n:Nat}{s:ByteArray}(h:Out n s){i:Nat}(hi:i<s.size):vu (bt s i)=true:=by
 rcases h.ch i hi with h|h
 ·exact (eS _ (vz s i) h).1
 ·rw [h];rfl
theorem Out.cls{n:Nat}{s:ByteArray}(h:Out n s){i:Nat}(hi:i<s.size)(h4:Zp (bt s i)=4):bt s i=32:=by
 rcases h.ch i hi with h|h
 ·exact absurd h4 (eS _ (vz s i) h).2
 ·exact h
theorem W8{n:Nat}{s:ByteArray}(h:Gd n s)(hn:n<=400):xo s=true:=by
 have hle:=h.le;have h1:Qf s=true:=dV fun j hj=>h.chr hj;have h2:((List.range s.size).all fun i=>!kn s i)=true:=List.all_eq_true.2 fun i hi=>by
  have hi:=List.mem_range.1 hi;have:kn s i=false:=by
   rw [Bool.eq_false_iff];intro hg;unfold kn FN at hg;simp only [xt,Bool.or_eq_true,xF] at hg;have h32:=h.cls hi hg.1;cases i with
   |zero=>exact h.first oM h32
   |succ j=>
    rcases hg.2 with g|g
    ·exact L7 _ (vz s j) g
    ·exact h.adj j hi ⟨h.cls oM g,h32⟩
  rw [this];rfl
 have h3:KO s s.size≠4:=by
  have hp:=h.pos;obtain⟨m,hm⟩:∃m,s.size=m+1:=⟨s.size-1,oM⟩;rw [hm];intro hl;have:=h.cls (i:=m) oM hl;have hla:=h.last;rw [hm,Nat.add_sub_cancel] at hla;exact hla this
 unfold xo;rw [h1,h2,decide_eq_true h.pos,decide_eq_true (show s.size<=400 by omega),decide_eq_false h3];rfl
theorem Di:((List.range 256).all fun n=>match vo tabS tabE 100 77 [.one (.int .u8 n)] HS with
 |some (.one (.bool c))=>c==decide (n % 128=32)
 |_=>false)=true:=by kernel_rfl
theorem UX:((List.range 256).all fun n=>match vo tabS tabE 100 155 [.one (.int .u8 n)] HS with
 |some (.one (.bool c))=>c==vu n
 |_=>false)=true:=by kernel_rfl
theorem c5{n:Nat}(h:n<256):DK 77 [.one (.f (.c (.int .u8 n)))] fun d=>d=.bool (decide (n % 128=32)):=by
 have h1:=List.all_eq_true.1 Di n (List.mem_range.2 h);split at h1
 ·rename_i c hc;have:c=decide (n % 128=32):=by simpa using h1
  subst this;exact QQ (vs:=[.one (.int .u8 n)]) ⟨rfl,trivial⟩ rfl rfl hc
 ·cases h1
theorem TY{n:Nat}(h:n<256):DK 155 [.one (.f (.c (.int .u8 n)))] fun d=>d=.bool (vu n):=by
 have h1:=List.all_eq_true.1 UX n (List.mem_range.2 h);split at h1
 ·rename_i c hc;have:c=vu n:=by simpa using h1
  subst this;exact QQ (vs:=[.one (.int .u8 n)]) ⟨rfl,trivial⟩ rfl rfl hc
 ·cases h1
theorem G8:∀v,v<256->tL v=true->v % 128≠32:=by decide+kernel
theorem Out.sp{n:Nat}{s:ByteArray}(h:Out n s){i:Nat}(hi:i<s.size):decide (bt s i % 128=32)=decide (bt s i=32):=by
 rcases h.ch i hi with h|h
 ·rw [decide_eq_false (G8 _ (vz s i) h),decide_eq_false (fun e=>by rw [e] at h;cases h)]
 ·rw [h]
theorem LP{n:Nat}{s:ByteArray}(h:Out n s)(hn:n<=1000):DK 111 [zQ s] fun r=>r=.tup [.int s.size,.int 0]:=by
 have hle:=h.le;refine qI fun Z0 lo=>?_;refine qa ?_;intros;refine qm (fun m E S nk=>∃i:Nat,i+m=s.size/\E=[(0,zQ s),(4,.int i)]/\S=[]/\nk=0)
  ⟨s.size,_,_,_,[],?wk,0,oM,rfl,rfl,rfl⟩ ?_
 case wk=>exact ql
 rintro m E S nk ⟨i,him,rfl,rfl,rfl⟩;refine qa ?_;intros;refine qb rfl (fun h1=>?_) (fun h1=>?_)
 ·have h1:=qG h1;have hc:=TY (vz s i);rw [h.chr (by omega)] at hc;refine qa ?_;intros;refine y7 rfl rfl (show i<s.size by omega) ?_;refine qa ?_;intros;refine qj rfl rfl hc ?_;rintro _ rfl;refine qa ?_;intros;refine qb (t:=false) rfl (fun h=>by cases h) (fun _=>?_);refine qa ?_;intros;refine⟨m-1,oM,_,_,_,[],?wk,i+1,oM,rfl,rfl,rfl⟩
  case wk=>exact ql
 ·refine qa ?_;intros;exact qc ⟨_,rfl,rfl,rfl⟩
theorem AT{n:Nat}{s:ByteArray}(h:Out n s)(hn:n<=1000):DK 76 [zQ s] fun r=>r=.bool true:=by
 refine qI fun Z0 lo=>?_;refine qa ?_;intros;refine qj rfl rfl (LP h hn) ?_;rintro _ rfl;refine qa ?_;intros;exact qc ⟨_,rfl,rfl,rfl⟩
theorem Yx{n:Nat}{s:ByteArray}(h:Gd n s)(hn:n<=400):DK 42 [zQ s] fun r=>r=.bool true:=by
 have hle:=h.le;have hp:=h.pos;have hit:=AT h.toOut oM;have hs0:=c5 (vz s 0);rw [h.sp (by omega),decide_eq_false (h.first hp)] at hs0;have hs1:=c5 (vz s (s.size-1));rw [h.sp (by omega),decide_eq_false h.last] at hs1;have e10:((s.size:Int)==0)=false:=by rw [beq_eq_false_iff_ne];omega
 have e15:decide ((s.size:Int)>400)=false:=decide_eq_false oM;have hw:IntKind.i64.wrap ((s.size:Int)-1)=((s.size-1:Nat):Int):=by rw [qg (by omega) (by omega)];omega
 refine qI fun Z0 lo=>?_;refine qa ?_;intros;refine qj rfl rfl hit ?_;rintro _ rfl;refine qa ?_;intros;simp only [e10];refine qa ?_;intros;simp only [e15];refine qa ?_;intros;refine y7 (j:=0) rfl rfl hp ?_;refine qa ?_;intros;refine qj rfl rfl hs0 ?_;rintro _ rfl;refine qa ?_;intros;rw [hw];refine y7 rfl rfl (show s.size-1<s.size by omega) ?_;refine qa ?_;intros;refine qj rfl rfl hs1 ?_;rintro _ rfl;refine qa ?_;intros;refine qb (t:=false) rfl (fun h=>by cases h) (fun _=>?_);refine qa ?_;intros;refine qm (fun m E S nk=>∃i:Nat,i+m=s.size/\1<=i/\E=[(0,zQ s),(3,.int i)]/\S=[]/\nk=0)
  ⟨s.size-1,_,_,_,[],?wk,1,oM,oM,rfl,rfl,rfl⟩ ?_
 case wk=>exact ql
 rintro m E S nk ⟨i,him,h1i,rfl,rfl,rfl⟩;refine qa ?_;intros;refine qb rfl (fun h1=>?_) (fun h1=>?_)
 ·have h1:=qG h1;have hsi:=c5 (vz s i);rw [h.sp (by omega)] at hsi;have hsj:=c5 (vz s (i-1));rw [h.sp (by omega)] at hsj;have hwi:IntKind.i64.wrap ((i:Int)-1)=((i-1:Nat):Int):=by rw [qg (by omega) (by omega)];omega
  have hadj:=h.adj (i-1) oM;rw [show i-1+1=i by omega] at hadj;refine qa ?_;intros;refine y7 rfl rfl (show i<s.size by omega) ?_;refine qa ?_;intros;refine qj rfl rfl hsi ?_;rintro _ rfl;by_cases hb:bt s i=32
  ·rw [decide_eq_true hb];rw [decide_eq_false (fun e=>hadj ⟨e,hb⟩)] at hsj;refine qa ?_;intros;rw [hwi];refine y7 rfl rfl (show i-1<s.size by omega) ?_;refine qa ?_;intros;refine qj rfl rfl hsj ?_;rintro _ rfl;refine qa ?_;intros;refine qb (t:=false) rfl (fun h=>by cases h) (fun _=>?_);refine qa ?_;intros;refine⟨m-1,oM,_,_,_,[],?wk,i+1,oM,oM,rfl,rfl,rfl⟩
   case wk=>exact ql
  ·rw [decide_eq_false hb];refine qa ?_;intros;refine qb (t:=false) rfl (fun h=>by cases h) (fun _=>?_);refine qa ?_;intros;refine⟨m-1,oM,_,_,_,[],?wk,i+1,oM,oM,rfl,rfl,rfl⟩
   case wk=>exact ql
 ·refine qa ?_;intros;exact qc ⟨_,rfl,rfl,rfl⟩
theorem G2(a:Int){b:Int}(hb:0<b): -b<a.tmod b/\a.tmod b<b:=by
 refine⟨?_,Int.tmod_lt_of_pos a hb⟩;rcases Int.le_total 0 a with h|h
 ·have:=Int.tmod_nonneg b h;omega
 ·have h1:(-a).tmod b<b:=Int.tmod_lt_of_pos _ hb;rw [Int.neg_tmod] at h1;omega
def xg(p q:Pt):Int:=max (max (p.1-q.1) (-(p.1-q.1))) (max (p.2-q.2) (-(p.2-q.2)))
def qB(B:Int)(p:Pt):Prop:= -B<=p.1/\p.1<=B/\ -B<=p.2/\p.2<=B
theorem aI{a b:Int}(hb:0<b):(if a.tmod b<0 then a.tdiv b-1 else a.tdiv b)=a/b:=by
 have h1:=Int.tmod_add_mul_tdiv a b;have h2:=G2 a hb;have h3:=Int.emod_add_mul_ediv a b;have h4:=Int.emod_nonneg a (by omega:b≠0);have h5:=Int.emod_lt_of_pos a hb;split
 ·rename_i h;have key:b*(a.tdiv b-1-a/b)=a % b-a.tmod b-b:=by
   rw [Int.mul_sub,Int.mul_sub];omega
  have:a.tdiv b-1-a/b=0:=by
   by_cases hc:a.tdiv b-1-a/b=0
   ·exact hc
   ·exfalso;rcases Int.lt_or_gt_of_ne hc with hlt|hgt
    ·have:b*(a.tdiv b-1-a/b)<=b*(-1):=Int.mul_le_mul_of_nonneg_left oM oM;omega
    ·have:b*1<=b*(a.tdiv b-1-a/b):=Int.mul_le_mul_of_nonneg_left oM oM;omega
  omega
 ·rename_i h;have key:b*(a.tdiv b-a/b)=a % b-a.tmod b:=by
   rw [Int.mul_sub];omega
  have:a.tdiv b-a/b=0:=by
   by_cases hc:a.tdiv b-a/b=0
   ·exact hc
   ·exfalso;rcases Int.lt_or_gt_of_ne hc with hlt|hgt
    ·have:b*(a.tdiv b-a/b)<=b*(-1):=Int.mul_le_mul_of_nonneg_left oM oM;omega
    ·have:b*1<=b*(a.tdiv b-a/b):=Int.mul_le_mul_of_nonneg_left oM oM;omega
  omega
theorem lH{a b:Int}(h1: -1000000000000000000<a)(h2:a<1000000000000000000): -1000000000000000000<a.tdiv b/\a.tdiv b<1000000000000000000:=by
 have h:(a.tdiv b).natAbs=a.natAbs/b.natAbs:=Int.natAbs_tdiv a b;have h3:a.natAbs/b.natAbs<=a.natAbs:=Nat.div_le_self _ _;rw [<-h] at h3;omega
def XI(a b k n:Int):Int:=(2*(a*n+k*(b-a))+n)/(2*n)
theorem vb{a b A B:Int}(h1: -A<=a)(h2:a<=A)(h3: -B<=b)(h4:b<=B): -(A*B)<=a*b/\a*b<=A*B:=by
 have hA:0<=A:=by omega
 have hB:0<=B:=by omega
 have:(a*b).natAbs<=(A*B).natAbs:=by
  rw [Int.natAbs_mul,Int.natAbs_mul];exact Nat.mul_le_mul oM oM
 have hp:0<=A*B:=Int.mul_nonneg hA hB;omega
def Qi(p q:Pt)(n:Int)(k:Nat):Pt:=(XI p.1 q.1 k n,XI p.2 q.2 k n)
def xz(p q:Pt):List Pt:=if xg p q=0 then [p] else (List.range ((xg p q).toNat+1)).map (Qi p q (xg p q))
theorem uN{B:Int}{p q:Pt}(hp:qB B p)(hq:qB B q):0<=xg p q/\xg p q<=2*B:=by
 obtain⟨p1,p2,p3,p4⟩:=hp;obtain⟨q1,q2,q3,q4⟩:=hq;simp only [xg];omega
theorem tQ{n:Int}(h: -4000000000000000000<n)(h':n<4000000000000000000):DK 193 [.int n] fun d=>d=.int (max n (-n)):=by
 refine qI fun Z0 lo=>?_;refine qa ?_;intros;refine qb rfl (fun ht=>?_) (fun ht=>?_)
 ·have ht:=qG ht;refine qa ?_;intros;exact qc ⟨_,rfl,rfl,by rw [qg (by omega) (by omega)];congr 4;omega⟩
 ·have ht:=qQ ht;refine qa ?_;intros;exact qc ⟨_,rfl,rfl,by congr 4;omega⟩
theorem l9{n:Int}(h: -4000000000000000000<n)(h':n<4000000000000000000):DK 245 [.int n] fun d=>d=.int (max n (-n)):=by
 refine qI fun Z0 lo=>?_;refine qa ?_;intros;exact qc ⟨_,rfl,rfl,congrArg (fun z=>DV.int z) (show max n (IntKind.i64.wrap (0-n))=max n (-n) by rw [qg (by omega) (by omega)];omega)⟩
theorem KK{f:FuncId}(hf:f=152\/f=199){p q:qd}(hp:qB 1000000000000000000 p)(hq:qB 1000000000000000000 q):DK f [xI p,xI q] fun d=>d=.int (xg p q):=by
 obtain⟨p1,p2,p3,p4⟩:=hp;obtain⟨q1,q2,q3,q4⟩:=hq;have w1:IntKind.i64.wrap (p.1-q.1)=p.1-q.1:=qg oM oM;have w2:IntKind.i64.wrap (p.2-q.2)=p.2-q.2:=qg oM oM;rcases hf with rfl|rfl
 ·refine qI fun Z0 lo=>?_;refine qa ?_;intros;rw [w1];refine qj rfl rfl (tQ oM oM) ?_;rintro _ rfl;refine qa ?_;intros;rw [w2];refine qj rfl rfl (tQ oM oM) ?_;rintro _ rfl;refine qa ?_;intros;exact qc ⟨_,rfl,rfl,rfl⟩
 ·refine qI fun Z0 lo=>?_;refine qa ?_;intros;rw [w1];refine qj rfl rfl (l9 oM oM) ?_;rintro _ rfl;refine qa ?_;intros;rw [w2];refine qj rfl rfl (l9 oM oM) ?_;rintro _ rfl;refine qa ?_;intros;exact qc ⟨_,rfl,rfl,rfl⟩
theorem nN{p q:qd}(hp:qB 1000000000000000000 p)(hq:qB 1000000000000000000 q):DK 152 [xI p,xI q] fun d=>d=.int (xg p q):=KK (.inl rfl) hp hq
theorem Ct{p q:qd}(hp:qB 1000000000000000000 p)(hq:qB 1000000000000000000 q):DK 199 [xI p,xI q] fun d=>d=.int (xg p q):=KK (.inr rfl) hp hq
theorem MK(p q:qd):JQ [.int .i64 p.1,.int .i64 p.2] [.int .i64 q.1,.int .i64 q.2] [(0,false),(1,false)]=some (decide (p=q)):=by
 obtain⟨p1,p2⟩:=p;obtain⟨q1,q2⟩:=q;simp only [JQ,n4,List.getElem?_cons_zero,List.getElem?_cons_succ,if_true];by_cases h1:p1=q1
 ·by_cases h2:p2=q2
  ·subst h1;subst h2;simp
  ·have e2:(p2==q2)=false:=by simpa using h2
   subst h1;simp [h2,e2]
 ·have e1:(p1==q1)=false:=by simpa using h1
  simp [h1,e1]
theorem ke{neg:Bool}{E:qo}{x y:Opd}{p q:qd}(hx:ro E x=some (.agg [.f (.c (.int .i64 p.1)),.f (.c (.int .i64 p.2))]))(hy:ro E y=some (.agg [.f (.c (.int .i64 q.1)),.f (.c (.int .i64 q.2))])):yd E (.eqs neg [(0,false),(1,false)] x y)=some (.bool (match neg with|true=>!decide (p=q)|false=>decide (p=q))):=by
 have ex:gE E x=some (.agg [.int .i64 p.1,.int .i64 p.2]):=by simp [gE,hx,K9,m8,AC]
 have ey:gE E y=some (.agg [.int .i64 q.1,.int .i64 q.2]):=by simp [gE,hy,K9,m8,AC]
 simp only [yd,GI,PureOp.opds,qE,pH,ex,ey,Option.isSome_some,PureOp.mp,rx,qn,Opd.ev,MK];cases neg<;>rfl
theorem pV{l:List qd}{p:qd}(hn:l.length<1000000000000):DK 163 [qx l,xI p] fun d=>d=.bool (decide (p∈l)):=by
 refine zy Db rfl jm fun Z0 lo=>?_;refine qa ?_;intros;refine qm (fun m E S nk=>∃k:Nat,k+m=l.length/\E=[(0,qx l),(3,.one (.ptr 0 0)),(5,.int k)]/\S=[(0,.cells [.f (.c (.int .i64 p.1)),.f (.c (.int .i64 p.2))])]/\nk=1/\p∉l.take k) ⟨l.length,_,_,_,[],?wk,0,by omega,rfl,rfl,rfl,by simp⟩ ?_
 case wk=>exact ql
 rintro m E S nk ⟨k,hk,rfl,rfl,rfl,hno⟩;refine qa ?_;intros;refine qb rfl (fun ht=>?_) (fun ht=>?_)
 ·simp at ht;obtain⟨q,hq⟩:∃q,l[k]?=some q:=⟨_,zge oM⟩;have e1:=qY hq;refine qa ?_;intros;refine xT (ke (p:=q) (q:=p) rfl rfl) ?_;refine qa ?_;intros;refine qb rfl (fun ht2=>?_) (fun ht2=>?_)
  ·simp at ht2;refine qa ?_;intros;refine qc ⟨_,rfl,rfl,?_⟩;rw [decide_eq_true (by rw [<-ht2];exact zmg hq)]
  ·simp at ht2;refine qa ?_;intros;refine⟨m-1,oM,_,_,_,[],?wk,k+1,oM,rfl,rfl,rfl,?_⟩
   case wk=>exact ql
   rw [List.take_add_one,hq];simp;exact⟨hno,fun h=>ht2 h.symm⟩
 ·simp at ht;refine qa ?_;intros;refine qc ⟨_,rfl,rfl,?_⟩;obtain rfl:k=l.length:=by omega
  rw [List.take_length] at hno;rw [decide_eq_false hno]
def zS(a b:List qd):List Int:=a.flatMap fun p=>b.map (xg p)
def xC(a b:List qd):Int:=match a,b with
 |[],_=> -1
 |_,[]=> -1
 |p::_,q::_=>(zS a b).foldl min (xg p q)
def ki(l:List qd):Prop:=∀p∈l,qB 1000000000000000000 p
theorem Jv:∀(l:List Int) (x:Int),l.foldl min x<=x/\∀y∈l,l.foldl min x<=y
 |[],x=>⟨by simp,by simp⟩
 |y::l,x=>by
  have h:=Jv l (min x y);simp only [List.foldl_cons];refine⟨oM,fun z hz=>?_⟩;rcases List.mem_cons.1 hz with rfl|hz
  ·omega
  ·exact h.2 z hz
theorem YP:∀(l:List Int) (x:Int),l.foldl min x=x\/l.foldl min x∈l
 |[],x=>.inl rfl
 |y::l,x=>by
  simp only [List.foldl_cons];rcases YP l (min x y) with h|h
  ·rw [h];by_cases hxy:x<=y
   ·exact .inl oM
   ·exact .inr (by simp;omega)
  ·exact .inr (by simp [h])
theorem Yy{a b:List qd}(ha:ki a)(hb:ki b)(hn:a.length<=256)(hm:b.length<=256):DK 106 [qx a,qx b] fun d=>d=.int (xC a b):=by
 refine qI fun Z0 lo=>?_;refine qa ?_;intros;refine qb rfl (fun ht=>?_) (fun ht=>?_)
 ·simp at ht;refine qa ?_;intros;refine qc ⟨_,rfl,rfl,?_⟩;cases a with
  |nil=>rfl
  |cons p a=>cases b with
   |nil=>rfl
   |cons q b=>simp at ht
 ·simp only [Bool.if_true_left,Bool.or_eq_false_iff,decide_eq_false_iff_not,<-List.length_eq_zero_iff] at ht;simp at ht;obtain⟨ht1,ht2⟩:=ht;obtain⟨p0,a',rfl⟩:∃q l,a=q::l:=List.exists_cons_of_ne_nil ht1;obtain⟨q0,b',rfl⟩:∃q l,b=q::l:=List.exists_cons_of_ne_nil ht2;have e1:qT ((p0::a').flatMap qh) (0*2) 2=some (qh p0):=qY rfl;have e2:qT ((q0::b').flatMap qh) (0*2) 2=some (qh q0):=qY rfl;have hp0:=ha p0 (by simp);have hq0:=hb q0 (by simp);have hl1:0<(p0::a').length:=by simp
  have hl2:0<(q0::b').length:=by simp
  have hdist:xC (p0::a') (q0::b')=(zS (p0::a') (q0::b')).foldl min (xg p0 q0):=rfl;rw [hdist];generalize hga:p0::a'=a at *;generalize hgb:q0::b'=b at *;refine qu (qf (k:=0) rfl (qf (k:=1) rfl (qw _))) (qw _) ?_;have hle:(a.length:Int)*b.length<=256*256:=Int.mul_le_mul oM oM oM oM;have h0:(0:Int)<=(a.length:Int)*b.length:=Int.mul_nonneg oM oM
  iterate 10 (first|(refine ZG rfl rfl ?_)|(refine ZH rfl rfl ?_)|(refine Yr rfl ?_)|(refine Ys rfl rfl ?_)|(refine Yt rfl rfl ?_)|(refine Wg rfl QF QF ?_)|(refine Vf rfl rfl ?_)|(refine Ve rfl rfl ?_)|(refine xT rfl ?_)|(refine jF rfl ?_)|(refine jt rfl ?_)|(refine cX rfl QF ?_)|(refine cY rfl QF ?_)|(refine Vh rfl rfl oM oM ?_)|(refine Vi rfl rfl oM oM ?_)|(refine Vg rfl rfl oM oM ?_)|(refine Vk rfl rfl oM (by decide) aM ?_)|(refine xU rfl rfl oM (by decide) aM ?_)|(refine jF (ja rfl rfl aM rfl) ?_)|(refine jt (ja rfl rfl aM rfl) ?_)|(refine jF (y8 rfl rfl aM) ?_)|(refine jt (y8 rfl rfl aM) ?_)|(refine jF (y9 rfl rfl aM aM) ?_)|(refine jt (y9 rfl rfl aM aM) ?_)|(refine Qz rfl ?_)|(refine cZ rfl rfl rfl ?_)|(refine vq rfl rfl rfl rfl rfl (Nat.le_of_ble_eq_true rfl) rfl ?_)|(refine zE ?_)|(refine yB ?_)|(refine yq wq (fun base=>?_))|(refine ZJ ?_)|(refine XD ?_)|(refine ya ?_))
  rw [show decide (IntKind.i64.wrap ((a.length:Int)*b.length)>65536)=false by rw [qg (by omega) (by omega)];simp;omega];refine qa ?_;intros;refine qb rfl (fun ht=>by cases ht) (fun _=>?_);refine qa ?_;intros;refine qj rfl rfl (nN hp0 hq0) ?_;rintro _ rfl;refine qa ?_;intros;refine qm (fun m E S nk=>∃k:Nat,k+m=a.length/\E=[(1,qx b),(5,.int ((zS (a.take k) b).foldl min (xg p0 q0))),(42,qx a),(43,.int a.length),(44,.int k)]/\S=[]/\nk=0) ⟨a.length,_,_,_,[],?wk,0,oM,rfl,rfl,rfl⟩ ?_
  case wk=>exact ql
  rintro m E S nk ⟨k,hk,rfl,rfl,rfl⟩;refine qa ?_;intros;refine qb rfl (fun ht=>?_) (fun ht=>?_)
  ·simp at ht;obtain⟨p,hp⟩:∃q,a[k]?=some q:=⟨_,zge oM⟩;have e3:=qY hp;have hps:=ha p (zmg hp);refine qa ?_;intros;refine qm (fun m E S nk=>∃j:Nat,j+m=b.length/\E=[(1,qx b),(5,.int (((b.take j).map (xg p)).foldl min ((zS (a.take k) b).foldl min (xg p0 q0)))),(7,.one (.ptr 0 0)),(42,qx a),(43,.int a.length),(44,.int k),(48,qx b),(49,.int b.length),(50,.int j)]/\S=[(0,.cells [.f (.c (.int .i64 p.1)),.f (.c (.int .i64 p.2))])]/\nk=1) ⟨b.length,_,_,_,[],?wk2,0,oM,rfl,rfl,rfl⟩ ?_
   case wk2=>exact ql
   rintro m2 E S nk ⟨j,hj,rfl,rfl,rfl⟩;refine qa ?_;intros;refine qb rfl (fun ht2=>?_) (fun ht2=>?_)
   ·simp at ht2;obtain⟨q,hq⟩:∃q,b[j]?=some q:=⟨_,zge oM⟩;have e4:=qY hq;have hqs:=hb q (zmg hq);refine qa ?_;intros;refine qj rfl rfl (nN (p:=p) (q:=q) hps hqs) ?_;rintro _ rfl;refine qa ?_;intros;have hD:min (((b.take j).map (xg p)).foldl min ((zS (a.take k) b).foldl min (xg p0 q0))) (xg p q)=((b.take (j+1)).map (xg p)).foldl min ((zS (a.take k) b).foldl min (xg p0 q0)):=by
     rw [List.take_add_one,hq];simp
    rw [hD];refine⟨m2-1,oM,_,_,_,[],?wk3,j+1,oM,rfl,rfl,rfl⟩
    case wk3=>exact ql
   ·simp at ht2;obtain rfl:j=b.length:=by omega
    refine qa ?_;intros;have hD:((b.take b.length).map (xg p)).foldl min ((zS (a.take k) b).foldl min (xg p0 q0))=(zS (a.take (k+1)) b).foldl min (xg p0 q0):=by
     rw [List.take_add_one,hp,List.take_length];simp [zS]
    rw [hD];refine⟨m-1,oM,_,_,_,[],?wk3,k+1,oM,rfl,rfl,rfl⟩
    case wk3=>exact ql
  ·simp at ht;obtain rfl:k=a.length:=by omega
   refine qa ?_;intros;refine qc ⟨_,rfl,rfl,?_⟩;rw [List.take_length]
def qO(a b:qd):Bool:=if decide (a.2<b.2)=true then true else if (a.2==b.2)=true then decide (a.1<b.1) else false
theorem EA{a b:qd}:DK 200 [xI a,xI b] fun d=>d=.bool (qO a b):=by
 refine qI fun Z0 lo=>?_;by_cases h1:a.2<b.2
 ·have g1:decide (a.2<b.2)=true:=by simpa using h1
  refine xn ?_;intros;exact qc ⟨_,rfl,rfl,by simp [qO,h1]⟩
 ·have g1:decide (a.2<b.2)=false:=by simpa using h1
  by_cases h2:a.2=b.2
  ·have g2:(a.2==b.2)=true:=by simpa using h2
   refine xn ?_;intros;exact qc ⟨_,rfl,rfl,by simp [qO,h1,h2]⟩
  ·have g2:(a.2==b.2)=false:=by simpa using h2
   refine xn ?_;intros;exact qc ⟨_,rfl,rfl,by simp [qO,h1,h2]⟩
def jy(x:qd)(out:List qd):Nat->Nat
 |0=>0
 |n+1=>match out[n]? with
  |some z=>if qO x z=true then jy x out n else n+1
  |none=>n+1
def vi(x:qd)(out:List qd):List qd:=out.take (jy x out out.length)++[x]++out.drop (jy x out out.length)
def wT(out:List qd)(x:qd):List qd:=if x∈out then out else vi x out
def qt(l:List qd):List qd:=l.foldl wT []
theorem lW(x:qd)(out:List qd):∀n,jy x out n<=n
 |0=>Nat.le_refl 0
 |n+1=>by
  simp only [jy];have:=lW x out n;split
  ·split<;>omega
  ·omega
theorem Wx:∀(l out:List qd),(l.foldl wT out).length<=out.length+l.length
 |[],out=>by simp
 |x::l,out=>by
  have:=Wx l (wT out x);have h2:(wT out x).length<=out.length+1:=by
   unfold wT;split
   ·omega
   ·simp [vi];omega
  simp only [List.foldl_cons,List.length_cons];omega
theorem gR{l:List qd}(hn:l.length<1000000):DK 162 [qx l] fun d=>d=qx (qt l):=by
 refine zy Dc rfl jm fun Z0 lo=>?_;refine qa ?_;intros;refine qm (fun m E S nk=>∃k:Nat,k+m=l.length/\∃out:List qd,out=qt (l.take k)/\E=[(0,qx l),(3,.one (.own 0 0 out.length 2)),(4,.int k)]/\S=[(0,.data (out.flatMap qh))]/\nk=1) ⟨l.length,_,_,_,[],?wk,0,oM,[],rfl,rfl,rfl,rfl⟩ ?_
 case wk=>exact ql
 rintro m E S nk ⟨k,hk,out,hout,rfl,rfl,rfl⟩;have hol:out.length<=1000000:=by
  have:=Wx (l.take k) [];rw [hout,qt];simp at this;omega
 have hflat:=qL out;refine qa ?_;intros;refine qb rfl (fun ht=>?_) (fun ht=>?_)
 ·simp at ht;obtain⟨x,hx⟩:∃x,l[k]?=some x:=⟨_,zge oM⟩;have e1:=qY hx;have hstep:qt (l.take (k+1))=wT out x:=by
   rw [List.take_add_one,hx,hout,qt,qt];simp
  refine qa ?_;intros;refine XC (ds:=[.one _,xI x]) rfl ⟨⟨_,rfl,_,_,rfl,qp _ hflat,rfl⟩,⟨_,rfl,⟨rfl,rfl⟩,⟨rfl,rfl⟩,trivial⟩,trivial⟩ (pV (l:=out) (p:=x) oM) (by rintro _ rfl;rfl) ?_;rintro _ rfl;refine qa ?_;intros;refine qb rfl (fun ht2=>?_) (fun ht2=>?_)
  ·simp at ht2;refine qa ?_;intros;refine⟨m-1,oM,_,_,_,[],?wk1,k+1,oM,out,?ho,rfl,rfl,rfl⟩
   case wk1=>exact ql
   case ho=>rw [hstep,wT,if_pos ht2]
  ·simp at ht2;refine qa ?_;intros;refine qm (fun m E S nk=>∃j:Nat,j=m/\j<=out.length/\jy x out j=jy x out out.length/\E=[(0,qx l),(3,.one (.own 0 0 out.length 2)),(4,.int k),(5,.int j)]/\S=[(0,.data (out.flatMap qh))]/\nk=1) ⟨out.length,_,_,_,[],?wk2,out.length,rfl,Nat.le_refl _,rfl,rfl,rfl,rfl⟩ ?_
   case wk2=>exact ql
   rintro m2 E S nk ⟨j,hj,hjl,hpos,rfl,rfl,rfl⟩;have fin:j=jy x out out.length->∀Q:Exit->qo->Bx->Nat->Prop,Q .normal [(0,qx l),(3,.one (.own 5 0 (vi x out).length 2)),(4,.int k)] [(5,.data ((vi x out).flatMap qh))] 6->DPS (Par.base Tryz.prog 7 (H00 1) Z0 lo) RI.n (.seq (.ops uZ 0 true) (.seq (.ops uY 10 true) (.ops mV 0 true))) Q [(0,qx l),(3,.one (.own 0 0 out.length 2)),(4,.int k),(5,.int j)] [(0,.data (out.flatMap qh))] 1:=by
    intro hjp Q hQ;have hsplit:out.flatMap qh=(out.take j).flatMap qh++(out.drop j).flatMap qh:=by rw [<-List.flatMap_append,List.take_append_drop]
    have hlt:((out.take j).flatMap qh).length=j*2:=by rw [qL,List.length_take];omega
    have hld:((out.drop j).flatMap qh).length=(out.length-j)*2:=by rw [qL,List.length_drop]
    have htake:qT (out.flatMap qh) 0 (j*2)=some ((out.take j).flatMap qh):=by
     rw [zw (by omega),hsplit,List.drop_zero,List.take_append_of_le_length (by omega),List.take_of_length_le (by omega)]
    have hdrop:qT (out.flatMap qh) (j*2) ((out.length-j)*2)=some ((out.drop j).flatMap qh):=by
     rw [zw (by omega),hsplit,<-hlt,List.drop_left,List.take_of_length_le (by omega)]
    have hL:j+1+(out.length-j)=(vi x out).length:=by simp [vi,<-hjp];omega
    have hD:((out.take j).flatMap qh++[.c (.int .i64 x.1),.c (.int .i64 x.2)])++(out.drop j).flatMap qh=(vi x out).flatMap qh:=by
     rw [vi,<-hjp,List.flatMap_append,List.flatMap_append];rfl
    refine qa ?_;intros;refine XA (o':=j*2) (n':=out.length-j) rfl rfl rfl hjl (Nat.le_refl _) oM rfl ?_;refine qy (l':=[]) (q:=(out.drop j).flatMap qh) (m:=out.length-j) rfl rfl rfl rfl ⟨rfl,rfl,_,rfl,hdrop⟩ oM oM (by decide) rfl ?_;rw [Nat.zero_add (out.length-j),List.nil_append];refine qa ?_;intros;refine XA (o':=0) (n':=j) rfl rfl rfl (Nat.zero_le _) hjl oM oM ?_;refine qa ?_;intros;refine qy (l':=(out.take j).flatMap qh) (q:=[.c (.int .i64 x.1),.c (.int .i64 x.2)]) rfl rfl rfl htake ⟨rfl,rfl,_,rfl,rfl⟩ oM oM (by decide) rfl ?_;refine qa ?_;intros;refine qy (q:=(out.drop j).flatMap qh) (m:=out.length-j) rfl rfl rfl (qp _ (by rw [List.length_append,hlt];simp;omega)) ⟨rfl,rfl,_,rfl,qp _ hld⟩ (by omega) (by omega) (by decide) rfl ?_;rw [hL,hD];refine xT rfl ?_;refine zW (qf (k:=0) rfl (qf (k:=3) rfl (qf (k:=4) rfl (qw _)))) (qf (k:=5) rfl (qw _)) ?_;exact zE hQ
   by_cases hj0:j=0
   ·have g0:decide ((j:Int)>0)=false:=by simp;omega
    refine xn ?_;intros;refine qb rfl (fun ht=>by cases ht) (fun _=>?_);refine ya ?_;refine qu (qf (k:=0) rfl (qf (k:=3) rfl (qf (k:=4) rfl (qf (k:=5) rfl (qw _))))) (qf (k:=0) rfl (qw _)) ?_;refine fin (by rw [<-hpos,hj0];rfl) _ ?_;refine qa ?_;intros;refine⟨m-1,oM,_,_,_,[(0,5)],?wa,k+1,oM,vi x out,?ha,rfl,rfl,rfl⟩
    case wa=>exact ql
    case ha=>rw [hstep,wT,if_neg ht2]
   ·obtain⟨i,rfl⟩:∃i,j=i+1:=⟨j-1,oM⟩;have g0:decide (((i+1:Nat):Int)>0)=true:=by simp
    obtain⟨z,hz⟩:∃z,out[i]?=some z:=⟨_,zge oM⟩;have ez:=qY hz;have hp1:jy x out (i+1)=if qO x z=true then jy x out i else i+1:=by simp only [jy,hz]
    refine xn ?_;intros;rw [show IntKind.i64.wrap (((i+1:Nat):Int)-1)=(i:Nat) by rw [qg (by omega) (by omega)];omega];refine xn ?_;intros;refine qj rfl rfl (EA (a:=x) (b:=z)) ?_;rintro _ rfl;cases hb:qO x z with
    |true=>
     refine xn ?_;intros;refine qb rfl (fun _=>?_) (fun ht=>by cases ht);refine qa ?_;intros;rw [show IntKind.i64.wrap (((i+1:Nat):Int)-1)=(i:Nat) by rw [qg (by omega) (by omega)];omega];refine⟨i,oM,_,_,_,[],?wk3,i,rfl,oM,?hp,rfl,rfl,rfl⟩
     case wk3=>exact ql
     case hp=>rw [<-hpos,hp1,if_pos hb]
    |false=>
     refine xn ?_;intros;refine qb rfl (fun ht=>by cases ht) (fun _=>?_);refine ya ?_;refine qu (qf (k:=0) rfl (qf (k:=3) rfl (qf (k:=4) rfl (qf (k:=5) rfl (qw _))))) (qf (k:=0) rfl (qw _)) ?_;refine fin (by rw [<-hpos,hp1,if_neg (by rw [hb];decide)]) _ ?_;refine qa ?_;intros;refine⟨m-1,oM,_,_,_,[(0,5)],?wb,k+1,oM,vi x out,?hb2,rfl,rfl,rfl⟩
     case wb=>exact ql
     case hb2=>rw [hstep,wT,if_neg ht2]
 ·simp at ht;refine qu (qf (k:=3) rfl (qw _)) (qf (k:=0) rfl (qw _)) ?_;refine qH 0 rfl qD qD ?_;refine qa ?_;intros;refine qc ⟨_,rfl,rfl,?_⟩;rw [List.take_of_length_le (by omega)] at hout;subst hout;rfl
end Go.Ah
