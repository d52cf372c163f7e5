/- -/
import Derived.Test.YtdlelodnhjacgaaGreatDoorAb17
set_option linter.unusedSimpArgs false
set_option linter.unusedVariables false
set_option maxRecDepth 8000
set_option maxHeartbeats 8000000
namespace Go.Ai
open Go.Ab Go.Proofs
theorem El(a:Int){b:Int}(hb:0<b): -b<a.tmod b/\a.tmod b<b:=by
 refine⟨?_,Q6 a hb⟩;rcases Int.le_total 0 a with h|h
 ·have:=YP b h;omega
 ·have h1:(-a).tmod b<b:=Q6 _ hb;rw [Int.neg_tmod] at h1;omega
def zE(p q:Pt):Int:=max (max (p.1-q.1) (-(p.1-q.1))) (max (p.2-q.2) (-(p.2-q.2)))
def xf(B:Int)(p:Pt):Prop:= -B<=p.1/\p.1<=B/\ -B<=p.2/\p.2<=B
theorem MM{a b:Int}(hb:0<b):(if a.tmod b<0 then a.tdiv b-1 else a.tdiv b)=a/b:=by
 have h1:=Int.tmod_add_mul_tdiv a b;have h2:=El a hb;have h3:=Int.emod_add_mul_ediv a b;have h4:=Int.emod_nonneg a (by omega:b≠0);have h5:=Int.emod_lt_of_pos a hb;split
 ·rename_i h;have key:b*(a.tdiv b-1-a/b)=a % b-a.tmod b-b:=by
   rw [sV,sV];omega
  have:a.tdiv b-1-a/b=0:=by
   by_cases hc:a.tdiv b-1-a/b=0
   ·exact hc
   ·exfalso;rcases Int.lt_or_gt_of_ne hc with hlt|hgt
    ·have:b*(a.tdiv b-1-a/b)<=b*(-1):=Cd oM oM;omega
    ·have:b*1<=b*(a.tdiv b-1-a/b):=Cd oM oM;omega
  omega
 ·rename_i h;have key:b*(a.tdiv b-a/b)=a % b-a.tmod b:=by
   rw [sV];omega
  have:a.tdiv b-a/b=0:=by
   by_cases hc:a.tdiv b-a/b=0
   ·exact hc
   ·exfalso;rcases Int.lt_or_gt_of_ne hc with hlt|hgt
    ·have:b*(a.tdiv b-a/b)<=b*(-1):=Cd oM oM;omega
    ·have:b*1<=b*(a.tdiv b-a/b):=Cd oM oM;omega
  omega
theorem Em{a b:Int}(h1: -1000000000000000000<a)(h2:a<1000000000000000000): -1000000000000000000<a.tdiv b/\a.tdiv b<1000000000000000000:=by
 have h:(a.tdiv b).natAbs=a.natAbs/b.natAbs:=Int.natAbs_tdiv a b;have h3:a.natAbs/b.natAbs<=a.natAbs:=L6 _ _;rw [<-h] at h3;omega
def Km(a b k n:Int):Int:=(2*(a*n+k*(b-a))+n)/(2*n)
theorem Z9{a b A B:Int}(h1: -A<=a)(h2:a<=A)(h3: -B<=b)(h4:b<=B): -(A*B)<=a*b/\a*b<=A*B:=by
 have hA:0<=A:=oM;have hB:0<=B:=oM;have:(a*b).natAbs<=(A*B).natAbs:=by
  rw [Int.natAbs_mul,Int.natAbs_mul];exact DS oM oM
 have hp:0<=A*B:=Int.mul_nonneg hA hB;omega
def Y5(p q:Pt)(n:Int)(k:Nat):Pt:=(Km p.1 q.1 k n,Km p.2 q.2 k n)
def yC(p q:Pt):List Pt:=if zE p q=0 then [p] else (List.range ((zE p q).toNat+1)).map (Y5 p q (zE p q))
theorem Nr{B:Int}{p q:Pt}(hp:xf B p)(hq:xf B q):0<=zE p q/\zE p q<=2*B:=by
 obtain⟨p1,p2,p3,p4⟩:=hp;obtain⟨q1,q2,q3,q4⟩:=hq;simp only [zE];omega
theorem EM{n:Int}(h: -4000000000000000000<n)(h':n<4000000000000000000):DK 191 [.int n] fun d=>d=.int (max n (-n)):=by
 refine yQ ?_;intros;exact qb ⟨_,O,O,congrArg (fun z=>DV.int z) (show max n (IntKind.i64.wrap (0-n))=max n (-n) by rw [qm (by omega) (by omega)];omega)⟩
theorem NX{p q:qj}(hp:xf 1000000000000000000 p)(hq:xf 1000000000000000000 q):DK 181 [wd p,wd q] fun d=>d=.int (zE p q):=by
 obtain⟨p1,p2,p3,p4⟩:=hp;obtain⟨q1,q2,q3,q4⟩:=hq;have w1:IntKind.i64.wrap (p.1-q.1)=p.1-q.1:=qm oM oM;have w2:IntKind.i64.wrap (p.2-q.2)=p.2-q.2:=qm oM oM;refine yQ ?_;intros;rw [w1];refine x6 O O (EM oM oM) ?_;intros;rw [w2];refine qf O O (EM oM oM) ?_;rintro _ rfl;exact QK
theorem Sm{p q:qj}(hp:xf 1000000000000000000 p)(hq:xf 1000000000000000000 q):DK 181 [wd p,wd q] fun d=>d=.int (zE p q):=NX hp hq
theorem Iq(p q:qj):Zs [.int .i64 p.1,.int .i64 p.2] [.int .i64 q.1,.int .i64 q.2] [(0,false),(1,false)]=some (decide (p=q)):=by
 obtain⟨p1,p2⟩:=p;obtain⟨q1,q2⟩:=q;simp only [Zs,pV,sR,eJ,if_true];by_cases h1:p1=q1
 ·by_cases h2:p2=q2
  ·subst h1;subst h2;simp
  ·have e2:(p2==q2)=false:=by simpa using h2
   subst h1;simp [h2,e2]
 ·have e1:(p1==q1)=false:=by simpa using h1
  simp [h1,e1]
theorem Oz{neg:Bool}{E:qk}{x y:Opd}{p q:qj}(hx:ro E x=some (.agg [.f (.c (.int .i64 p.1)),.f (.c (.int .i64 p.2))]))(hy:ro E y=some (.agg [.f (.c (.int .i64 q.1)),.f (.c (.int .i64 q.2))])):zj E (.eqs neg [(0,false),(1,false)] x y)=some (.bool (match neg with|true=>!decide (p=q)|false=>decide (p=q))):=by
 have ex:Yp E x=some (.agg [.int .i64 p.1,.int .i64 p.2]):=by simp [Yp,hx,Je,bO,iD]
 have ey:Yp E y=some (.agg [.int .i64 q.1,.int .i64 q.2]):=by simp [Yp,hy,Je,bO,iD]
 simp only [zj,F7,PureOp.opds,xa,lQ,ex,ey,Option.isSome_some,PureOp.mp,rx,qp,Opd.ev,Iq];cases neg<;>rfl
theorem IW{l:List qj}{p:qj}(hn:l.length<1000000000000):DK 161 [xt l,wd p] fun d=>d=.bool (decide (p∈l)):=by
 refine je I0 O ko fun Z0 lo=>?_;refine qa ?_;intros;refine qu (fun m E S nk=>∃k:Nat,k+m=l.length/\E=[(0,xt l),(3,.one (.ptr 0 0)),(5,.int k)]/\S=[(0,.cells [.f (.c (.int .i64 p.1)),.f (.c (.int .i64 p.2))])]/\nk=1/\p∉l.take k) ⟨l.length,_,_,_,[],?wk,0,by omega,rfl,rfl,rfl,by simp⟩ ?_
 case wk=>exact qs
 rintro m E S nk ⟨k,hk,rfl,rfl,rfl,hno⟩;refine qa ?_;intros;refine qd O (fun ht=>?_) (fun ht=>?_)
 ·simp at ht;obtain⟨q,hq⟩:∃q,l[k]?=some q:=⟨_,zge oM⟩;have e1:=jQ hq;refine qa ?_;intros;refine zi (Oz (p:=q) (q:=p) O O) ?_;refine qa ?_;intros;refine qd O (fun ht2=>?_) (fun ht2=>?_)
  ·simp at ht2;refine qa ?_;intros;refine qb ⟨_,O,O,?_⟩;rw [decide_eq_true (by rw [<-ht2];exact zmg hq)]
  ·simp at ht2;refine qa ?_;intros;refine⟨m-1,oM,_,_,_,[],?wk,k+1,oM,O,O,O,?_⟩
   case wk=>exact qs
   rw [Q5,hq];simp;exact⟨hno,fun h=>ht2 h.symm⟩
 ·simp at ht;refine qa ?_;intros;refine qb ⟨_,O,O,?_⟩;obtain rfl:k=l.length:=by omega
  rw [vE] at hno;rw [decide_eq_false hno]
def wp(a b:List qj):List Int:=a.flatMap fun p=>b.map (zE p)
def yd(a b:List qj):Int:=match a,b with
 |[],_=> -1
 |_,[]=> -1
 |p::_,q::_=>(wp a b).foldl min (zE p q)
def Zl(l:List qj):Prop:=∀p∈l,xf 1000000000000000000 p
theorem Vs:∀(l:List Int) (x:Int),l.foldl min x<=x/\∀y∈l,l.foldl min x<=y
 |[],x=>⟨by simp,by simp⟩
 |y::l,x=>by
  have h:=Vs l (min x y);simp only [YN];refine⟨oM,fun z hz=>?_⟩;rcases zd.1 hz with rfl|hz
  ·omega
  ·exact h.2 z hz
theorem KH:∀(l:List Int) (x:Int),l.foldl min x=x\/l.foldl min x∈l
 |[],x=>.inl rfl
 |y::l,x=>by
  simp only [YN];rcases KH l (min x y) with h|h
  ·rw [h];by_cases hxy:x<=y
   ·exact .inl oM
   ·exact .inr (by simp;omega)
  ·exact .inr (by simp [h])
def before(a b:qj):Bool:=if decide (a.2<b.2)=true then true else if (a.2==b.2)=true then decide (a.1<b.1) else false
theorem Ar{a b:qj}:DK 164 [wd a,wd b] fun d=>d=.bool (before a b):=by
 refine vL fun Z0 lo=>?_;by_cases h1:a.2<b.2
 ·have g1:decide (a.2<b.2)=true:=by simpa using h1
  refine zh ?_;intros;exact qb ⟨_,O,O,by simp [before,h1]⟩
 ·have g1:decide (a.2<b.2)=false:=by simpa using h1
  by_cases h2:a.2=b.2
  ·have g2:(a.2==b.2)=true:=by simpa using h2
   refine zh ?_;intros;exact qb ⟨_,O,O,by simp [before,h1,h2]⟩
  ·have g2:(a.2==b.2)=false:=by simpa using h2
   refine zh ?_;intros;exact qb ⟨_,O,O,by simp [before,h1,h2]⟩
def wG(x:qj)(out:List qj):Nat->Nat
 |0=>0
 |n+1=>match out[n]? with
  |some z=>if before x z=true then wG x out n else n+1
  |none=>n+1
def QQ(x:qj)(out:List qj):List qj:=out.take (wG x out out.length)++[x]++out.drop (wG x out out.length)
def vC(out:List qj)(x:qj):List qj:=if x∈out then out else QQ x out
def xy(l:List qj):List qj:=l.foldl vC []
theorem EH(x:qj)(out:List qj):∀n,wG x out n<=n
 |0=>qz 0
 |n+1=>by
  simp only [wG];have:=EH x out n;split
  ·split<;>omega
  ·omega
theorem Js:∀(l out:List qj),(l.foldl vC out).length<=out.length+l.length
 |[],out=>by simp
 |x::l,out=>by
  have:=Js l (vC out x);have h2:(vC out x).length<=out.length+1:=by
   unfold vC;split
   ·omega
   ·simp [QQ];omega
  simp only [YN,xA];omega
theorem dQ{l:List qj}(hn:l.length<1000000):DK 137 [xt l] fun d=>d=xt (xy l):=by
 refine je rP O ko fun Z0 lo=>?_;refine qa ?_;intros;refine qu (fun m E S nk=>∃k:Nat,k+m=l.length/\∃out:List qj,out=xy (l.take k)/\E=[(0,xt l),(3,.one (.own 0 0 out.length 2)),(4,.int k)]/\S=[(0,.data (out.flatMap qB))]/\nk=1) ⟨l.length,_,_,_,[],?wk,0,oM,[],O,O,O,O⟩ ?_
 case wk=>exact qs
 rintro m E S nk ⟨k,hk,out,hout,rfl,rfl,rfl⟩;have hol:out.length<=1000000:=by
  have:=Js (l.take k) [];rw [hout,xy];simp at this;omega
 have hflat:=zu out;refine qa ?_;intros;refine qd O (fun ht=>?_) (fun ht=>?_)
 ·simp at ht;obtain⟨x,hx⟩:∃x,l[k]?=some x:=⟨_,zge oM⟩;have e1:=jQ hx;have hstep:xy (l.take (k+1))=vC out x:=by
   rw [Q5,hx,hout,xy,xy];simp
  refine qa ?_;intros;refine Ys (ds:=[.one _,wd x]) O ⟨⟨_,O,_,_,O,qD _ hflat,O⟩,⟨_,O,⟨O,O⟩,⟨O,O⟩,trivial⟩,trivial⟩ (IW (l:=out) (p:=x) oM) (by rintro _ rfl;rfl) ?_;rintro _ rfl;refine qa ?_;intros;refine qd O (fun ht2=>?_) (fun ht2=>?_)
  ·simp at ht2;refine qa ?_;intros;refine⟨m-1,oM,_,_,_,[],?wk1,k+1,oM,out,?ho,O,O,O⟩
   case wk1=>exact qs
   case ho=>rw [hstep,vC,if_pos ht2]
  ·simp at ht2;refine qa ?_;intros;refine qu (fun m E S nk=>∃j:Nat,j=m/\j<=out.length/\wG x out j=wG x out out.length/\E=[(0,xt l),(3,.one (.own 0 0 out.length 2)),(4,.int k),(5,.int j)]/\S=[(0,.data (out.flatMap qB))]/\nk=1) ⟨out.length,_,_,_,[],?wk2,out.length,O,qz _,O,O,O,O⟩ ?_
   case wk2=>exact qs
   rintro m2 E S nk ⟨j,hj,hjl,hpos,rfl,rfl,rfl⟩;have fin:j=wG x out out.length->∀Q:Exit->qk->Bx->Nat->Prop,Q .normal [(0,xt l),(3,.one (.own 5 0 (QQ x out).length 2)),(4,.int k)] [(5,.data ((QQ x out).flatMap qB))] 6->DPS (Par.base Tryz.prog GN (H00 1) Z0 lo) Vy.n (.seq (.ops Jd 0 true) (.seq (.ops Jc 10 true) (.ops Yo 0 true))) Q [(0,xt l),(3,.one (.own 0 0 out.length 2)),(4,.int k),(5,.int j)] [(0,.data (out.flatMap qB))] 1:=by
    intro hjp Q hQ;have hsplit:out.flatMap qB=(out.take j).flatMap qB++(out.drop j).flatMap qB:=by rw [<-X0,ZV]
    have hlt:((out.take j).flatMap qB).length=j*2:=by rw [zu,xS];omega
    have hld:((out.drop j).flatMap qB).length=(out.length-j)*2:=by rw [zu,zS]
    have htake:xd (out.flatMap qB) 0 (j*2)=some ((out.take j).flatMap qB):=by
     rw [yj (by omega),hsplit,Kz,Kt (by omega),Q9 (by omega)]
    have hdrop:xd (out.flatMap qB) (j*2) ((out.length-j)*2)=some ((out.drop j).flatMap qB):=by
     rw [yj (by omega),hsplit,<-hlt,List.drop_left,Q9 (by omega)]
    have hL:j+1+(out.length-j)=(QQ x out).length:=by simp [QQ,<-hjp];omega
    have hD:((out.take j).flatMap qB++[.c (.int .i64 x.1),.c (.int .i64 x.2)])++(out.drop j).flatMap qB=(QQ x out).flatMap qB:=by
     rw [QQ,<-hjp,X0,X0];rfl
    refine qa ?_;intros;refine iI (o':=j*2) (n':=out.length-j) O O O hjl (qz _) oM O ?_;refine qZ (l':=[]) (q:=(out.drop j).flatMap qB) (m:=out.length-j) O O O O ⟨O,O,_,O,hdrop⟩ oM oM qr O ?_;rw [ym (out.length-j),Kv];refine qa ?_;intros;refine iI (o':=0) (n':=j) O O O (Xa _) hjl oM oM ?_;refine qa ?_;intros;refine qZ (l':=(out.take j).flatMap qB) (q:=[.c (.int .i64 x.1),.c (.int .i64 x.2)]) O O O htake ⟨O,O,_,O,O⟩ oM oM qr O ?_;refine qa ?_;intros;refine qZ (q:=(out.drop j).flatMap qB) (m:=out.length-j) O O O (qD _ (by rw [qE,hlt];simp;omega)) ⟨O,O,_,O,qD _ hld⟩ (by omega) (by omega) (by decide) O ?_;rw [hL,hD];refine zi O ?_;refine FH (qg (k:=0) O (qg (k:=3) O (qg (k:=4) O (qv _)))) (qg (k:=5) O (qv _)) ?_;exact jd hQ
   by_cases hj0:j=0
   ·have g0:decide ((j:Int)>0)=false:=by simp;omega
    refine zh ?_;intros;refine qd O (fun ht=>by cases ht) (fun _=>?_);refine yW ?_;refine qx (qg (k:=0) O (qg (k:=3) O (qg (k:=4) O (qg (k:=5) O (qv _))))) (qg (k:=0) O (qv _)) ?_;refine fin (by rw [<-hpos,hj0];rfl) _ ?_;refine qa ?_;intros;refine⟨m-1,oM,_,_,_,[(0,5)],?wa,k+1,oM,QQ x out,?ha,O,O,O⟩
    case wa=>exact qs
    case ha=>rw [hstep,vC,if_neg ht2]
   ·obtain⟨i,rfl⟩:∃i,j=i+1:=⟨j-1,oM⟩;have g0:decide (((i+1:Nat):Int)>0)=true:=sM;obtain⟨z,hz⟩:∃z,out[i]?=some z:=⟨_,zge oM⟩;have ez:=jQ hz;have hp1:wG x out (i+1)=if before x z=true then wG x out i else i+1:=by simp only [wG,hz]
    refine zh ?_;intros;rw [show IntKind.i64.wrap (((i+1:Nat):Int)-1)=(i:Nat) by rw [qm (by omega) (by omega)];omega];refine zh ?_;intros;refine qf O O (Ar (a:=x) (b:=z)) ?_;rintro _ rfl;cases hb:before x z with
    |true=>
     refine zh ?_;intros;refine qd O (fun _=>?_) (fun ht=>by cases ht);refine qa ?_;intros;rw [show IntKind.i64.wrap (((i+1:Nat):Int)-1)=(i:Nat) by rw [qm (by omega) (by omega)];omega];refine⟨i,oM,_,_,_,[],?wk3,i,O,oM,?hp,O,O,O⟩
     case wk3=>exact qs
     case hp=>rw [<-hpos,hp1,if_pos hb]
    |false=>
     refine zh ?_;intros;refine qd O (fun ht=>by cases ht) (fun _=>?_);refine yW ?_;refine qx (qg (k:=0) O (qg (k:=3) O (qg (k:=4) O (qg (k:=5) O (qv _))))) (qg (k:=0) O (qv _)) ?_;refine fin (by rw [<-hpos,hp1,if_neg (by rw [hb];decide)]) _ ?_;refine qa ?_;intros;refine⟨m-1,oM,_,_,_,[(0,5)],?wb,k+1,oM,QQ x out,?hb2,O,O,O⟩
     case wb=>exact qs
     case hb2=>rw [hstep,vC,if_neg ht2]
 ·simp at ht;refine qx (qg (k:=3) O (qv _)) (qg (k:=0) O (qv _)) ?_;refine qF 0 O qo qo ?_;refine qa ?_;intros;refine qb ⟨_,O,O,?_⟩;rw [Q9 (by omega)] at hout;subst hout;rfl
noncomputable abbrev parK (Z0:Nat->Prop) (lo anc:Nat) (β0:qt) (H1:Hp):Par:=⟨Tryz.prog,GN,H00 1,Z0,lo,anc,β0,H1,none⟩
theorem QZ{a b:qj}:before a b=true↔a.2<b.2\/(a.2=b.2/\a.1<b.1):=by
 unfold before;by_cases h1:a.2<b.2
 ·simp [h1]
 ·by_cases h2:a.2=b.2
  ·simp [h1,h2]
  ·simp [h1,h2]
abbrev zo(l:List qj):Prop:=l.Pairwise fun a b=>before a b=true
theorem VW{a b c:qj}(h1:before a b=true)(h2:before b c=true):before a c=true:=by
 rw [QZ] at *;omega
theorem vW{a:qj}:¬before a a=true:=by rw [QZ];omega
theorem CH{a b:qj}(h:¬before a b=true)(hne:a≠b):before b a=true:=by
 rw [QZ] at *;have:¬(a.1=b.1/\a.2=b.2):=fun h=>hne (Prod.ext h.1 h.2);omega
theorem zo.ext:∀{l m:List qj},zo l->zo m->(∀p,p∈l↔p∈m)->l=m
 |[],[],_,_,_=>rfl
 |[],b::m,_,_,h=>by have:=(h b).2 sM;simp at this
 |a::l,[],_,_,h=>by have:=(h a).1 sM;simp at this
 |a::l,b::m,hl,hm,h=>by
  rw [zo,List.pairwise_cons] at hl hm;have hab:a=b:=by
   rcases zd.1 ((h a).1 sM) with e|e
   ·exact e
   ·rcases zd.1 ((h b).2 sM) with e'|e'
    ·exact e'.symm
    ·exact absurd (VW (hl.1 b e') (hm.1 a e)) vW
  subst hab;congr 1;refine zo.ext hl.2 hm.2 fun p=>?_;constructor
  ·intro hp;rcases zd.1 ((h p).1 (by simp [hp])) with e|e
   ·subst e;exact absurd (hl.1 p hp) vW
   ·exact e
  ·intro hp;rcases zd.1 ((h p).2 (by simp [hp])) with e|e
   ·subst e;exact absurd (hm.1 p hp) vW
   ·exact e
theorem oF(x:qj)(out:List qj):∀n,n<=out.length->(∀j z,wG x out n<=j->j<n->out[j]?=some z->before x z=true)/\(∀z,0<wG x out n->out[wG x out n-1]?=some z->¬before x z=true)
 |0,_=>⟨fun j z h1 h2=>by omega,fun z h=>by simp [wG] at h⟩
 |n+1,hn=>by
  obtain⟨z,hz⟩:∃z,out[n]?=some z:=⟨_,zge oM⟩;have ih:=oF x out n oM;have e:wG x out (n+1)=if before x z=true then wG x out n else n+1:=by simp only [wG,hz]
  rw [e];by_cases hb:before x z=true
  ·rw [if_pos hb];refine⟨fun j y h1 h2 hy=>?_,ih.2⟩;by_cases hj:j=n
   ·subst hj;rw [hz] at hy;obtain rfl:=zsi hy;exact hb
   ·exact ih.1 j y h1 oM hy
  ·rw [if_neg hb];refine⟨fun j y h1 h2=>oM,fun y _ hy=>?_⟩;rw [bB,hz] at hy;obtain rfl:=zsi hy;exact hb
theorem Fy{x:qj}{out:List qj}(ho:zo out)(hx:x∉out):zo (QQ x out):=by
 obtain⟨h1,h2⟩:=oF x out out.length (qz _);have hp:=EH x out out.length;generalize hP:wG x out out.length=P at h1 h2 hp;have hsplit:out=out.take P++out.drop P:=(ZV P out).symm;have hlow:∀z∈out.take P,before z x=true:=fun z hz=>by
  obtain⟨j,hj⟩:=eH hz;rw [Kw] at hj;split at hj
  ·rename_i hjP;have hP1:P-1<out.length:=oM;have hnb:=h2 out[P-1] oM (zge hP1);have hb:=CH hnb (fun e=>hx (by rw [e];exact sP hP1));by_cases hj1:j=P-1
   ·subst hj1;rw [zge hP1] at hj;obtain rfl:=zsi hj;exact hb
   ·have hjl:j<out.length:=oM;rw [zge hjl] at hj;obtain rfl:=zsi hj;exact VW (List.pairwise_iff_getElem.1 ho j (P-1) hjl hP1 oM) hb
  ·cases hj
 have hhigh:∀z∈out.drop P,before x z=true:=fun z hz=>by
  obtain⟨j,hj⟩:=eH hz;rw [nP] at hj;exact h1 (P+j) z oM (zgs hj).1 hj
 rw [hsplit,zo,L0] at ho;rw [QQ,hP,zo,j5,L0];refine⟨ho.1,?_,fun a ha b hb=>?_⟩
 ·simp only [List.singleton_append,List.pairwise_cons];exact⟨hhigh,ho.2.1⟩
 ·simp only [List.singleton_append,zd] at hb;rcases hb with rfl|hb
  ·exact hlow a ha
  ·exact ho.2.2 a ha b hb
theorem TU{x p:qj}{out:List qj}:p∈QQ x out↔p=x\/p∈out:=by
 simp only [QQ,xu,xM];constructor
 ·rintro ((h|h)|h)
  ·exact .inr (nQ h)
  ·exact .inl h
  ·exact .inr (Cg h)
 ·rintro (h|h)
  ·exact .inl (.inr h)
  ·rw [<-ZV (wG x out out.length) out,xu] at h;exact h.elim (fun h=>.inl (.inl h)) .inr
theorem Io{x:qj}{out:List qj}(ho:zo out):zo (vC out x):=by
 unfold vC;split
 ·exact ho
 ·exact Fy ho aM
theorem Bv{x p:qj}{out:List qj}:p∈vC out x↔p=x\/p∈out:=by
 unfold vC;split
 ·rename_i h;exact⟨.inr,fun h'=>h'.elim (fun e=>e▸h) fun h=>h⟩
 ·exact TU
theorem WC:∀(l out:List qj),zo out->zo (l.foldl vC out)/\∀p,p∈l.foldl vC out↔p∈out\/p∈l
 |[],out,h=>⟨h,by simp⟩
 |x::l,out,h=>by
  obtain⟨h1,h2⟩:=WC l (vC out x) (Io h);refine⟨h1,fun p=>?_⟩;rw [YN,h2,Bv,zd];constructor
  ·rintro ((h|h)|h)
   ·exact .inr (.inl h)
   ·exact .inl h
   ·exact .inr (.inr h)
  ·rintro (h|h|h)
   ·exact .inl (.inr h)
   ·exact .inl (.inl h)
   ·exact .inr h
theorem wE(l:List qj):zo (xy l):=(WC l [] List.Pairwise.nil).1
theorem y4{l:List qj}{p:qj}:p∈xy l↔p∈l:=by rw [xy,(WC l [] List.Pairwise.nil).2];simp
theorem DX.sub{p:Par}{f:FuncId}{ds:List DV}{S S0:Bx}{nk:Nat}{R:DV->Bx->Nat->Prop}(h:DX p f ds S0 nk R)(hs:wV S0 S):DX p f ds S nk R:=fun Z β H args hS ha=>h Z β H args (hS.keepS hs) ha
abbrev DKO(f:FuncId)(ds:List DV)(R:DV->Bx->Nat->Prop):Prop:=Ws Tryz.prog GN (H00 1) f ds R
def qai(w:Int):Int:=min (max w 0) 200
def iF(x:Int):FD:=.c (.int .i64 x)
theorem Rz{l:List Int}{i:Nat}{x:Int}(h:l[i]?=some x):xd (l.map iF) (i*1) 1=some [iF x]:=by
 have hi:i<l.length:=(zgs h).1;rw [yj (by simp;omega)];rw [X2,kr (by simpa using hi)];have:l[i]=x:=(zgs h).2;simp [this]
end Go.Ai
namespace Go.Ab
theorem PB{p:Par}{n:Nat}{Q:Exit->qk->Bx->Nat->Prop}{E:qk}{S:Bx}{nk:Nat}{s:SC}(k m:Nat){l:List FD}(hk:lk S k=some (.data l))(h:DPS p n s Q E (put k (.data (l.take m)) S) nk):DPS p n s Q E S nk:=.mk fun Z β H F hS hE=>by
 refine h.run Z β H F ?_ hE;refine⟨hS.wf,hS.lo,hS.z,hS.zlo,hS.zz,hS.glob,hS.nk,hS.bd,fun κ x hκ=>?_,fun κ κ' x x' b N N' hj hj'=>?_,hS.blo,hS.anch,hS.ancn⟩
 ·rw [aA hk rfl] at hκ;split at hκ
  ·rename_i e;split at hκ
   ·rename_i e2;obtain rfl:=Yf e e2;obtain rfl:=zsi hκ;obtain⟨s,hs,hbx⟩:=hS.box (k,0) _ (zN hk rfl);refine⟨s,hs,?_⟩;cases s with
    |nil=>
     have:l.length=0:=hbx;show (l.take m).length=0;rw [xS,this];simp
    |blk b N=>
     obtain⟨h1,h2,h3,cs,rest,h4,h5,h6⟩:=hbx;refine⟨h1,h2,h3,cs.take m,cs.drop m++rest,?_,?_,qe.take h6 m⟩
     ·rw [<-j5,ZV];exact h4
     ·rw [<-j5,ZV];exact h5
   ·cases hκ
  ·exact hS.box κ x hκ
 ·have f:∀i z,lk (put k (.data (l.take m)) S) i=some z->∃z',lk S i=some z':=fun i z hz=>by
   rw [yu] at hz;split at hz
   ·cases hl:lk S i with
    |none=>rw [hl] at hz;cases hz
    |some q=>exact⟨q,O⟩
   ·exact⟨z,hz⟩
  obtain⟨z1,e1⟩:=f _ x hj;obtain⟨z2,e2⟩:=f _ x' hj';exact hS.inj κ κ' z1 z2 b N N' e1 e2
end Go.Ab
namespace Go.Ai
open Go.Ab Go.Proofs
theorem gG(p q:qj):0<=zE p q:=by simp only [zE];omega
theorem cN{a b:List qj}{z:Int}:z∈wp a b↔∃x∈a,∃y∈b,zE x y=z:=by simp [wp]
theorem PI{a b:List qj}(ha:a≠[])(hb:b≠[]):(∃x∈a,∃y∈b,zE x y=yd a b)/\∀x∈a,∀y∈b,yd a b<=zE x y:=by
 obtain⟨p,a',rfl⟩:=LS ha;obtain⟨q,b',rfl⟩:=LS hb;have hd:yd (p::a') (q::b')=(wp (p::a') (q::b')).foldl min (zE p q):=rfl;refine⟨?_,fun x hx y hy=>?_⟩
 ·rcases KH (wp (p::a') (q::b')) (zE p q) with h|h
  ·exact⟨p,by simp,q,by simp,by rw [hd,h]⟩
  ·exact cN.1 (hd▸h)
 ·rw [hd];exact (Vs _ _).2 _ (cN.2 ⟨x,hx,y,hy,O⟩)
end Go.Ai
namespace Go.Ai
open Go.Ab
inductive Conn (gap:Int) (rest:List qj) (p:qj):qj->Prop
 |base:p∈rest->Conn gap rest p p
 |step {x y:qj}:Conn gap rest p x->y∈rest->zE x y<=gap->Conn gap rest p y
def minus(l c:List qj):List qj:=l.filter fun x=>!decide (x∈c)
theorem N3{l c:List qj}{x:qj}:x∈minus l c↔x∈l/\x∉c:=by simp [minus]
inductive ClS (gap:Int):List qj->List (List qj)->Prop
 |nil:ClS gap [] []
 |cons {p:qj} {r c:List qj} {cs:List (List qj)}:zo c->(∀x,x∈c↔Conn gap (p::r) p x)->ClS gap (minus (p::r) c) cs->ClS gap (p::r) (c::cs)
theorem ClS.uniq{gap:Int}{l:List qj}{a b:List (List qj)}(ha:ClS gap l a)(hb:ClS gap l b):a=b:=by
 induction ha generalizing b with
 |nil=>cases hb;rfl
 |cons h1 h2 h3 ih=>
  cases hb with
  |cons g1 g2 g3=>
   have e:=zo.ext h1 g1 fun p=>(h2 p).trans (g2 p).symm;subst e;rw [ih g3]
theorem Conn.mem{gap:Int}{rest:List qj}{p x:qj}(h:Conn gap rest p x):x∈rest:=by
 cases h with
 |base h=>exact h
 |step _ h _=>exact h
theorem DH{gap:Int}{rest one:List qj}{p:qj}(hp:p∈one)(hc:∀x∈one,Conn gap rest p x)(hcl:∀x∈one,∀y∈rest,zE x y<=gap->y∈one)(x:qj):x∈one↔Conn gap rest p x:=by
 constructor
 ·exact hc x
 ·intro h;induction h with
  |base _=>exact hp
  |step _ h2 h3 ih=>exact hcl _ ih _ h2 h3
theorem zo.filter{l:List qj}(h:zo l)(f:qj->Bool):zo (l.filter f):=List.Pairwise.filter f h
theorem zo.minus{l:List qj}(h:zo l)(c:List qj):zo (minus l c):=h.filter _
theorem zo.nodup{l:List qj}(h:zo l):l.Nodup:=by
 refine List.Pairwise.imp ?_ h;intro a b hab e;subst e;exact vW hab
theorem oO{p:qj}{r c:List qj}(hp:p∈c):(minus (p::r) c).length<=r.length:=by
 unfold minus;rw [List.filter_cons,if_neg (by simp [hp])];exact nR _ _
theorem ZO:∀{a b:List qj},a.Nodup->(∀x∈a,x∈b)->a.length<=b.length
 |[],b,_,_=>Xa _
 |x::a,b,hn,h=>by
  rw [YO] at hn;have hx:=h x sM;have:=ZO (a:=a) (b:=b.erase x) hn.2 fun y hy=>by
   rw [List.mem_erase_of_ne (fun e=>hn.1 (by rw [<-e];exact hy))];exact h y (by simp [hy])
  rw [List.length_erase_of_mem hx] at this;have hpos:0<b.length:=List.length_pos_of_mem hx;simp only [xA];omega
theorem BC{one:List qj}(h:one≠[])(y:qj){gap:Int}:yd one [y]<=gap↔∃x∈one,zE x y<=gap:=by
 obtain⟨⟨x,hx,z,hz,he⟩,h2⟩:=PI h (b:=[y]) sM;simp only [xM] at hz;subst hz;constructor
 ·intro hg;exact⟨x,hx,oM⟩
 ·rintro ⟨w,hw,hg⟩;have:=h2 w hw z sM;omega
end Go.Ai
namespace Go.Ai
open Go.Ab Go.Proofs
end Go.Ai
namespace Go.Ai
open Go.Ab
theorem only{t:List qj}{p:qj}(hn:t.Nodup)(h:∀x∈t,x=p):t=[]\/t=[p]:=by
 match t,hn,h with
 |[],_,_=>exact .inl O
 |[x],_,h=>right;rw [h x (by simp)]
 |x::y::t,hn,h=>
  rw [YO] at hn;have h1:=h x sM;have h2:=h y sM;exact absurd (by rw [h1,h2];simp) hn.1
end Go.Ai
namespace Go.Ai
open Go.Ab Go.Proofs
def jU(o d:Int):Int:=if o<0\/d<o then d else o
theorem GP:∀(L:List Int) (o:Int),0<=o->(∀d∈L,0<=d)->L.foldl jU o=L.foldl min o
 |[],_,_,_=>rfl
 |d::L,o,ho,hL=>by
  have hd:=hL d sM;simp only [YN];have e:jU o d=min o d:=by unfold jU;split<;>omega
  rw [e];exact GP L (min o d) (by omega) fun x hx=>hL x (by simp [hx])
theorem Bw(a b:List qj):(wp a b).foldl jU (-1)=yd a b:=by
 by_cases ha:a=[]
 ·subst ha;simp [wp,yd]
 ·by_cases hb:b=[]
  ·subst hb;obtain⟨p,a',rfl⟩:=LS ha;have:∀l:List qj,wp l []=[]:=fun l=>by simp [wp]
   rw [this];rfl
  ·obtain⟨p,a',rfl⟩:=LS ha;obtain⟨q,b',rfl⟩:=LS hb;have hd:yd (p::a') (q::b')=(wp (p::a') (q::b')).foldl min (zE p q):=rfl;have hnn:∀d∈wp (p::a') (q::b'),0<=d:=fun d hd=>by
    obtain⟨x,_,y,_,rfl⟩:=cN.1 hd;exact gG x y
   have hf:∃L,wp (p::a') (q::b')=zE p q::L:=⟨_,by simp [wp];rfl⟩;obtain⟨L,hL⟩:=hf;rw [hd];rw [hL] at hnn ⊢;simp only [YN];rw [show jU (-1) (zE p q)=zE p q by simp [jU],show min (zE p q) (zE p q)=zE p q by omega];exact GP L _ (gG p q) fun x hx=>hnn x (by simp [hx])
theorem vM{a b:List qj}(ha:Zl a)(hb:Zl b)(hn:a.length<1000000)(hm:b.length<1000000):DK 160 [xt a,xt b] fun d=>d=.int (yd a b):=by
 refine yQ ?_;intros;refine qu (fun m E S nk=>∃k:Nat,k+m=a.length/\E=[(0,xt a),(1,xt b),(5,.int ((wp (a.take k) b).foldl jU (-1))),(6,.int k)]/\S=[]/\nk=0) ⟨a.length,_,_,_,[],?wk,0,oM,O,O,O⟩ ?_
 case wk=>exact qs
 rintro m E S nk ⟨k,hk,rfl,rfl,rfl⟩;refine qa ?_;intros;refine qd O (fun ht=>?_) (fun ht=>?_)
 ·simp at ht;obtain⟨p,hp⟩:∃q,a[k]?=some q:=⟨_,zge oM⟩;have e3:=jQ hp;have hps:=ha p (zmg hp);refine qa ?_;intros;refine qu (fun m E S nk=>∃j:Nat,j+m=b.length/\E=[(0,xt a),(1,xt b),(5,.int (((b.take j).map (zE p)).foldl jU ((wp (a.take k) b).foldl jU (-1)))),(6,.int k),(7,.int j)]/\S=[]/\nk=0) ⟨b.length,_,_,_,[],?wk2,0,oM,O,O,O⟩ ?_
  case wk2=>exact qs
  rintro m2 E S nk ⟨j,hj,rfl,rfl,rfl⟩;refine qa ?_;intros;refine qd O (fun ht2=>?_) (fun ht2=>?_)
  ·simp at ht2;obtain⟨q,hq⟩:∃q,b[j]?=some q:=⟨_,zge oM⟩;have e4:=jQ hq;have hqs:=hb q (zmg hq);have hD:((b.take (j+1)).map (zE p)).foldl jU ((wp (a.take k) b).foldl jU (-1))=jU (((b.take j).map (zE p)).foldl jU ((wp (a.take k) b).foldl jU (-1))) (zE p q):=by
    rw [Q5,hq];simp
   refine qa ?_;intros;refine qf O O (Sm (p:=p) (q:=q) hps hqs) ?_;rintro _ rfl;generalize ((b.take j).map (zE p)).foldl jU ((wp (a.take k) b).foldl jU (-1))=o at *;refine qa ?_;intros;refine qd O (fun ht3=>?_) (fun ht3=>?_)
   ·have hc:jU o (zE p q)=zE p q:=by unfold jU;simp at ht3;rw [if_pos (by omega)]
    rw [hc] at hD;refine qa ?_;intros;refine⟨m2-1,oM,_,_,_,[],?wk3,j+1,oM,O,O,O⟩
    case wk3=>rw [hD];exact qs
   ·have hc:jU o (zE p q)=o:=by unfold jU;simp at ht3;rw [if_neg (by omega)]
    rw [hc] at hD;refine qa ?_;intros;refine⟨m2-1,oM,_,_,_,[],?wk3,j+1,oM,O,O,O⟩
    case wk3=>rw [hD];exact qs
  ·simp at ht2;obtain rfl:j=b.length:=by omega
   refine qa ?_;intros;have hD:((b.take b.length).map (zE p)).foldl jU ((wp (a.take k) b).foldl jU (-1))=(wp (a.take (k+1)) b).foldl jU (-1):=by
    rw [Q5,hp,vE];simp [wp]
   rw [hD];refine⟨m-1,oM,_,_,_,[],?wk3,k+1,oM,O,O,O⟩
   case wk3=>exact qs
 ·simp at ht;obtain rfl:k=a.length:=by omega
  refine qa ?_;intros;refine qb ⟨_,O,O,?_⟩;rw [vE,Bw]
def zV(l:List qj):FD:=.sl 2 l.length (l.flatMap qB)
def XP(cs:List (List qj)):DV:=.one (.f (.sl 1 cs.length (cs.map zV)))
theorem JT{cs:List (List qj)}{i:Nat}{c:List qj}(h:cs[i]?=some c):xd (cs.map zV) (i*1) 1=some [zV c]:=by
 have hi:i<cs.length:=(zgs h).1;rw [yj (by simp;omega)];rw [X2,kr (by simpa using hi)];have:cs[i]=c:=(zgs h).2;simp [this]
theorem C8{l:List qj}{gap:Int}(hs:Zl l)(hn:l.length<100000):DK 132 [xt l,.int gap] fun d=>∃cs,d=XP cs/\ClS gap (xy l) cs:=by
 have hsl:(xy l).length<100000:=by
  have:=ZO (wE l).nodup (fun x hx=>y4.1 hx);omega
 have hss:Zl (xy l):=fun x hx=>hs x (y4.1 hx);refine yQ ?_;intros;refine x6 O O (dQ oM) ?_;intros;refine qx (qg (k:=1) O (qg (k:=5) O (qg (k:=6) O (qv _)))) (wC _) ?_;refine qu (fun m E S nk=>∃rest out,m=rest.length/\zo rest/\(∀x∈rest,x∈xy l)/\out.length+rest.length<=(xy l).length/\(∀cs,ClS gap rest cs->ClS gap (xy l) (out++cs))/\E=[(1,.int gap),(5,xt rest),(6,.one (.own 0 0 out.length 1))]/\S=[(0,.data (out.map zV))]/\nk=1) ⟨(xy l).length,_,_,_,[],?wk,xy l,[],O,wE l,fun x h=>h,by simp,fun cs h=>h,rfl,rfl,rfl⟩ ?_
 case wk=>exact qs
 rintro m E S nk ⟨rest,out,hm,hrows,hsub,hout,hcls,rfl,rfl,rfl⟩;have hrl:rest.length<100000:=oM;have hol:(out.map zV).length=out.length*1:=sM;have hrs:Zl rest:=fun x hx=>hss x (hsub x hx);refine qa ?_;intros;refine qd O (fun ht=>?_) (fun ht=>?_)
 ·simp at ht;obtain⟨p,r,rfl⟩:∃p r,rest=p::r:=by
   cases rest with
   |nil=>simp at ht
   |cons p r=>exact⟨p,r,O⟩
  have e0:=jQ (l:=p::r) (i:=0) (x:=p) rfl;obtain⟨N,hN⟩:∃N,(p::r).length=N:=⟨_,rfl⟩;refine qa ?_;intros;refine qx (qg (k:=1) O (qg (k:=5) O (qg (k:=6) O (qg (k:=7) O (qg (k:=8) O (qv _)))))) (wC _) ?_;refine qu (fun m E S nk=>∃(one:List qj) (g:Bool),p∈one/\one.Nodup/\(∀x∈one,Conn gap (p::r) p x)/\(g=false->∀x∈one,∀y∈(p::r),zE x y<=gap->y∈one)/\m=2*(N-one.length)+(if g=true then 1 else 0)/\E=[(1,.int gap),(5,xt (p::r)),(6,.one (.own 0 0 out.length 1)),(7,.one (.own 1 0 one.length 2)),(8,.bool g)]/\S=[(0,.data (out.map zV)),(1,.data (one.flatMap qB))]/\nk=2) ⟨2*(N-1)+1,_,_,_,[],?wk1,[p],true,by simp,by simp,fun x hx=>?hx,fun h=>(by cases h),by simp,rfl,rfl,rfl⟩ ?_
  case wk1=>exact qs
  case hx=>simp at hx;subst hx;exact .base sM
  rintro m2 E S nk ⟨one,g,hp,hnd,hconn,hclo,hm2,rfl,rfl,rfl⟩;have honl:=ZO hnd fun x hx=>(hconn x hx).mem;refine qa ?_;intros;refine qd O (fun hg=>?_) (fun hg=>?_)
  ·subst hg;refine qa ?_;intros;refine qx (qg (k:=1) O (qg (k:=5) O (qg (k:=6) O (qg (k:=7) O (qg (k:=8) O (qg (k:=9) O (qv _))))))) (wC _) ?_;refine qu (fun k E S nk=>∃(i:Nat) (one':List qj) (g:Bool),i+k=N/\p∈one'/\one'.Nodup/\(∀x∈one',Conn gap (p::r) p x)/\one.length<=one'.length/\(g=true->one.length<one'.length)/\(g=false->∀(j:Nat) y,j<i->(p::r)[j]?=some y->∀x∈one',zE x y<=gap->y∈one')/\E=[(1,.int gap),(5,xt (p::r)),(6,.one (.own 0 0 out.length 1)),(7,.one (.own 1 0 one'.length 2)),(8,.bool g),(9,.int i)]/\S=[(0,.data (out.map zV)),(1,.data (one'.flatMap qB))]/\nk=2) ⟨N,_,_,_,[],?wk2,0,one,false,oM,hp,hnd,hconn,qz _,fun h=>(by cases h),fun _ j y h=>oM,O,O,O⟩ ?_
   case wk2=>exact qs
   rintro k E S nk ⟨i,one',g,hik,hp',hnd',hconn',hle,hgt,hg',rfl,rfl,rfl⟩;have honl':=ZO hnd' fun x hx=>(hconn' x hx).mem;have hflat:=zu one';have hos:Zl one':=fun x hx=>hrs x (hconn' x hx).mem;refine qa ?_;intros;refine qd rfl (fun ht2=>?_) (fun ht2=>?_)
   ·simp at ht2;have hil:i<(p::r).length:=by simp only [xA];omega
    obtain⟨y,hy⟩:∃y,(p::r)[i]?=some y:=⟨_,zge hil⟩;have hym:y∈(p::r):=zmg hy;have e1:=jQ hy;refine qa ?_;intros;refine Ys (ds:=[xt one',wd y]) rfl ⟨⟨_,rfl,_,_,rfl,qD _ hflat,rfl⟩,⟨_,rfl,⟨rfl,rfl⟩,⟨rfl,rfl⟩,trivial⟩,trivial⟩ (IW (l:=one') (p:=y) oM) (by rintro _ rfl;rfl) ?_;rintro _ rfl;by_cases hyo:y∈one'
    ·have g1:(!decide (y∈one'))=false:=by simp [hyo]
     refine zh ?_;intros;refine qd rfl (fun h=>by cases h) (fun _=>?_);refine qa ?_;intros;refine⟨k-1,oM,_,_,_,[],?wk3,i+1,one',g,oM,hp',hnd',hconn',hle,hgt,fun hg j z hj hz x hx hf=>?_,rfl,rfl,rfl⟩
     case wk3=>exact qs
     by_cases hji:j=i
     ·subst hji;rw [hy] at hz;obtain rfl:=zsi hz;exact hyo
     ·exact hg' hg j z oM hz x hx hf
    ·have g1:(!decide (y∈one'))=true:=by simp [hyo]
     refine zh ?_;intros;rw [show IntKind.i64.wrap ((i:Int)+1)=((i+1:Nat):Int) by rw [qm (by omega) (by omega)];omega];refine iJ (q:=qB y) (n':=1) rfl rfl rfl (by omega) (by simp;omega) (by omega) e1 ?_;refine qa ?_;intros;refine Ys (ds:=[xt one',xt [y]]) rfl ⟨⟨_,rfl,_,_,rfl,qD _ hflat,rfl⟩,⟨_,rfl,rfl,rfl⟩,trivial⟩ (vM hos (fun x hx=>by simp at hx;subst hx;exact hrs x hym) (by omega) sM) (by rintro _ rfl;rfl) ?_;rintro _ rfl;by_cases hd:yd one' [y]<=gap
     ·have g2:decide (yd one' [y]<=gap)=true:=by simpa using hd
      obtain⟨x,hx,hxy⟩:=(BC (fun e=>by rw [e] at hp';simp at hp') y).1 hd;refine zh ?_;intros;refine qd rfl (fun _=>?_) (fun h=>by cases h);refine qa ?_;intros;refine qZ rfl rfl rfl (qD _ hflat) ⟨rfl,rfl,_,rfl,rfl⟩ oM oM qr rfl ?_;refine qa ?_;intros;have hD:one'.flatMap qB++qB y=(one'++[y]).flatMap qB:=sM;have hL:one'.length+1=(one'++[y]).length:=sM;refine⟨k-1,by omega,_,_,_,[(1,3)],?wk4,i+1,one'++[y],true,by omega,by simp [hp'],?hnd,fun z hz=>?hc,by simp;omega,fun _=>by simp;omega,fun h=>(by cases h),rfl,rfl,rfl⟩
      case wk4=>rw [<-hD,<-hL];exact qs
      case hnd=>exact List.nodup_append.2 ⟨hnd',by simp,fun a ha b hb e=>by simp at hb;subst hb;subst e;exact hyo ha⟩
      case hc=>
       rcases xu.1 hz with h|h
       ·exact hconn' z h
       ·simp at h;subst h;exact .step (hconn' x hx) hym hxy
     ·have g2:decide (yd one' [y]<=gap)=false:=by simpa using hd
      refine zh ?_;intros;refine qd rfl (fun h=>by cases h) (fun _=>?_);refine qa ?_;intros;refine⟨k-1,oM,_,_,_,[],?wk5,i+1,one',g,oM,hp',hnd',hconn',hle,hgt,fun hg j z hj hz x hx hf=>?_,rfl,rfl,rfl⟩
      case wk5=>exact qs
      by_cases hji:j=i
      ·subst hji;rw [hy] at hz;obtain rfl:=zsi hz;exact absurd ((BC (fun e=>by rw [e] at hx;simp at hx) y).2 ⟨x,hx,hf⟩) hd
      ·exact hg' hg j z oM hz x hx hf
   ·simp at ht2;refine qa ?_;intros;refine⟨2*(N-one'.length)+(if g=true then 1 else 0),?hlt,_,_,_,[],?wk6,one',g,hp',hnd',hconn',fun hg x hx y hy hf=>?_,rfl,rfl,rfl,rfl⟩
    case wk6=>exact qs
    case hlt=>
     rw [hm2];cases g with
     |true=>have:=hgt rfl;simp;omega
     |false=>simp;omega
    obtain⟨j,hj⟩:=eH hy;have hjl:=(zgs hj).1;simp at hjl;exact hg' hg j y (by simp at hN;omega) hj x hx hf
  ·subst hg;have hclo:=hclo rfl;have hcc:=DH hp hconn hclo;have hflat:=zu one;refine qa ?_;intros;refine qx (qg (k:=1) rfl (qg (k:=5) rfl (qg (k:=6) rfl (qg (k:=7) rfl (qg (k:=10) rfl (qg (k:=11) rfl (qv _))))))) (wC _) ?_;refine qu (fun k E S nk=>∃(i:Nat) (left:List qj),i+k=N/\left=minus ((p::r).take i) one/\E=[(1,.int gap),(5,xt (p::r)),(6,.one (.own 0 0 out.length 1)),(7,.one (.own 1 0 one.length 2)),(10,.one (.own 2 0 left.length 2)),(11,.int i)]/\S=[(0,.data (out.map zV)),(1,.data (one.flatMap qB)),(2,.data (left.flatMap qB))]/\nk=3) ⟨N,_,_,_,[],?wk7,0,[],by omega,by simp [minus],rfl,rfl,rfl⟩ ?_
   case wk7=>exact qs
   rintro k E S nk ⟨i,left,hik,hleft,rfl,rfl,rfl⟩;have hll:left.length<=i:=by
    rw [hleft];unfold minus;have:=nR (fun x=>!decide (x∈one)) ((p::r).take i);have h2:=List.length_take_le i (p::r);omega
   have hlfl:=zu left;refine qa ?_;intros;refine qd rfl (fun ht2=>?_) (fun ht2=>?_)
   ·simp at ht2;have hil:i<(p::r).length:=by simp only [xA];omega
    obtain⟨y,hy⟩:∃y,(p::r)[i]?=some y:=⟨_,zge hil⟩;have e1:=jQ hy;refine qa ?_;intros;refine Ys (ds:=[xt one,wd y]) rfl ⟨⟨_,rfl,_,_,rfl,qD _ hflat,rfl⟩,⟨_,rfl,⟨rfl,rfl⟩,⟨rfl,rfl⟩,trivial⟩,trivial⟩ (IW (l:=one) (p:=y) oM) (by rintro _ rfl;rfl) ?_;rintro _ rfl;refine qa ?_;intros;have hstep:minus ((p::r).take (i+1)) one=if y∈one then left else left++[y]:=by
     rw [Q5,hy,minus,List.filter_append,hleft,minus];by_cases hyo:y∈one<;>simp [hyo]
    refine qd rfl (fun hb=>?_) (fun hb=>?_)
    ·have hyo:y∉one:=by simpa using hb
     rw [if_neg hyo] at hstep;refine qa ?_;intros;refine qZ rfl rfl rfl (qD _ hlfl) ⟨rfl,rfl,_,rfl,rfl⟩ oM oM qr rfl ?_;refine qa ?_;intros;have hD:left.flatMap qB++qB y=(left++[y]).flatMap qB:=sM;have hL:left.length+1=(left++[y]).length:=sM;refine⟨k-1,oM,_,_,_,[(2,4)],?wk8,i+1,left++[y],oM,hstep.symm,rfl,rfl,rfl⟩
     case wk8=>rw [<-hD,<-hL];exact qs
    ·have hyo:y∈one:=by simpa using hb
     rw [if_pos hyo] at hstep;refine qa ?_;intros;refine⟨k-1,oM,_,_,_,[],?wk9,i+1,left,oM,hstep.symm,rfl,rfl,rfl⟩
     case wk9=>exact qs
   ·simp at ht2;have hlr:left=minus (p::r) one:=by rw [hleft,Q9 (by simp at hN ⊢;omega)]
    refine qF 1 rfl qo qo ?_;refine qa ?_;intros;refine qf (ds:=[xt one]) rfl rfl (dQ (l:=one) oM) ?_;rintro _ rfl;refine qa ?_;intros;refine qZ rfl rfl rfl (qD _ hol) ⟨rfl,rfl,_,rfl,rfl⟩ oM oM qr rfl ?_;refine qY 2 rfl qo qo ?_;refine qa ?_;intros;have hD:out.map zV++[zV (xy one)]=(out++[xy one]).map zV:=sM;have hL:out.length+1=(out++[xy one]).length:=sM;refine⟨left.length,?hlt,_,_,_,[(0,4)],?wka,left,out++[xy one],rfl,?hr,fun x hx=>?hs2,?hle,fun cs hcs=>?hcl,rfl,rfl,rfl⟩
    case wka=>rw [<-hD,<-hL];exact qs
    case hlt=>have:=oO (r:=r) hp;rw [hlr,hm];simp;omega
    case hr=>rw [hlr];exact hrows.minus _
    case hs2=>rw [hlr,N3] at hx;exact hsub x hx.1
    case hle=>have:=oO (r:=r) hp;rw [hlr];simp at hout ⊢;omega
    case hcl=>
     rw [j5];refine hcls _ (.cons (wE one) (fun x=>y4.trans (hcc x)) ?_);have:minus (p::r) (xy one)=left:=by
      rw [hlr];unfold minus;congr 1;funext x;simp [y4]
     rw [this];exact hcs
 ·simp at ht;subst ht;refine qa ?_;intros;refine qx (qg (k:=4) rfl (qv _)) (wC _) ?_;refine qF 0 rfl qo qo ?_;refine qa ?_;intros;refine qb ⟨_,rfl,rfl,out,rfl,?_⟩;have:=hcls [] .nil;simpa using this
theorem uB{a b:Int}(hb:0<b)(h1: -1000000000000000000<a)(h2:a<1000000000000000000):DK 200 [.int a,.int b] fun d=>d=.int (a/b):=by
 have hd:=Em (b:=b) h1 h2;have hf:=MM (a:=a) hb;refine yQ ?_;intros;refine O5 rfl rfl oM ?_;rw [qm (n:=a.tdiv b) (by omega) (by omega)];refine qa ?_;intros;refine Wd rfl rfl oM ?_;refine qa ?_;intros;refine qd rfl (fun ht=>?_) (fun ht=>?_)
 ·have ht:=xo ht;rw [if_pos ht] at hf;refine qa ?_;intros;exact qb ⟨_,rfl,rfl,congrArg (fun z=>DV.int z) (by rw [qm (by omega) (by omega)];exact hf)⟩
 ·have ht:=zK ht;rw [if_neg ht] at hf;refine qa ?_;intros;exact qb ⟨_,rfl,rfl,congrArg (fun z=>DV.int z) hf⟩
abbrev oR(p q:qj)(n:Int)(k:Nat):List qj:=(List.range k).map (Y5 p q n)
theorem FX{p q:qj}(hp:xf 1000 p)(hq:xf 1000 q):DK 188 [wd p,wd q] fun d=>d=xt (yC p q):=by
 have hfb:=Nr hp hq;obtain⟨p1,p2,p3,p4⟩:=hp;obtain⟨q1,q2,q3,q4⟩:=hq;have hfar:=NX (p:=p) (q:=q) ⟨oM,oM,oM,oM⟩ ⟨oM,oM,oM,oM⟩;unfold yC;generalize zE p q=n at *;refine yQ ?_;intros;refine x6 rfl rfl hfar ?_;intros;refine qd (t:=decide (n=0)) rfl (fun ht=>?_) (fun ht=>?_)
 ·have ht:=xo ht;rw [if_pos ht];refine qa ?_;intros;refine qx (qg (k:=4) rfl (qv _)) (qg (k:=3) rfl (qv _)) ?_;refine qF 3 rfl qo qo ?_;exact qb ⟨_,rfl,rfl,rfl⟩
 ·have ht:=zK ht;rw [if_neg ht];refine qa ?_;intros;refine qu (fun m E S nk=>∃k:Nat,k+m=n.toNat+1/\E=[(2,.one (.ptr 0 0)),(3,.one (.ptr 1 0)),(5,.int n),(6,.one (.own 2 0 k 2)),(7,.int k)]/\S=[(2,.data ((oR p q n k).flatMap qB)),(0,.cells ((qB p).map .f)),(1,.cells ((qB q).map .f))]/\nk=3)
   ⟨n.toNat+1,_,_,_,[],?wk,0,oM,rfl,rfl,rfl⟩ ?_
  case wk=>exact qs
  rintro m E S nk ⟨k,hk,rfl,rfl,rfl⟩;have hfl:((oR p q n k).flatMap qB).length=k*2:=by rw [qO (f:=qB) (e:=2) (fun _=>rfl)];simp
  refine qa ?_;intros;refine qd rfl (fun ht2=>?_) (fun ht2=>?_)
  ·have ht2:=xo ht2;have m1:=Z9 (a:=p.1) (b:=n) (A:=1000) (B:=2000) oM oM oM oM;have m2:=Z9 (a:=(k:Int)) (b:=q.1-p.1) (A:=2000) (B:=2000) oM oM oM oM;have m3:=Z9 (a:=p.2) (b:=n) (A:=1000) (B:=2000) oM oM oM oM;have m4:=Z9 (a:=(k:Int)) (b:=q.2-p.2) (A:=2000) (B:=2000) oM oM oM oM;refine qa ?_;intros;rw [qm (n:=p.1*n) (by omega) (by omega),qm (n:=q.1-p.1) (by omega) (by omega),qm (n:=k*(q.1-p.1)) (by omega) (by omega),qm (n:=p.1*n+k*(q.1-p.1)) (by omega) (by omega),qm (n:=2*(p.1*n+k*(q.1-p.1))) (by omega) (by omega),qm (n:=2*(p.1*n+k*(q.1-p.1))+n) (by omega) (by omega),qm (n:=2*n) (by omega) (by omega)];refine x6 rfl rfl (uB oM oM oM) ?_;intros;rw [qm (n:=p.2*n) (by omega) (by omega),qm (n:=q.2-p.2) (by omega) (by omega),qm (n:=k*(q.2-p.2)) (by omega) (by omega),qm (n:=p.2*n+k*(q.2-p.2)) (by omega) (by omega),qm (n:=2*(p.2*n+k*(q.2-p.2))) (by omega) (by omega),qm (n:=2*(p.2*n+k*(q.2-p.2))+n) (by omega) (by omega),qm (n:=2*n) (by omega) (by omega)];refine x6 rfl rfl (uB oM oM oM) ?_;intros;refine qZ (q:=qB (Y5 p q n k)) rfl rfl rfl (qD _ hfl) ⟨rfl,rfl,_,rfl,rfl⟩ oM oM qr rfl ?_;have hdat:(oR p q n k).flatMap qB++qB (Y5 p q n k)=(oR p q n (k+1)).flatMap qB:=by
    unfold oR;rw [XY,JM,X0];simp
   refine qa ?_;intros;refine⟨m-1,oM,_,_,_,[(2,4)],?wk,k+1,oM,rfl,rfl,rfl⟩
   case wk=>exact qs
  ·have ht2:=zK ht2;have hkn:n.toNat+1=k:=oM;refine qx (qg (k:=6) rfl (qv _)) (qg (k:=2) rfl (qv _)) ?_;refine qF 2 rfl qo qo ?_;refine qa ?_;intros;exact qb ⟨_,rfl,rfl,by
    rw [hkn];show _=DV.one (.f (.sl 2 (oR p q n k).length ((oR p q n k).flatMap qB)));rw [show (oR p q n k).length=k by simp];rfl⟩
theorem M1(x t:Int){n:Int}(hn:0<n):(x+2*n*t)/(2*n)=x/(2*n)+t:=Int.add_mul_ediv_left x t oM
theorem W0(a:Int){n:Int}(hn:0<n):(2*(a*n)+n)/(2*n)=a:=by
 have h:=M1 n a hn;rw [show n+2*n*a=2*(a*n)+n by rw [Int.mul_assoc,eP n a];omega] at h;rw [h,Int.ediv_eq_zero_of_lt (by omega) (by omega)];omega
theorem pR(a b:Int){n:Int}(hn:0<n):Km a b 0 n=a:=by
 unfold Km;rw [Int.zero_mul,Int.add_zero];exact W0 a hn
theorem pS(a b:Int){n:Int}(hn:0<n):Km a b n n=b:=by
 unfold Km;rw [show a*n+n*(b-a)=b*n by rw [sV,eP n b,eP n a];omega];exact W0 b hn
theorem GI(a b k:Int){n:Int}(hn:0<n)(h0:0<=k)(h1:k<=n):min a b<=Km a b k n/\Km a b k n<=max a b:=by
 have e:=W0 (min a b) hn;have f:=W0 (max a b) hn;have hx:min a b*n<=a*n+k*(b-a)/\a*n+k*(b-a)<=max a b*n:=by
  by_cases hab:a<=b
  ·rw [Int.min_eq_left hab,Int.max_eq_right hab];have g1:0<=k*(b-a):=Int.mul_nonneg h0 oM;have g2:k*(b-a)<=n*(b-a):=Int.mul_le_mul_of_nonneg_right h1 oM;rw [sV n,eP n b,eP n a] at g2;omega
  ·rw [Int.min_eq_right (by omega),Int.max_eq_left (by omega)];have g1:0<=k*(a-b):=Int.mul_nonneg h0 oM;have g2:k*(a-b)<=n*(a-b):=Int.mul_le_mul_of_nonneg_right h1 oM;rw [sV n,eP n b,eP n a] at g2;have g3:k*(b-a)= - (k*(a-b)):=by rw [<-Int.mul_neg];congr 1;omega
   omega
 unfold Km;constructor
 ·have:=Int.ediv_le_ediv (a:=2*(min a b*n)+n) (b:=2*(a*n+k*(b-a))+n) (c:=2*n) oM oM;omega
 ·have:=Int.ediv_le_ediv (a:=2*(a*n+k*(b-a))+n) (b:=2*(max a b*n)+n) (c:=2*n) oM oM;omega
theorem Vj(p q:qj):(yC p q).length=(zE p q).toNat+1:=by
 unfold yC;split
 ·rename_i h;rw [h];rfl
 ·simp
def kU(p q:qj)(k:Nat):qj:=if zE p q=0 then p else Y5 p q (zE p q) k
theorem WT(p q:qj){k:Nat}(hk:(k:Int)<=zE p q):(yC p q)[k]?=some (kU p q k):=by
 unfold yC kU;split
 ·rename_i h;obtain rfl:k=0:=by omega
  rfl
 ·rw [jH,Kx (by omega)];rfl
theorem Qt(p q:qj):zE p q=max (q.1-p.1) (max (p.1-q.1) (max (q.2-p.2) (p.2-q.2))):=by simp only [zE];omega
theorem CY(p q:qj):kU p q 0=p:=by
 have:=Qt p q;unfold kU;split
 ·rfl
 ·simp only [Y5];rw [Int.natCast_zero,pR _ _ (by omega),pR _ _ (by omega)]
theorem CZ(p q:qj):kU p q (zE p q).toNat=q:=by
 have h:=Qt p q;unfold kU;split
 ·obtain⟨p1,p2⟩:=p;obtain⟨q1,q2⟩:=q;simp only [zpi] at *;omega
 ·simp only [Y5];rw [LY (by omega),pS _ _ (by omega),pS _ _ (by omega)]
theorem oT(p q:qj){k:Nat}(hk:(k:Int)<=zE p q):min p.1 q.1<=(kU p q k).1/\(kU p q k).1<=max p.1 q.1/\min p.2 q.2<=(kU p q k).2/\(kU p q k).2<=max p.2 q.2:=by
 have h:=Qt p q;unfold kU;split
 ·omega
 ·simp only [Y5];have h1:=GI p.1 q.1 k (n:=zE p q) oM oM hk;have h2:=GI p.2 q.2 k (n:=zE p q) oM oM hk;omega
theorem Yd{p q:qj}(hp:xf 1000 p)(hq:xf 1000 q):(yC p q).length<=2001:=by
 have h1:=Vj p q;have h2:=Qt p q;unfold xf at hp hq;omega
def Wo(L:List qj):Prop:=∀p∈L,xf 1000 p
def jK(L:List qj)(i:Nat):Nat:=(i+1) % L.length
def Dr(a b p:qj):Int:=(b.1-a.1)*(p.2-a.2)-(b.2-a.2)*(p.1-a.1)
def Dg(a b p:qj):Bool:=decide (Dr a b p=0)&&(decide (min a.1 b.1<=p.1)&&decide (p.1<=max a.1 b.1)&&decide (min a.2 b.2<=p.2)&&decide (p.2<=max a.2 b.2))
def Z7(a b p:qj):Bool:=if decide (a.2<=p.2)=decide (b.2<=p.2) then false else if a.2<b.2 then decide ((p.1-a.1)*(b.2-a.2)<(p.2-a.2)*(b.1-a.1)) else decide ((p.2-a.2)*(b.1-a.1)<(p.1-a.1)*(b.2-a.2))
theorem zL{p q:qj}(hp:xf 1000 p)(hq:xf 1000 q):(-2000<=p.1-q.1/\p.1-q.1<=2000)/\(-2000<=p.2-q.2/\p.2-q.2<=2000):=by
 unfold xf at hp hq;omega
theorem HP{a b:Int}(ha: -2000<=a/\a<=2000)(hb: -2000<=b/\b<=2000):IntKind.i64.wrap (IntKind.i64.wrap a*IntKind.i64.wrap b)=a*b:=by
 rw [qm (n:=a) (by omega) (by omega),qm (n:=b) (by omega) (by omega)];have:=Z9 (A:=2000) (B:=2000) ha.1 ha.2 hb.1 hb.2;exact qm oM oM
theorem I9{a b:Int}(h:(a !=b)=false):a=b:=by simpa using h
theorem RM{a b:Int}(h:(a !=b)=true):a≠b:=by simpa using h
theorem Uh:∀v x y z w:Bool,(v&&(x&&y&&z&&w))=(if (if (if (if v=true then x else false)=true then y else false)=true then z else false)=true then w else false):=by decide
theorem Og{a b p:qj}(ha:xf 1000 a)(hb:xf 1000 b)(hp:xf 1000 p):DK 201 [wd a,wd b,wd p] fun d=>d=.int (Dr a b p):=by
 refine vL fun Z0 lo=>?_;have w1:=HP (zL hb ha).1 (zL hp ha).2;have w2:=HP (zL hb ha).2 (zL hp ha).1;have b1:=Z9 (A:=2000) (B:=2000) (zL hb ha).1.1 (zL hb ha).1.2 (zL hp ha).2.1 (zL hp ha).2.2;have b2:=Z9 (A:=2000) (B:=2000) (zL hb ha).2.1 (zL hb ha).2.2 (zL hp ha).1.1 (zL hp ha).1.2;refine qa ?_;intros;refine qb ⟨_,rfl,rfl,?_⟩;refine congrArg DV.int ?_;rw [w1,w2];exact qm oM oM
theorem Sj{a b p:qj}(ha:xf 1000 a)(hb:xf 1000 b)(hp:xf 1000 p):DK 189 [wd a,wd b,wd p] fun d=>d=.bool (Dg a b p):=by
 refine yQ ?_;intros;refine x6 rfl rfl (Og ha hb hp) ?_;intros;refine qb ⟨_,rfl,rfl,?_⟩;refine congrArg DV.bool ?_;simp only [yz,if_false,if_true];rw [show (if b.1>a.1 then b.1 else a.1)=max a.1 b.1 by omega,show (if b.1<a.1 then b.1 else a.1)=min a.1 b.1 by omega,show (if b.2>a.2 then b.2 else a.2)=max a.2 b.2 by omega,show (if b.2<a.2 then b.2 else a.2)=min a.2 b.2 by omega,show (Dr a b p==0)=decide (Dr a b p=0) from rfl]
 exact (Uh _ _ _ _ _).symm
theorem Ok{a b p:qj}(ha:xf 1000 a)(hb:xf 1000 b)(hp:xf 1000 p):DK 190 [wd a,wd b,wd p] fun d=>d=.bool (Z7 a b p):=by
 refine vL fun Z0 lo=>?_;have w1:=HP (zL hp ha).2 (zL hb ha).1;have w2:=HP (zL hp ha).1 (zL hb ha).2;refine qa ?_;intros;refine qd rfl (fun ht=>?_) (fun ht=>?_)
 ·refine qa ?_;intros;refine qb ⟨_,rfl,rfl,?_⟩;rw [Z7,if_pos (by simpa using ht)]
 ·refine qa ?_;intros;refine qd rfl (fun h2=>?_) (fun h2=>?_)
  ·refine qa ?_;intros;refine qb ⟨_,rfl,rfl,?_⟩;have h2:=xo h2;rw [Z7,if_neg (by simpa using ht),if_pos (by omega),<-w1,<-w2]
  ·refine qa ?_;intros;refine qb ⟨_,rfl,rfl,?_⟩;have h2:=zK h2;rw [Z7,if_neg (by simpa using ht),if_neg (by omega),<-w1,<-w2]
def zI(L:List qj)(i:Nat):qj:=(L[i]?).getD (0,0)
def n9(L:List qj)(p:qj)(i:Nat):Bool:=Dg (zI L i) (zI L (jK L i)) p
def cE(L:List qj)(p:qj)(i:Nat):Bool:=Z7 (zI L i) (zI L (jK L i)) p
def kF(L:List qj)(p:qj):Nat->Bool
 |0=>false
 |n+1=>xor (kF L p n) (cE L p n)
def Zz(L:List qj)(p:qj):Bool:=(List.range L.length).any (n9 L p)||kF L p L.length
theorem wT{L:List qj}{i:Nat}{a:qj}(h:L[i]?=some a):zI L i=a:=by rw [zI,h];rfl
theorem TY{L:List qj}{p:qj}{i:Nat}(hi:i<L.length)(h:n9 L p i=true):Zz L p=true:=by
 rw [Zz,List.any_eq_true.2 ⟨i,jF.2 hi,h⟩,Bool.true_or]
theorem Fz{L:List qj}{p:qj}(h:∀i,i<L.length->n9 L p i=false):Zz L p=kF L p L.length:=by
 have:(List.range L.length).any (n9 L p)=false:=by
  rw [List.any_eq_false];intro i hi;rw [h i (jF.1 hi)];decide
 rw [Zz,this,Bool.false_or]
theorem Ff{L:List qj}{i:Nat}(_:i<L.length):Int.tmod ((i:Int)+1) (L.length:Int)=((jK L i:Nat):Int):=by
 rw [nK (by omega)];simp [jK]
theorem BH{L:List qj}{i:Nat}{a b:qj}(hn:L.length<100)(ht:i<L.length)(ha:L[i]?=some a)(hb:L[jK L i]?=some b):DK 187 [xt L,.int i] fun d=>d=.tup [wd a,wd b]:=by
 refine vL fun Z0 lo=>?_;have hnx:jK L i<L.length:=kp _ oM;have e1:=jQ ha;have e2:=jQ hb;have hw:IntKind.i64.wrap ((i:Int)+1)=(i:Int)+1:=qm oM oM;refine qa ?_;intros;rw [hw];refine Wd rfl rfl oM ?_;rw [Ff ht];exact QK
theorem PN{L:List qj}{p:qj}(hl:Wo L)(hp:xf 1000 p)(hn:L.length<100):DK 180 [xt L,wd p] fun d=>d=.bool (Zz L p):=by
 refine yQ ?_;intros;refine qu (fun m E S nk=>∃i:Nat,i+m=L.length/\(∀j,j<i->n9 L p j=false)/\E=[(0,xt L),(3,.one (.ptr 0 0)),(5,.bool (kF L p i)),(6,.int i)]/\S=[(0,.cells [.f (.c (.int .i64 p.1)),.f (.c (.int .i64 p.2))])]/\nk=1)
  ⟨L.length,_,_,_,[],?wk,0,oM,fun j hj=>oM,rfl,rfl,rfl⟩ ?_
 case wk=>exact qs
 rintro m E S nk ⟨i,hi,hno,rfl,rfl,rfl⟩;refine qa ?_;intros;refine qd rfl (fun ht=>?_) (fun ht=>?_)
 ·have ht:i<L.length:=by have:=xo ht;omega
  have hnx:jK L i<L.length:=kp _ oM;obtain⟨a,ha⟩:∃q,L[i]?=some q:=⟨_,zge ht⟩;obtain⟨b,hb⟩:∃q,L[jK L i]?=some q:=⟨_,zge hnx⟩;have hsa:=hl a (zmg ha);have hsb:=hl b (zmg hb);refine qa ?_;intros;refine x6 rfl rfl (BH hn ht ha hb) ?_;intros;refine x6 rfl rfl (Sj hsa hsb hp) ?_;intros;refine qd rfl (fun ho=>?_) (fun ho=>?_)
  ·refine qa ?_;intros;refine qb ⟨_,rfl,rfl,?_⟩;rw [TY ht (by rw [n9,wT ha,wT hb];exact ho)]
  ·have ho:n9 L p i=false:=by rw [n9,wT ha,wT hb];exact ho
   refine qa ?_;intros;refine x6 rfl rfl (Ok hsa hsb hp) ?_;intros;refine qd rfl (fun hq=>?_) (fun hq=>?_)
   ·refine qa ?_;intros;refine⟨m-1,oM,_,_,_,[],?wk1,i+1,oM,?hno,rfl,rfl,rfl⟩
    case hno=>
     intro j hj;by_cases hji:j=i
     ·rw [hji,ho]
     ·exact hno j oM
    case wk1=>
     have:(!kF L p i)=kF L p (i+1):=by rw [kF,cE,wT ha,wT hb,hq];cases kF L p i<;>rfl
     rw [this];exact qs
   ·have:kF L p (i+1)=kF L p i:=by rw [kF,cE,wT ha,wT hb,hq];cases kF L p i<;>rfl
    refine qa ?_;intros;refine⟨m-1,oM,_,_,_,[],?wk2,i+1,oM,?hno2,rfl,rfl,rfl⟩
    case hno2=>
     intro j hj;by_cases hji:j=i
     ·rw [hji,ho]
     ·exact hno j oM
    case wk2=>
     rw [this];exact qs
 ·have ht:i=L.length:=by have:=zK ht;omega
  subst ht;refine qa ?_;intros;refine qb ⟨_,rfl,rfl,?_⟩;rw [Fz hno]
end Go.Ai
