/- -/
import Derived.Test.YtdlelodnhjacgaaGreatDoorAb17
set_option linter.unusedSimpArgs false
set_option linter.unusedVariables false
set_option maxRecDepth 8000
set_option maxHeartbeats 4000000
namespace Go.Ai
open Go.Ab Go.Proofs
theorem IB{rows:List RowL}{w:Nat}{a e:Int}(hl:rows.length<100000)(hr:∀r∈rows,jE w r):Q2 43 [fW 0 rows.length a e] [(0,.data (rows.flatMap zr)),(1,wx)] 3 fun d S' nk'=>∃q:List RowL,q.length=rows.length/\(∀r∈q,jE w r)/\d=fW 0 q.length a e/\S'=[(0,.data (q.flatMap zr)),(1,wx)]/\nk'=5:=by
 refine JD fun Z β H lo=>?_;refine ql ?_;intros;refine qu (fun m E S nk=>∃(i:Nat) (q:List RowL),i+m=rows.length/\q.length=rows.length/\(∀r∈q,jE w r)/\E=[(1,.one (.ptr 3 0)),(2,.one (.ptr 4 0)),(3,.int i)]/\S=[(0,.data (q.flatMap zr)),(1,wx),(3,.cells [.own 0 0 rows.length 5,.f (.c (.int .i64 a)),.f (.c (.int .i64 e))]),(4,wx)]/\nk=5) (Tm (m:=rows.length) ⟨0,rows,oM,O,hr,O,O,O⟩ xp) ?_;rintro m E S nk ⟨i,q,hm,hq,hq2,rfl,rfl,rfl⟩;refine ql ?_;intros;refine qh O (fun h=>?_) (fun h=>?_)
 ·refine ql ?_;intros;refine QU (f:=zr) (i:=i) (c:=1) (q:=[.c (.bool true)]) (rY (q.getD i default)) O (by rw [jW]) O O O O (by omega) (fun _=>O) (by decide) O O ?_;refine ql ?_;intros;exact sW (m':=m-1) (by omega) ⟨i+1,q.set i (rY (q.getD i default)),by omega,by rw [jG];exact hq,aU hq2 (show jE w _ from (hq2 (q.getD i default) (qn (l:=q) (i:=i) (by omega)):jE w (q.getD i default))),rfl,rfl,rfl⟩ xp
 ·refine ql ?_;intros;exact qb ⟨_,O,O,_,qg O (qg O (qv _)),q,hq,hq2,by rw [hq];rfl,rfl,rfl⟩
theorem C5{rows:List RowL}{w:Nat}{a e:Int}(hl:rows.length<100000)(hr:∀r∈rows,jE w r):Q2 43 [fW 0 rows.length a e] [(0,.data (rows.flatMap zr)),(1,wx),(2,.cells [.own 0 0 rows.length 5,.f (.c (.int .i64 0)),.f (.c (.int .i64 0))])] 3 fun d S' nk'=>∃q:List RowL,q.length=rows.length/\(∀r∈q,jE w r)/\d=fW 0 q.length a e/\S'=[(0,.data (q.flatMap zr)),(1,wx),(2,.cells [.own 0 0 rows.length 5,.f (.c (.int .i64 0)),.f (.c (.int .i64 0))])]/\nk'=5:=by
 refine JD fun Z β H lo=>?_;refine ql ?_;intros;refine qu (fun m E S nk=>∃(i:Nat) (q:List RowL),i+m=rows.length/\q.length=rows.length/\(∀r∈q,jE w r)/\E=[(1,.one (.ptr 3 0)),(2,.one (.ptr 4 0)),(3,.int i)]/\S=[(0,.data (q.flatMap zr)),(1,wx),(2,.cells [.own 0 0 rows.length 5,.f (.c (.int .i64 0)),.f (.c (.int .i64 0))]),(3,.cells [.own 0 0 rows.length 5,.f (.c (.int .i64 a)),.f (.c (.int .i64 e))]),(4,wx)]/\nk=5) (Tm (m:=rows.length) ⟨0,rows,oM,O,hr,O,O,O⟩ xp) ?_;rintro m E S nk ⟨i,q,hm,hq,hq2,rfl,rfl,rfl⟩;refine ql ?_;intros;refine qh O (fun h=>?_) (fun h=>?_)
 ·refine ql ?_;intros;refine QU (f:=zr) (i:=i) (c:=1) (q:=[.c (.bool true)]) (rY (q.getD i default)) O (by rw [jW]) O O O O (by omega) (fun _=>O) (by decide) O O ?_;refine ql ?_;intros;exact sW (m':=m-1) (by omega) ⟨i+1,q.set i (rY (q.getD i default)),by omega,by rw [jG];exact hq,aU hq2 (show jE w _ from (hq2 (q.getD i default) (qn (l:=q) (i:=i) (by omega)):jE w (q.getD i default))),rfl,rfl,rfl⟩ xp
 ·refine ql ?_;intros;exact qb ⟨_,O,O,_,qg O (qg O (qg O (qv _))),q,hq,hq2,by rw [hq];rfl,rfl,rfl⟩
theorem NU{n:Nat}(hn:n<1000):(ze n).length<=4:=by
 have h:(List.range 1000).all (fun n=>decide ((ze n).length<=4))=true:=by kernel_rfl
 exact xo (wA.1 h n (jF.2 hn))
theorem BV{l:List Int}(hl:l.length<=5)(hv:∀v∈l,0<=v/\v<=999):DK 29 [x7 l] fun d=>∃c:List Int,d=qq c/\c.length<=22/\∀x∈c,1<=x/\x<=63:=by
 refine jY ?_;intros;refine qN (fun m E S nk=>∃(i:Nat) (c:List Int),i+m=l.length/\c.length<=2+4*i/\(∀x∈c,1<=x/\x<=63)/\E=[(0,x7 l),(3,.one (.own 0 0 c.length 1)),(4,.int i)]/\S=[(0,.data (c.flatMap qU))]/\nk=1) (l.length) ⟨0,[63,63],by omega,by simp,by decide,rfl,rfl,rfl⟩ ?_;rintro m E S nk ⟨i,c,hm,hc,hcc,rfl,rfl,rfl⟩;refine ql ?_;intros;refine qh O (fun h=>?_) (fun h=>?_)
 ·have hx:=hv _ (qn (l:=l) (i:=i) oM);have hnl:=NU (n:=(l.getD i default).toNat) oM;refine ql ?_;intros;refine Zh O O (Ka oM oM) ?_;intros;exact qG ⟨i+1,c++ze (l.getD i default).toNat,by omega,by simp only [qE];omega,fun x hx=>(xu.1 hx).elim (hcc x) (kT x),rfl,rfl,rfl⟩
 ·refine ql ?_;intros;exact qP 2 O O ⟨_,O,O,c,O,oM,hcc⟩
theorem dO{L:List (List Int)}{w:Nat}{ns:List Int}(hw:24<=w/\w<=60)(hL:L.length<999)(hLe:∀l∈L,l.length<100000)(hLc:∀l∈L,qA l)(hn:1<=ns.length/\ns.length<=4)(hv:∀v∈ns,0<=v/\v<=999):jg 47 [qW L,.int w,x7 ns] fun d S nk=>∃(q:List RowL) (e:Int),q.length<=L.length+1/\(∀r∈q,jE w r)/\d=fW 0 q.length 0 e/\S=[(0,.data (q.flatMap zr))]/\nk=2:=by
 refine wv fun Z0 lo=>?_;refine ql ?_;intros;refine Zd (l:=ns) (a:=1) (b:=ns.length) O O O oM (qz _) O (fun _=>by rfl) ?_;have hdl:((ns.take ns.length).drop 1).length=ns.length-1:=sM;have hmem:∀v∈[ns.getD 0 default,(L.length:Int)]++(ns.take ns.length).drop 1,0<=v/\v<=999:=fun v hm=>by
  rcases xu.1 hm with hm|hm
  ·rcases zd.1 hm with rfl|hm
   ·exact hv _ (qn oM)
   ·rw [xM.1 hm];omega
  ·exact hv v (nQ (Cg hm))
 refine ql ?_;intros;refine zn (f:=yL) (l:=[ns.getD 0 default,(L.length:Int)]) ((ns.take ns.length).drop 1) O O O ⟨O,O,O⟩ O O oM oM qr (fun _=>O) O ?_;refine ql ?_;intros;refine qY 2 O Ql Ql ?_;refine qf O O (BV (by rw [qE,hdl];simp;omega) hmem) ?_;rintro _ ⟨c,rfl,hc,hcc⟩;refine ql ?_;intros;refine qN (fun m E S nk=>∃(i:Nat) (q:List RowL),i+m=L.length/\q.length=i+1/\(∀r∈q,jE w r)/\E=[(0,qW L),(1,.int w),(6,.one (.ptr 0 0)),(8,.one (.ptr 2 0)),(9,.int i)]/\S=[(0,wx),(1,.data (q.flatMap zr)),(2,.cells [.own 1 0 q.length 5,.f (.c (.int .i64 0)),.f (.c (.int .i64 0))])]/\nk=3) (L.length) ⟨0,[⟨c,false,0,0, -1⟩],by omega,rfl,fun r hr=>(by rw [xM.1 hr];exact⟨by show c.length<=w;omega,.pos hcc,Ky _,Ky _,by show (0:Int)<=9999;decide⟩),rfl,rfl,rfl⟩ ?_;rintro m E S nk ⟨i,q,hm,hq,hq2,rfl,rfl,rfl⟩;refine ql ?_;intros;refine qh O (fun h=>?_) (fun h=>?_)
 ·have hli:=hLe _ (qn (l:=L) (i:=i) oM);have hlc:=hLc _ (qn (l:=L) (i:=i) oM);refine ql ?_;intros;refine qf O O (Oh hli) ?_;rintro _ ⟨n,hnl,rfl,hnz⟩;refine ql ?_;intros;refine qh O (fun g=>?_) (fun g=>?_)
  ·refine ql ?_;intros;refine yG 0 0 5 O O ?_;refine yF (E0:=[(6,.one (.ptr 1 0))]) (S0:=[(0,.data (([]:List RowL).flatMap zr)),(1,.cells [.own 0 0 0 5,.f (.c (.int .i64 0)),.f (.c (.int .i64 181))])]) (n0:=2) xp ?_;exact qb ⟨_,O,O,_,qg O (qv _),[],181,by simp,fun r hr=>(by cases hr),rfl,rfl,rfl⟩
  ·refine ql ?_;intros;refine Ze (a:=⟨(L.getD i default).take n,false,0,0, -1⟩) O O O ⟨O,O,_,O,O⟩ fG wY wY qr (fun _=>O) O ?_;refine ql ?_;intros;exact qM (m':=m-1) (by omega) ⟨i+1,q++[⟨(L.getD i default).take n,false,0,0, -1⟩],by omega,by simp;omega,(fun r hr=>by
    rcases xu.1 hr with h1|h1
    ·exact hq2 r h1
    ·rw [xM.1 h1];exact⟨by show ((L.getD i default).take n).length<=w;omega,.trim hlc hnl hnz,Ky _,Ky _,by show (0:Int)<=9999;decide⟩),rfl,rfl,rfl⟩ xp
 ·refine ql ?_;intros;refine O3 (E0:=[(48,fW 0 q.length 0 0),(6,.one (.ptr 1 0)),(8,.one (.ptr 2 0))]) (S0:=[(0,.data (q.flatMap zr)),(1,wx),(2,.cells [.own 0 0 q.length 5,.f (.c (.int .i64 0)),.f (.c (.int .i64 0))])]) (n0:=3) xp ?_;refine iL O O O (C5 oM hq2 _ _ _ _ _) ?_;rintro _ _ _ ⟨q',hq',hq2',rfl,rfl,rfl⟩;refine ql ?_;intros;refine QU (f:=zr) (e:=5) (i:=q'.length-1) (c:=1) (q:=[.c (.bool false)]) { q'.getD (q'.length-1) default with keep:=false } O oM O O O O oM (fun _=>O) qr O O ?_
  refine ql ?_;intros;refine yF (E0:=[(6,.one (.ptr 1 0))]) (S0:=[(0,.data ((q'.set (q'.length-1) { q'.getD (q'.length-1) default with keep:=false }).flatMap zr)),(1,.cells [.own 0 0 q'.length 5,.f (.c (.int .i64 0)),.f (.c (.int .i64 0))])]) (n0:=2) xp ?_
  exact qb ⟨_,O,O,_,qg O (qv _),q'.set (q'.length-1) { q'.getD (q'.length-1) default with keep:=false },0,by rw [jG];omega,aU hq2' (show jE w _ from (hq2' (q'.getD (q'.length-1) default) (qn (by omega)):jE w (q'.getD (q'.length-1) default))),by rw [jG];rfl,rfl,rfl⟩
def Cy(r:List (List Int)):List FD:=[.sl 1 r.length (r.flatMap ja)]
abbrev kD(L:List (List (List Int))):DV:=.one (.f (.sl 1 L.length (L.flatMap Cy)))
structure TabC (L:List (List (List Int))) (C:Nat):Prop where
 r0:0<L.length
 r:L.length<=3
 c0:0<C
 c:C<=3
 row:∀r∈L,r.length=C
 cell:∀r∈L,∀x∈r,x.length<100/\qA x
theorem Ad{L:List (List (List Int))}{C:Nat}(h:TabC L C):DK 103 [kD L] fun d=>d=.bool true:=by
 have h1:=h.r0;have h2:=h.r;have h3:=h.c0;have h4:=h.c;have h5:=h.row _ (qn (l:=L) (i:=0) h1);refine va fun Z0 lo=>?_;have hh:¬(((L.getD 0 default).length:Int)<1):=oM;have hh2:¬(((L.getD 0 default).length:Int)>4):=oM;refine ql ?_;intros;refine qN (fun m E S nk=>∃i:Nat,i+m=L.length/\E=[(0,kD L),(3,.int i)]/\S=[]/\nk=0) (L.length) ⟨0,oM,O,O,O⟩ ?_;rintro m E S nk ⟨i,hm,rfl,rfl,rfl⟩;refine ql ?_;intros;refine qh O (fun g=>?_) (fun g=>?_)
 ·have h6:=h.row _ (qn (l:=L) (i:=i) oM);have h7:((L.getD i default).length:Int)=(L.getD 0 default).length:=oM;refine ql ?_;intros;exact qG ⟨i+1,oM,O,O,O⟩
 ·exact Mj
theorem P5{l:List Int}(hl:l.length<60000):DK 104 [qq l] fun d=>∃b:Bool,d=.bool b:=by
 refine va fun Z0 lo=>?_;by_cases h0:l.length=0
 ·refine ql ?_;intros;exact qb ⟨_,O,O,_,O⟩
 ·skip
  refine ql ?_;intros;refine zH O (fun g=>?_) (fun g=>?_)
  ·refine ql ?_;intros;exact qb ⟨_,O,O,_,O⟩
  ·refine ql ?_;intros;refine qX O (fun g2=>?_) (fun g2=>?_)
   ·refine ql ?_;intros;exact qb ⟨_,O,O,_,O⟩
   ·refine ql ?_;intros;refine qN (fun m E S nk=>∃i:Nat,i+m=l.length/\E=[(0,qq l),(3,.int i)]/\S=[]/\nk=0) (l.length) ⟨0,oM,O,O,O⟩ ?_;rintro m E S nk ⟨i,hm,rfl,rfl,rfl⟩
    (refine ql ?_;intros;first|(first|exact qb ⟨_,O,O,_,O⟩|exact qM (m':=m-1) oM ⟨i+1,oM,O,O,O⟩ xp)|((first|refine qh O (fun _=>?_) (fun _=>?_)|refine qX O (fun _=>?_) (fun _=>?_)|refine xw O (fun _=>?_) (fun _=>?_)|refine qd O (fun _=>?_) (fun _=>?_)|refine xT O (fun _=>?_) (fun _=>?_)|refine zH O (fun _=>?_) (fun _=>?_)|refine yf O (fun _=>?_) (fun _=>?_)|refine xG O (fun _=>?_) (fun _=>?_))<;>(refine ql ?_;intros;first|(first|exact qb ⟨_,O,O,_,O⟩|exact qM (m':=m-1) oM ⟨i+1,oM,O,O,O⟩ xp)|((first|refine qh O (fun _=>?_) (fun _=>?_)|refine qX O (fun _=>?_) (fun _=>?_)|refine xw O (fun _=>?_) (fun _=>?_)|refine qd O (fun _=>?_) (fun _=>?_)|refine xT O (fun _=>?_) (fun _=>?_)|refine zH O (fun _=>?_) (fun _=>?_)|refine yf O (fun _=>?_) (fun _=>?_)|refine xG O (fun _=>?_) (fun _=>?_))<;>(refine ql ?_;intros;first|(first|exact qb ⟨_,O,O,_,O⟩|exact qM (m':=m-1) oM ⟨i+1,oM,O,O,O⟩ xp)|((first|refine qh O (fun _=>?_) (fun _=>?_)|refine qX O (fun _=>?_) (fun _=>?_)|refine xw O (fun _=>?_) (fun _=>?_)|refine qd O (fun _=>?_) (fun _=>?_)|refine xT O (fun _=>?_) (fun _=>?_)|refine zH O (fun _=>?_) (fun _=>?_)|refine yf O (fun _=>?_) (fun _=>?_)|refine xG O (fun _=>?_) (fun _=>?_))<;>(refine ql ?_;intros;first|(first|exact qb ⟨_,O,O,_,O⟩|exact qM (m':=m-1) oM ⟨i+1,oM,O,O,O⟩ xp)|((first|refine qh O (fun _=>?_) (fun _=>?_)|refine qX O (fun _=>?_) (fun _=>?_)|refine xw O (fun _=>?_) (fun _=>?_)|refine qd O (fun _=>?_) (fun _=>?_)|refine xT O (fun _=>?_) (fun _=>?_)|refine zH O (fun _=>?_) (fun _=>?_)|refine yf O (fun _=>?_) (fun _=>?_)|refine xG O (fun _=>?_) (fun _=>?_))<;>(refine ql ?_;intros;first|(first|exact qb ⟨_,O,O,_,O⟩|exact qM (m':=m-1) oM ⟨i+1,oM,O,O,O⟩ xp)|((first|refine qh O (fun _=>?_) (fun _=>?_)|refine qX O (fun _=>?_) (fun _=>?_)|refine xw O (fun _=>?_) (fun _=>?_)|refine qd O (fun _=>?_) (fun _=>?_)|refine xT O (fun _=>?_) (fun _=>?_)|refine zH O (fun _=>?_) (fun _=>?_)|refine yf O (fun _=>?_) (fun _=>?_)|refine xG O (fun _=>?_) (fun _=>?_))<;>(refine ql ?_;intros;first|(first|exact qb ⟨_,O,O,_,O⟩|exact qM (m':=m-1) oM ⟨i+1,oM,O,O,O⟩ xp)|((first|refine qh O (fun _=>?_) (fun _=>?_)|refine qX O (fun _=>?_) (fun _=>?_)|refine xw O (fun _=>?_) (fun _=>?_)|refine qd O (fun _=>?_) (fun _=>?_)|refine xT O (fun _=>?_) (fun _=>?_)|refine zH O (fun _=>?_) (fun _=>?_)|refine yf O (fun _=>?_) (fun _=>?_)|refine xG O (fun _=>?_) (fun _=>?_))<;>(refine ql ?_;intros;first|(first|exact qb ⟨_,O,O,_,O⟩|exact qM (m':=m-1) oM ⟨i+1,oM,O,O,O⟩ xp)|((first|refine qh O (fun _=>?_) (fun _=>?_)|refine qX O (fun _=>?_) (fun _=>?_)|refine xw O (fun _=>?_) (fun _=>?_)|refine qd O (fun _=>?_) (fun _=>?_)|refine xT O (fun _=>?_) (fun _=>?_)|refine zH O (fun _=>?_) (fun _=>?_)|refine yf O (fun _=>?_) (fun _=>?_)|refine xG O (fun _=>?_) (fun _=>?_))<;>(first|exact qb ⟨_,O,O,_,O⟩|exact qM (m':=m-1) oM ⟨i+1,oM,O,O,O⟩ xp)))))))))))))))
theorem C9{L:List (List Int)}(hl:L.length<1000)(hc:∀x∈L,x.length<100000):DK 108 [qW L] fun d=>∃n:Nat,d=.int n:=by
 refine jY ?_;intros;refine qN (fun m E S nk=>∃i n:Nat,i+m=L.length/\E=[(0,qW L),(3,.int n),(4,.int i)]/\S=[]/\nk=0) (L.length) ⟨0,0,oM,O,O,O⟩ ?_;rintro m E S nk ⟨i,n,hm,rfl,rfl,rfl⟩;refine ql ?_;intros;refine qh O (fun g=>?_) (fun g=>?_)
 ·have h6:=hc _ (qn (l:=L) (i:=i) oM);refine ql ?_;intros;exact qG ⟨i+1,max n (L.getD i default).length,oM,O,O,O⟩
 ·refine ql ?_;intros;exact qb ⟨_,O,O,n,O⟩
theorem i6{v:Int}{l:List Int}(hn:v<200000)(hl:l.length<100000):DK 154 [.int v,qq l] fun d=>d=qq (List.replicate v.toNat 0++l):=by
 refine jY ?_;intros;rw [show max v 0=(v.toNat:Int) by omega];refine ql ?_;intros;exact qP 4 O O ⟨_,O,O,O⟩
theorem P8{v:Int}(hn:v<200000):DK 154 [.int v,.one (.f (.c .nils))] fun d=>d=qq (List.replicate v.toNat 0++[]):=BB (ds:=[.int v,qq []]) ⟨NilF.refl _,NilF.nil 1,trivial⟩ (i6 hn qr)
theorem TabC.at{L:List (List (List Int))}{C i k:Nat}(h:TabC L C)(hi:i<L.length)(hk:k<C):(L.getD i default).length=C/\((L.getD i default).getD k default).length<100/\qA ((L.getD i default).getD k default):=by
 have h6:=h.row _ (qn (l:=L) (i:=i) hi);exact⟨h6,h.cell _ (qn (l:=L) (i:=i) hi) _ (qn oM)⟩
def kI(q:List (List Int)):Prop:=∀x∈q,x.length<1000/\qA x
theorem kI.nil:kI []:=fun _ h=>by cases h
theorem kI.app{q r:List (List Int)}(h:kI q)(h2:kI r):kI (q++r):=fun x hx=>(xu.1 hx).elim (h x) (h2 x)
theorem kI.one{x:List Int}(h:x.length<1000)(h2:qA x):kI [x]:=fun y hy=>by rw [xM.1 hy];exact⟨h,h2⟩
theorem Kq.all{a b w:Nat}:∀{L:List (List Int)},Kq a b w L->w<1000->kI L
 |x::r,h,hw=>fun y hy=>by
  rcases zd.1 hy with rfl|hy
  ·exact⟨by have:=h.1.le;omega,h.1.cell⟩
  ·exact⟨by have:=(h.2 y hy).le;omega,(h.2 y hy).cell⟩
theorem IQ{L:List (List (List Int))}{C:Nat}(h:TabC L C):DK 107 [kD L] fun d=>∃q:List (List Int),d=qW q/\q.length<=32/\kI q:=by
 have h2:=h.r;have h4:=h.c;refine jY ?_;intros;refine qN (fun m E S nk=>∃(i:Nat) (q:List (List Int)),i+m=L.length/\q.length<=4*i/\kI q/\E=[(0,kD L),(3,.one (.own 0 0 q.length 1)),(4,.int i)]/\S=[(0,.data (q.flatMap ja))]/\nk=1) (L.length) ⟨0,[],by omega,by simp,.nil,rfl,rfl,rfl⟩ ?_;rintro m E S nk ⟨i,q,hm,hq,hq2,rfl,rfl,rfl⟩;refine ql ?_;intros;refine qh O (fun g=>?_) (fun g=>?_)
 ·have h6:=h.row _ (qn (l:=L) (i:=i) oM);refine ql ?_;intros;refine qN (fun m E S nk=>∃(k:Nat) (r:List (List Int)),k+m=C/\r.length<=4*i+k/\kI r/\E=[(0,kD L),(3,.one (.own 0 0 r.length 1)),(4,.int i),(5,.int k)]/\S=[(0,.data (r.flatMap ja))]/\nk=1) C ⟨0,q,oM,oM,hq2,O,O,O⟩ ?_;rintro m2 E S nk ⟨k,r,hm2,hr,hr2,rfl,rfl,rfl⟩;have h7:((L.getD i default).length:Int)=C:=oM;refine ql ?_;intros;refine qh O (fun g2=>?_) (fun g2=>?_)
  ·obtain⟨h8,h9,h10⟩:=h.at (i:=i) (k:=k) oM oM;refine ql ?_;intros;refine Zh O O (i6 oM oM) ?_;intros;exact qG ⟨k+1,r++[List.replicate (2*(k:Int)).toNat 0++(L.getD i default).getD k default],by omega,by simp;omega,hr2.app (.one (by rw [qE,xN];omega) (.app .rep h10)),rfl,rfl,rfl⟩
  ·refine ql ?_;intros;exact qG ⟨i+1,r,oM,oM,hr2,O,O,O⟩
 ·refine ql ?_;intros;exact qP 2 O O ⟨_,O,O,q,O,oM,hq2⟩
theorem PK{L:List (List (List Int))}{C:Nat}(h:TabC L C):DK 105 [kD L] fun d=>∃n:Nat,d=.int n:=by
 have h1:=h.r0;have h2:=h.r;have h3:=h.c0;have h4:=h.c;have h5:=h.row _ (qn (l:=L) (i:=0) h1);have h6:((L.getD 0 default).length:Int)<=3:=oM;have h7:1<=((L.getD 0 default).length:Int):=oM;refine xr ?_;intros;refine qN (fun m E S nk=>∃(k n:Nat),k+m=C/\n<=10+60000*k/\E=[(0,kD L),(3,.int n),(4,.int k)]/\S=[]/\nk=0) C ⟨0,2*((L.getD 0 default).length-1),oM,oM,O,O,O⟩ ?_;rintro m E S nk ⟨k,n,hm,hn,rfl,rfl,rfl⟩;refine qc ?_;intros;refine qh O (fun g=>?_) (fun g=>?_)
 ·refine qc ?_;intros;refine qN (fun m E S nk=>∃(j w:Nat),j+m=L.length/\w<=60000/\E=[(0,kD L),(3,.int n),(4,.int k),(5,.int w),(6,.int j)]/\S=[]/\nk=0) (L.length) ⟨0,0,oM,oM,O,O,O⟩ ?_;rintro m2 E S nk ⟨j,w,hm2,hw,rfl,rfl,rfl⟩;refine qc ?_;intros;refine qh O (fun g2=>?_) (fun g2=>?_)
  ·obtain⟨h8,h9, -⟩:=h.at (i:=j) (k:=k) oM oM;refine qc ?_;intros;exact qG ⟨j+1,max w ((L.getD j default).getD k default).length,oM,oM,O,O,O⟩
  ·refine qc ?_;intros;exact qG ⟨k+1,n+w,oM,oM,O,O,O⟩
 ·refine qc ?_;intros;exact qb ⟨_,O,O,n,O⟩
theorem DE{L:List (List (List Int))}{C:Nat}(h:TabC L C):DK 106 [kD L] fun d=>∃q:List (List Int),d=qW q/\q.length<=32/\kI q:=by
 have h1:=h.r0;have h2:=h.r;have h3:=h.c0;have h4:=h.c;have h5:=h.row _ (qn (l:=L) (i:=0) h1);refine xr ?_;intros;refine qN (fun m E S nk=>∃(i:Nat) (q:List (List Int)),i+m=L.length/\q.length=i/\kI q/\E=[(0,kD L),(3,.one (.own 0 0 q.length 1)),(4,.int (L.getD 0 default).length),(5,.int i)]/\S=[(0,.data (q.flatMap ja))]/\nk=1) (L.length) ⟨0,[],by omega,by simp,.nil,rfl,rfl,rfl⟩ ?_;rintro m E S nk ⟨i,q,hm,hq,hq2,rfl,rfl,rfl⟩;refine qc ?_;intros;refine qh O (fun g=>?_) (fun g=>?_)
 ·refine qc ?_;intros;refine qN (fun m E S nk=>∃(k:Nat) (x:List Int),k+m=C/\x.length<=102*k/\qA x/\E=[(0,kD L),(3,.one (.own 0 0 q.length 1)),(4,.int (L.getD 0 default).length),(5,.int i),(6,.one (.own 1 0 x.length 1)),(7,.int k)]/\S=[(0,.data (q.flatMap ja)),(1,.data (x.flatMap qU))]/\nk=2) C ⟨0,[],by omega,by simp,fun c hc=>(by cases hc),rfl,rfl,rfl⟩ ?_;rintro m2 E S nk ⟨k,x,hm2,hx,hx2,rfl,rfl,rfl⟩;refine qc ?_;intros;refine qh O (fun g2=>?_) (fun g2=>?_)
  ·refine qc ?_;intros;refine qN (fun m E S nk=>∃(j w:Nat),j+m=L.length/\w<=100/\(∀a,a<j->((L.getD a default).getD k default).length<=w)/\E=[(0,kD L),(3,.one (.own 0 0 q.length 1)),(4,.int (L.getD 0 default).length),(5,.int i),(6,.one (.own 1 0 x.length 1)),(7,.int k),(8,.int w),(9,.int j)]/\S=[(0,.data (q.flatMap ja)),(1,.data (x.flatMap qU))]/\nk=2) (L.length) ⟨0,0,oM,oM,fun a ha=>absurd ha oM,O,O,O⟩ ?_;rintro m3 E S nk ⟨j,w,hm3,hw,hw2,rfl,rfl,rfl⟩;refine qc ?_;intros;refine qh O (fun g3=>?_) (fun g3=>?_)
   ·obtain⟨h8,h9, -⟩:=h.at (i:=j) (k:=k) oM oM;refine qc ?_;intros;exact qM (m':=m3-1) oM ⟨j+1,max w ((L.getD j default).getD k default).length,oM,oM,fun a ha=>(by
     rcases bD a j with h11|h11
     ·have:=hw2 a h11;omega
     ·obtain rfl:a=j:=by omega
      omega),O,O,O⟩ xp
   ·obtain⟨h8,h9,h10⟩:=h.at (i:=i) (k:=k) oM oM;have h11:=hw2 i oM;refine qc ?_;intros;refine qh O (fun g4=>?_) (fun g4=>?_)
    ·refine qc ?_;intros;refine qS O O (P8 oM) ?_;intros;exact qG ⟨k+1,x++(L.getD i default).getD k default++(List.replicate ((w:Int)-((L.getD i default).getD k default).length+2).toNat 0++[]),oM,wY,(hx2.app h10).app (.app .rep fun c hc=>by cases hc),O,O,O⟩
    ·refine qc ?_;intros;exact qG ⟨k+1,x++(L.getD i default).getD k default,oM,wY,hx2.app h10,O,O,O⟩
  ·refine qF 1 O Ql Ql ?_;refine qc ?_;intros;exact qG ⟨i+1,q++[x],by omega,by simp;omega,hq2.app (.one (by omega) hx2),rfl,rfl,rfl⟩
 ·refine qc ?_;intros;exact qP 2 O O ⟨_,O,O,q,O,oM,hq2⟩
theorem Al{l:List Int}{width:Nat}{x y:Int}{a b:Nat}(hx:x=a)(hy:y=b)(hl:l.length<100000)(hc:∀c∈l,0<=c)(hw:24<=width/\width<=60)(ha:a<=16)(hb:b<=16):DK 84 [qq l,.int width,.agg [.f (FD.int x),.f (FD.int y)]] fun d=>∃(L:List (List Int)) (at_ e:Int),d=QN L at_ e/\L.length<=l.length+2/\(e≠0->L=[])/\(e=0->Kq a b width L):=by
 subst hx hy;exact F6 hl hc hw ha hb
theorem U6{L:List (List (List Int))}{C w:Nat}(h:TabC L C)(hw:24<=w/\w<=60):DK 109 [kD L,.int w] fun d=>∃(q:List (List Int)) (b:Bool),d=.tup [qW q,.bool b]/\q.length<999/\kI q:=by
 have h1:=h.r0;have h2:=h.r;have h3:=h.c0;have h4:=h.c;refine wj ?_;refine jY ?_;intros;refine qN (fun m E S nk=>∃(i:Nat) (q:List (List Int)),i+m=L.length/\q.length<=306*i/\kI q/\E=[(0,kD L),(1,.int w),(6,.one (.own 0 0 q.length 1)),(7,.int i)]/\S=[(0,.data (q.flatMap ja))]/\nk=1) (L.length) ⟨0,[],by omega,by simp,.nil,rfl,rfl,rfl⟩ ?_;rintro m E S nk ⟨i,q,hm,hq,hq2,rfl,rfl,rfl⟩;refine ql ?_;intros;refine qh O (fun g=>?_) (fun g=>?_)
 ·have h6:=h.row _ (qn (l:=L) (i:=i) oM);refine ql ?_;intros;refine qN (fun m E S nk=>∃(k:Nat) (r:List (List Int)),k+m=C/\r.length<=306*i+102*k/\kI r/\E=[(0,kD L),(1,.int w),(6,.one (.own 0 0 r.length 1)),(7,.int i),(8,.int k)]/\S=[(0,.data (r.flatMap ja))]/\nk=1) C ⟨0,q,oM,oM,hq2,O,O,O⟩ ?_;rintro m2 E S nk ⟨k,r,hm2,hr,hr2,rfl,rfl,rfl⟩;refine ql ?_;intros;refine qh O (fun g2=>?_) (fun g2=>?_)
  ·obtain⟨h8,h9,h10⟩:=h.at (i:=i) (k:=k) oM oM;refine ql ?_;intros;refine qf O O (Al (a:=4*k) (b:=4*k+2) oM oM oM (fun c hc=>(h10 c hc).1) hw oM oM) ?_;rintro _ ⟨B,at_,e,rfl,hB,hBe,hB0⟩;refine ql ?_;intros;refine xw O (fun g3=>?_) (fun g3=>?_)
   ·refine ql ?_;intros;exact qb ⟨_,O,O,.tup [qW [],.bool false],nv,[],false,O,by simp,.nil⟩
   ·refine ql ?_;intros;exact qG ⟨k+1,r++B,by omega,by simp;omega,hr2.app ((hB0 g3).all (by omega)),rfl,rfl,rfl⟩
  ·refine ql ?_;intros;exact qG ⟨i+1,r,oM,oM,hr2,O,O,O⟩
 ·refine ql ?_;intros;exact yV 4 5 O O O ⟨_,O,O,.tup [qW q,.bool true],nv,q,true,O,oM,hq2⟩
theorem Hk{L:List (List (List Int))}{C w:Nat}(h:TabC L C)(hw:24<=w/\w<=60):DK 79 [kD L,.int w] fun d=>∃(q:List (List Int)) (f e:Int),d=QN q f e/\q.length<999/\kI q/\0<=f/\f<=3:=by
 have h1:=h.r0;have h2:=h.r;have h3:=h.c0;have h4:=h.c;refine wj ?_;refine jY ?_;intros;refine Zh O O (Ad h) ?_;intros;refine qN (fun m E S nk=>∃(i:Nat),i+m=L.length/\E=[(0,kD L),(1,.int w),(4,.one (.ptr 0 0)),(5,.int i)]/\S=[(0,.cells [.f (.c .nils),.f (FD.int 0),.f (FD.int 0)])]/\nk=1) (L.length) ⟨0,oM,O,O,O⟩ ?_;rintro m E S nk ⟨i,hm,rfl,rfl,rfl⟩;refine ql ?_;intros;refine qh O (fun g=>?_) (fun g=>?_)
 ·have h6:=h.row _ (qn (l:=L) (i:=i) oM);refine ql ?_;intros;refine qN (fun m E S nk=>∃(k:Nat),k+m=C/\E=[(0,kD L),(1,.int w),(4,.one (.ptr 0 0)),(5,.int i),(6,.int k)]/\S=[(0,.cells [.f (.c .nils),.f (FD.int 0),.f (FD.int 0)])]/\nk=1) C ⟨0,oM,O,O,O⟩ ?_;rintro m2 E S nk ⟨k,hm2,rfl,rfl,rfl⟩;refine ql ?_;intros;refine qh O (fun g2=>?_) (fun g2=>?_)
  ·obtain⟨h8,h9,h10⟩:=h.at (i:=i) (k:=k) oM oM;refine ql ?_;intros;refine qf O O (P5 oM) ?_;rintro _ ⟨b,rfl⟩;refine ql ?_;intros;refine qd O (fun g3=>?_) (fun g3=>?_)
   ·refine ql ?_;intros;exact qb ⟨_,O,O,QN [] 0 180,nv,[],0,180,O,by simp,.nil,by omega,by omega⟩
   ·refine ql ?_;intros;exact qG ⟨k+1,oM,O,O,O⟩
  ·refine ql ?_;intros;exact qG ⟨i+1,oM,O,O,O⟩
 ·refine ql ?_;intros;refine qf O O (PK h) ?_;rintro _ ⟨n,rfl⟩;refine ql ?_;intros;refine qh O (fun g=>?_) (fun g=>?_)
  ·refine ql ?_;intros;refine qf O O (DE h) ?_;rintro _ ⟨q,rfl,hq,hq2⟩;refine ql ?_;intros;exact qb ⟨_,O,O,QN q 1 0,nv,q,1,0,O,oM,hq2,oM,oM⟩
  ·refine ql ?_;intros;refine qf O O (IQ h) ?_;rintro _ ⟨q,rfl,hq,hq2⟩;refine ql ?_;intros;refine qf O O (C9 oM (fun x hx=>by have:=(hq2 x hx).1;omega)) ?_;rintro _ ⟨n2,rfl⟩;refine ql ?_;intros;refine qh O (fun g2=>?_) (fun g2=>?_)
   ·refine ql ?_;intros;exact qb ⟨_,O,O,QN q 2 0,nv,q,2,0,O,oM,hq2,oM,oM⟩
   ·refine ql ?_;intros;refine qf O O (U6 h hw) ?_;rintro _ ⟨q3,b,rfl,hq3,hq4⟩;refine ql ?_;intros;refine qd O (fun g3=>?_) (fun g3=>?_)
    ·refine ql ?_;intros;exact qb ⟨_,O,O,QN [] 0 181,nv,[],0,181,O,by simp,.nil,by omega,by omega⟩
    ·refine ql ?_;intros;exact qb ⟨_,O,O,QN q3 3 0,nv,q3,3,0,O,oM,hq4,oM,oM⟩
end Go.Ai
