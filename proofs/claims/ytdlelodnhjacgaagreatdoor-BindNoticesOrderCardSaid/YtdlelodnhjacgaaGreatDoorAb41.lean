/- -/
import Derived.Test.YtdlelodnhjacgaaGreatDoorAb38
set_option linter.unusedSimpArgs false
set_option linter.unusedVariables false
set_option maxRecDepth 8000
set_option maxHeartbeats 16000000
namespace Go.Ai
open Go.Ab Go.Proofs
abbrev SJ(v:VolL)(w ink:Nat):List DC:=[.f (.c (.int .i64 v.first)),.f (.c (.int .i64 v.stop)),.f (.sl 5 v.rows.length (v.rows.flatMap zr)),.f (.sl 1 v.ends.length (v.ends.flatMap yL)),.f (.sl 2 v.labs.length (v.labs.flatMap uP)),.f (FD.int w),.f (FD.int ink)]
structure EdPg (w h i:Nat) (has:Prop) (p:qV):Prop where
 ok:PgOk w h p
 hd:has->∃ink part:Nat,p.head?=some (zy w (i/2+1) 0 (((i % 2:Nat):Int)==1) ink part)/\ink<=9999/\part<=26/\(ink=0->part=0)
 no:¬has->p=[]
abbrev lF(v:VolL)(w h ink:Nat):Prop:=∀{i:Nat},i<100000->DK 97 [.agg (SJ v w ink),.int i] fun d=>∃p:qV,d=qW p/\EdPg w h i (i<v.ends.length) p
structure LfL where
 lab:Int
 front:qV
 back:qV
 deriving Inhabited
def Nf(l:LfL):List FD:=[.c (.int .i64 l.lab),.c (.int .i64 0),Vi l.front,Vi l.back]
abbrev HT(l:List LfL):DV:=.one (.f (.sl 4 l.length (l.flatMap Nf)))
structure LvOk (w h:Nat) (l:List LfL):Prop where
 len:l.length<=5001
 lf:∀i,i<l.length->(l.getD i default).lab=(i+1:Nat)/\EdPg w h (2*i) True (l.getD i default).front/\∃b:Prop,EdPg w h (2*i+1) b (l.getD i default).back
theorem EdPg.of{w h i:Nat}{has:Prop}{p:qV}(hp:EdPg w h i has p)(h0:has):EdPg w h i True p:=⟨hp.ok,fun _=>hp.hd h0,fun h=>absurd trivial h⟩
theorem LvOk.push{w h:Nat}{l:List LfL}(hl:LvOk w h l)(hn:l.length<=5000){x:LfL}{has:Prop}(h1:x.lab=(l.length+1:Nat))(h2:EdPg w h (2*l.length) True x.front)(h3:EdPg w h (2*l.length+1) has x.back):LvOk w h (l++[x]):=by
 refine⟨by rw [qE];simp;omega,fun i hi=>?_⟩;rw [qE] at hi;rcases bD i l.length with h|h
 ·rw [Ym h];exact hl.lf i h
 ·have h4:i=l.length:=by simp at hi;omega
  rw [h4,uX];exact⟨h1,h2,has,h3⟩
theorem U5{v:VolL}{w h ink:Nat}(hv:VolOk w h v)(hP:lF v w h ink):DK 68 [.agg (SJ v w ink)] fun d=>∃l:List LfL,d=HT l/\LvOk w h l:=by
 have hrl:=hv.rl;have hel:=hv.el;have hll:=hv.ll;refine xr ?_;intros;refine qN (fun m E S nk=>∃(i:Nat) (l:List LfL),i+m=v.labs.length/\l.length=i/\LvOk w h l/\E=[(1,.one (.ptr 0 0)),(3,.one (.own 1 0 l.length 4)),(4,.int i)]/\S=[(0,.cells (SJ v w ink)),(1,.data (l.flatMap Nf))]/\nk=2) (v.labs.length) ⟨0,[],by omega,rfl,⟨by simp,fun i hi=>(by cases hi)⟩,rfl,rfl,rfl⟩ ?_;rintro m E S nk ⟨i,l,hm,hl,hlo,rfl,rfl,rfl⟩;refine qc ?_;intros;refine qh O (fun g=>?_) (fun g=>?_)
 ·have hlab:=hv.lab i oM;refine qc ?_;intros;rw [hlab,show ((2:Int)*i)=((2*i:Nat):Int) by omega,show ((((2*i:Nat):Int))+1)=((2*i+1:Nat):Int) by omega];refine qf O O (hP (i:=2*i) oM) ?_;rintro _ ⟨p,rfl,hp⟩;refine qc ?_;intros;refine qf O O (hP (i:=2*i+1) oM) ?_;rintro _ ⟨q,rfl,hq⟩;refine qc ?_;intros;refine Wf O ?_;refine Ze (a:=(⟨((i+1:Nat):Int),p,q⟩:LfL)) O O O ⟨O,O,_,O,O⟩ fG wY wY qr (fun _=>O) O ?_;refine qc ?_;intros;exact qG ⟨i+1,l++[⟨((i+1:Nat):Int),p,q⟩],by omega,by simp;omega,hlo.push (by omega) (by rw [hl]) (by rw [hl];exact hp.of (by omega)) (by rw [hl];exact hq),rfl,rfl,rfl⟩
 ·refine qc ?_;intros;exact qP 2 O O ⟨_,O,O,l,O,hlo⟩
theorem IV{w h b v:Nat}{vs:List VolL}(hv:v<vs.length)(hvl:vs.length<=10)(hvo:∀v∈vs,VolOk w h v)(hP:∀v∈vs,∀{ink:Nat},ink<=9999->lF v w h ink):DK 36 [Dl w h b vs,.int v] fun d=>∃l:List LfL,d=HT l/\LvOk w h l:=by
 have hm:=qn (l:=vs) (i:=v) hv;refine xr ?_;intros;refine qf O O (Hl (w:=w) (h:=h) (v:=v) oM hvl hvo) ?_;rintro _ ⟨ink,rfl,hink⟩;refine qc ?_;intros;refine qf O O (U5 (v:=vs.getD v default) (ink:=ink) (hvo _ hm) (hP _ hm hink)) ?_;rintro _ ⟨l,rfl,hl⟩;refine qc ?_;intros;exact qb ⟨_,O,O,l,O,hl⟩
def Tl(l:List LfL):List FD:=[.sl 4 l.length (l.flatMap Nf)]
abbrev Pv(L:List (List LfL)):DV:=.one (.f (.sl 1 L.length (L.flatMap Tl)))
theorem Ia{w h b:Nat}{vs:List VolL}(hvl:vs.length<=10)(hvo:∀v∈vs,VolOk w h v)(hP:∀v∈vs,∀{ink:Nat},ink<=9999->lF v w h ink):DK 20 [Dl w h b vs] fun d=>∃L:List (List LfL),d=Pv L/\L.length=vs.length/\∀l∈L,LvOk w h l:=by
 refine xr ?_;intros;refine qN (fun m E S nk=>∃(i:Nat) (L:List (List LfL)),i+m=vs.length/\L.length=i/\(∀l∈L,LvOk w h l)/\E=[(1,.one (.ptr 0 0)),(3,.one (.own 1 0 L.length 1)),(4,.int i)]/\S=[(0,.cells [.f (FD.int w),.f (FD.int h),.f (FD.int b),.f (.sl 5 vs.length (vs.flatMap bF))]),(1,.data (L.flatMap Tl))]/\nk=2) (vs.length) ⟨0,[],oM,O,fun l hl=>(by cases hl),O,O,O⟩ ?_;rintro m E S nk ⟨i,L,hm,hL,hLo,rfl,rfl,rfl⟩;refine qc ?_;intros;refine qh O (fun g=>?_) (fun g=>?_)
 ·refine qc ?_;intros;refine qf O O (IV (w:=w) (h:=h) (b:=b) (v:=i) oM hvl hvo hP) ?_;rintro _ ⟨l,rfl,hl⟩;refine qc ?_;intros;exact qM (m':=m-1) (by omega) ⟨i+1,L++[l],by omega,by simp;omega,(fun x hx=>by
   rcases xu.1 hx with hx|hx
   ·exact hLo x hx
   ·rw [xM.1 hx];exact hl),rfl,rfl,rfl⟩ xp
 ·refine qc ?_;intros;exact qP 2 O O ⟨_,O,O,L,O,oM,hLo⟩
def Xe(w h:Nat)(f g:qV):Pq:=⟨(2*w:Nat),(3*h:Nat),QW (y8 (2*w) (3*h) f),QW ((y8 (2*w) (3*h) g).map List.reverse)⟩
abbrev OR(w h b:Nat):DV:=.agg [.f (FD.int w),.f (FD.int h),.f (FD.int b)]
theorem Xv(p:qV):Vi p=ku p:=by
 have:=Mr p;injection this with h1
 injection h1 with h2
 exact h2.symm
theorem BM{w h b:Nat}(hw:24<=w/\w<=60)(hh:4<=h/\h<=40){f g:qV}(hf:PgOk w h f)(hg:PgOk w h g){l1 l2:Int}:DK 24 [.agg [.f (.c (.int .i64 l1)),.f (.c (.int .i64 l2)),.f (Vi f),.f (Vi g)],OR w h b]
 fun d=>d=.tup [.agg ((we (Xe w h f g)).map .f),.int 0]:=by
 rw [Xv,Xv];exact PQ hw hh hf hg
theorem nZ{α:Type}[Inhabited α]{l:List α}{i:Nat}(h:i<l.length):l.take (i+1)=l.take i++[l.getD i default]:=by
 rw [Q5,zge h,qT,zge h];rfl
def Xu(w h:Nat)(l:List LfL):List Pq:=l.map fun x=>Xe w h x.front x.back
theorem IS{w h b:Nat}(hw:24<=w/\w<=60)(hh:4<=h/\h<=40){l:List LfL}(hl:LvOk w h l):DK 21 [HT l,OR w h b] fun d=>d=.one (jR (Xu w h l)):=by
 have hll:=hl.len;refine xr ?_;intros;refine qN (fun m E S nk=>∃(i:Nat) (q:List Pq),i+m=l.length/\q.length=i/\q=Xu w h (l.take i)/\E=[(0,HT l),(3,.one (.ptr 0 0)),(5,.one (.own 1 0 q.length 4)),(6,.int i)]/\S=[(0,.cells [.f (FD.int w),.f (FD.int h),.f (FD.int b)]),(1,.data (q.flatMap we))]/\nk=2) (l.length) ⟨0,[],oM,O,O,O,O,O⟩ ?_;rintro m E S nk ⟨i,q,hm,hql,hq,rfl,rfl,rfl⟩;refine qc ?_;intros;refine qh O (fun g=>?_) (fun g=>?_)
 ·obtain⟨h1,h2,c,h3⟩:=hl.lf i oM;refine qc ?_;intros;refine qS O O (BM (b:=b) hw hh h2.ok h3.ok) ?_;intros;exact qG ⟨i+1,q++[Xe w h (l.getD i default).front (l.getD i default).back],by omega,by simp;omega,(by rw [hq,nZ (l:=l) (by omega)];simp [Xu]),rfl,rfl,rfl⟩
 ·refine qc ?_;intros;refine qP 4 O O ⟨_,O,O,?_⟩;rw [Q9 (by omega)] at hq;rw [<-hq];rfl
def Tk(q:List Pq):List FD:=[.sl 4 q.length (q.flatMap we)]
abbrev Pm(P:List (List Pq)):DV:=.one (.f (.sl 1 P.length (P.flatMap Tk)))
theorem P7{w h b:Nat}(hw:24<=w/\w<=60)(hh:4<=h/\h<=40){vs:List VolL}(hvl:vs.length<=10)(hvo:∀v∈vs,VolOk w h v)(hP:∀v∈vs,∀{ink:Nat},ink<=9999->lF v w h ink):DK 8 [Dl w h b vs] fun d=>∃P:List (List Pq),d=Pm P/\P.length=vs.length/\∀q∈P,∃l,LvOk w h l/\q=Xu w h l:=by
 refine xr ?_;intros;refine qf O O (Ia (w:=w) (h:=h) (b:=b) hvl hvo hP) ?_;rintro _ ⟨L,rfl,hL,hLo⟩;refine qc ?_;intros;refine qN (fun m E S nk=>∃(i:Nat) (P:List (List Pq)),i+m=L.length/\P.length=i/\(∀q∈P,∃l,LvOk w h l/\q=Xu w h l)/\E=[(1,.one (.ptr 0 0)),(3,.one (.own 1 0 P.length 1)),(4,Pv L),(5,.int i)]/\S=[(0,.cells [.f (FD.int w),.f (FD.int h),.f (FD.int b),.f (.sl 5 vs.length (vs.flatMap bF))]),(1,.data (P.flatMap Tk))]/\nk=2) (L.length) ⟨0,[],oM,O,fun l hl=>(by cases hl),O,O,O⟩ ?_;rintro m E S nk ⟨i,P,hm,hPl,hPo,rfl,rfl,rfl⟩;refine qc ?_;intros;refine qh O (fun g=>?_) (fun g=>?_)
 ·have hl:=hLo _ (qn (l:=L) (i:=i) oM);refine qc ?_;intros;refine qS O O (IS (b:=b) hw hh hl) ?_;intros;exact qM (m':=m-1) (by omega) ⟨i+1,P++[Xu w h (L.getD i default)],by omega,by simp;omega,(fun x hx=>by
   rcases xu.1 hx with hx|hx
   ·exact hPo x hx
   ·rw [xM.1 hx];exact⟨_,hl,rfl⟩),rfl,rfl,rfl⟩ xp
 ·refine qc ?_;intros;exact qP 2 O O ⟨_,O,O,P,O,oM,hPo⟩
def Ug(p:Nat × Nat):List FD:=[.c (.int .i64 p.1),.c (.int .i64 p.2)]
abbrev Ng(l:List (Nat × Nat)):DV:=.one (.f (.sl 2 l.length (l.flatMap Ug)))
def JA(w h:Nat)(l:List (Nat × Nat)):List Pq:=l.map fun p=>Xe w h [zy w p.1 p.2 false 0 0] []
theorem PgOk.one{w h:Nat}{r:List Int}(hh:1<=h)(hr:LineOk r)(hw:r.length<=w)(h0:r≠[]):PgOk w h [r]:=⟨by simpa using hh,fun x hx=>by rw [xM.1 hx];exact⟨hw,hr⟩,fun _=>by simpa using h0⟩
theorem UW{w h b:Nat}(hw:24<=w/\w<=60)(hh:4<=h/\h<=40){hd:List Int}(hf:PgOk w h [hd]):DK 24 [.agg [.f (.c (.int .i64 0)),.f (.c (.int .i64 0)),.f (.sl 1 1 [FD.sl 1 hd.length (hd.flatMap qU)]),.f (.c .nils)],OR w h b]
 fun d=>d=.tup [.agg ((we (Xe w h [hd] [])).map .f),.int 0]:=
 BB (by repeat' (first|exact trivial|exact NilF.refl _|exact NilF.nil _|refine⟨?_,?_⟩)) (BM hw hh (l1:=0) (l2:=0) hf .nil)
theorem BR{w h b:Nat}(hw:24<=w/\w<=60)(hh:4<=h/\h<=40){l:List (Nat × Nat)}(hl:l.length<=1000)(hlo:∀p∈l,1<=p.1/\p.1<=9999/\p.2<=2):DK 10 [Ng l,OR w h b] fun d=>d=.one (jR (JA w h l)):=by
 refine xr ?_;intros;refine qN (fun m E S nk=>∃(i:Nat) (q:List Pq),i+m=l.length/\q.length=i/\q=JA w h (l.take i)/\E=[(0,Ng l),(3,.one (.ptr 0 0)),(5,.one (.own 1 0 q.length 4)),(6,.int i)]/\S=[(0,.cells [.f (FD.int w),.f (FD.int h),.f (FD.int b)]),(1,.data (q.flatMap we))]/\nk=2) (l.length) ⟨0,[],oM,O,O,O,O,O⟩ ?_;rintro m E S nk ⟨i,q,hm,hql,hq,rfl,rfl,rfl⟩;refine qc ?_;intros;refine qh O (fun g=>?_) (fun g=>?_)
 ·obtain⟨h1,h2,h3⟩:=hlo _ (qn (l:=l) (i:=i) oM);have hH:=Yl (w:=w) (n:=(l.getD i default).1) (k:=(l.getD i default).2) (ink:=0) (part:=0) (back:=false) hw.1;have hO:=J2 (w:=w) (n:=(l.getD i default).1) (k:=(l.getD i default).2) (ink:=0) (part:=0) (back:=false) h3 oM;refine qc ?_;intros;refine qf O O (ZJ (w:=w) (n:=(l.getD i default).1) (k:=(l.getD i default).2) (back:=false) (ink:=0) (part:=0) hw ⟨h1,h2⟩ h3 oM oM oM) ?_;rintro _ rfl;generalize hhd:zy w (l.getD i default).1 (l.getD i default).2 false 0 0=hd at *;refine qc ?_;intros;refine qY 3 O qo qo ?_;refine qS O O (UW (b:=b) (hd:=hd) hw hh (.one (by omega) hO (by omega) (fun e=>by rw [e] at hH;simp at hH;omega))) ?_;intros;exact qG ⟨i+1,q++[Xe w h [hd] []],by omega,by simp;omega,(by rw [hq,nZ (l:=l) (by omega)];simp only [JA,JM,jr,sS];rw [hhd]),rfl,rfl,rfl⟩
 ·refine qc ?_;intros;refine qP 4 O O ⟨_,O,O,?_⟩;rw [Q9 (by omega)] at hq;rw [<-hq];rfl
abbrev pW:Prop:=∀{w n k ink part:Nat} {back:Bool},24<=w/\w<=60->1<=n/\n<=9999->k<=2->ink<=9999->part<=26->(ink=0->part=0)->DK 186 [qq (zy w n k back ink part)] fun d=>d=.tup [lT w n k back ink part,.int 0]
def eD(w n k:Nat)(back:Bool)(p:qV):Prop:=∃ink part:Nat,p.head?=some (zy w n k back ink part)/\ink<=9999/\part<=26/\(ink=0->part=0)
theorem eD.pos{w n k:Nat}{back:Bool}{p:qV}(h:eD w n k back p):0<p.length:=by
 obtain⟨_,_,h1,_⟩:=h;cases p with
 |nil=>cases h1
 |cons _ _=>simp
theorem FU{w n k:Nat}{back:Bool}{p:qV}(hR:pW)(hw:24<=w/\w<=60)(hn:1<=n/\n<=9999)(hk:k<=2)(hp:eD w n k back p):DK 171 [.one (.f (Vi p)),.int w] fun d=>∃ink part:Nat,d=.tup [lT w n k back ink part,.bool true]:=by
 have h0:=hp.pos;obtain⟨ink,part,h1,h2,h3,h4⟩:=hp;have hg:=Ja h1;refine xr ?_;intros;rw [hg];refine qS O O (hR (back:=back) hw hn hk h2 h3 h4) ?_;intros;exact qb ⟨_,O,O,ink,part,O⟩
theorem UL{w:Nat}:DK 171 [.one (.f (Vi [])),.int w] fun d=>∃ink part:Nat,d=.tup [lT 0 0 0 false ink part,.bool false]:=by
 refine xr ?_;intros;exact qb ⟨_,O,O,0,0,O⟩
theorem pI{w h:Nat}(hw:24<=w/\w<=60)(hh:4<=h/\h<=40){f g:qV}(hf:PgOk w h f):DK 169 [.agg ((we (Xe w h f g)).map .f)] fun d=>d=.one (.f (ku f)):=by
 have:=UN hw hh (n:=2*w) (m:=3*h) rfl rfl (kf _ _ f) (kf (2*w) (3*h) g).rev
 rwa [oI rfl rfl hf] at this
theorem BI{w h:Nat}(hw:24<=w/\w<=60)(hh:4<=h/\h<=40){f g:qV}(hg:PgOk w h g):DK 170 [.agg ((we (Xe w h f g)).map .f)] fun d=>d=.one (.f (ku g)):=by
 have:=Hb hw hh (n:=2*w) (m:=3*h) rfl rfl (kf _ _ f) (kf (2*w) (3*h) g).rev
 rwa [Ex,oI rfl rfl hg] at this
theorem pH{w h:Nat}(hw:24<=w/\w<=60)(hh:4<=h/\h<=40){f g:qV}:DK 168 [.agg ((we (Xe w h f g)).map .f)] fun d=>d=.bool true:=
 dR hw hh (n:=2*w) (m:=3*h) rfl rfl (kf _ _ f) (kf (2*w) (3*h) g).rev
theorem EP{w h n k:Nat}(hR:pW)(hw:24<=w/\w<=60)(hh:4<=h/\h<=40)(hn:1<=n/\n<=9999)(hk:k<=2){f g:qV}(hf:PgOk w h f)(hg:PgOk w h g)(hfh:eD w n k false f)(hgh:g=[]\/eD w n k true g):Q1 (Xe w h f g) (some ⟨((n:Int),(k:Int)),ku f,ku g⟩):=by
 have e2:2*w/Int.toNat 2=w:=by show 2*w/2=w;omega
 have h1:=FU hR hw hn hk hfh;rw [Xv] at h1;refine je Ak.cp_sheet_Leaf O ko fun Z0 lo=>?_;refine qc ?_;intros;refine qS O O (pH hw hh (f:=f) (g:=g)) ?_;intros;refine qS O O (pI hw hh (f:=f) (g:=g) hf) ?_;intros;refine qS O O (BI hw hh (f:=f) (g:=g) hg) ?_;intros;rw [e2];refine qf O O h1 ?_;rintro _ ⟨ik,pt,rfl⟩;refine qc ?_;intros;rcases hgh with rfl|hgh
 ·exact jJ
 ·have h2:=FU hR hw hn hk hgh;rw [Xv] at h2;have h3:=hgh.pos;rw [<-Xv g];rw [<-Xv g] at h2;refine qh O (fun h5=>?_) (fun h5=>absurd h5 oM);refine qc ?_;intros;rw [e2];refine qf O O h2 ?_;rintro _ ⟨ik2,pt2,rfl⟩;refine qc ?_;intros;refine zi (iY (p:=((n:Int),(k:Int))) (q:=((n:Int),(k:Int))) O O) ?_;simp only [decide_true,Bool.not_true];exact jJ
theorem Fv{w h:Nat}(hw:24<=w/\w<=60)(hh:4<=h/\h<=40):Q1 (Xe w h [] []) none:=by
 have e2:2*w/Int.toNat 2=w:=by show 2*w/2=w;omega
 have h1:=UL (w:=w);rw [Xv] at h1;refine je Ak.cp_sheet_Leaf O ko fun Z0 lo=>?_;refine qc ?_;intros;refine qS O O (pH hw hh (f:=[]) (g:=[])) ?_;intros;refine qS O O (pI hw hh (f:=[]) (g:=[]) .nil) ?_;intros;refine qS O O (BI hw hh (f:=[]) (g:=[]) .nil) ?_;intros;rw [e2];refine qf O O h1 ?_;rintro _ ⟨ik,pt,rfl⟩;exact jJ
def Ay(l:List Pq)(rs:List (Option Lf)):Nat × Int:=match l with
 |[]=>(0,340)
 |q0::_=>y5 q0 0 none (l.zip rs)
structure Lvs (l:List Pq) (rs:List (Option Lf)):Prop where
 len:rs.length=l.length
 ok:∀(i:Nat) q r,l[i]?=some q->rs[i]?=some r->Q1 q r
 sm:∀x,some x∈rs->0<=x.lb.1/\x.lb.1<100000/\0<=x.lb.2/\x.lb.2<100000
 n:l.length<1000000
theorem oN{d:DC}(hd:d=jR []\/d=.f (.c .nils)):jg 22 [.one d] fun d S nk=>∃lv,d=.tup [lv,.int 0,.int 340]:=by
 refine wv fun Z0 lo=>?_;rcases hd with rfl|rfl<;>
 ·refine qc ?_;intros;exact qb ⟨_,O,O,_,wC _,_,O⟩
theorem iZ{d:DC}(hfr:ZB (.one d)=true){i e:Int}(h:jg 22 [.one d] fun d S nk=>∃lv,d=.tup [lv,.int i,.int e]):DK 9 [.one d] fun d=>d=.tup [.int i,.int e]:=by
 refine xr ?_;intros;refine zw O (by unfold xa;rw [hfr];rfl) h ?_;rintro _ S' nk' ⟨lv,rfl⟩;exact jJ
theorem As{l:List Pq}{rs:List (Option Lf)}(h:Lvs l rs):DK 9 [.one (jR l)] fun d=>d=.tup [.int (Ay l rs).1,.int (Ay l rs).2]:=by
 refine iZ O ?_;cases l with
 |nil=>exact oN (.inl O)
 |cons q l=>exact TC h.len h.ok h.sm O h.n
theorem Ag:DK 9 [Rt] fun d=>d=.tup [.int 0,.int 340]:=iZ rfl (oN (.inr rfl))
def XO:Nat->Option Lb->List (Option Lb)->Nat × Int
 |i,_,[]=>(i,0)
 |i,_,none::_=>(i,250)
 |i,prev,some x::r=>if Z8 prev x=true then XO (i+1) (some x) r else (i,340)
def XJ:List (Option Lb)->Nat × Int
 |[]=>(0,340)
 |x::r=>XO 0 none (x::r)
theorem D8{q0:Pq}:∀{l:List Pq} {rs:List (Option Lf)} (i:Nat) (prev:Option Lb),rs.length=l.length->(∀q∈l,q.w=q0.w/\q.h=q0.h)->y5 q0 i prev (l.zip rs)=XO i prev (rs.map fun r=>r.map (·.lb))
 |[],[],_,_,_,_=>rfl
 |q::l,none::rs,i,prev,_,_=>rfl
 |q::l,some x::rs,i,prev,hl,hs=>by
  obtain⟨h1,h2⟩:=hs q QC;have ih:=fun j p=>D8 (l:=l) (rs:=rs) j p (by simpa using hl) fun q hq=>hs q (Q7 _ hq);show (if q.w≠q0.w\/q.h≠q0.h then _ else if Z8 prev x.lb=true then y5 q0 (i+1) (some x.lb) (l.zip rs) else _)=(if Z8 prev x.lb=true then _ else _)
  rw [if_neg (by simp [h1,h2]),ih]
theorem dT{w h:Int}{l:List Pq}{rs:List (Option Lf)}(hv:Lvs l rs)(hs:∀q∈l,q.w=w/\q.h=h):DK 9 [.one (jR l)] fun d=>d=.tup [.int (XJ (rs.map fun r=>r.map (·.lb))).1,.int (XJ (rs.map fun r=>r.map (·.lb))).2]:=by
 have:=As hv;have e:Ay l rs=XJ (rs.map fun r=>r.map (·.lb)):=by
  cases l with
  |nil=>cases rs with
   |nil=>rfl
   |cons _ _=>exact absurd hv.len sM
  |cons q l=>cases rs with
   |nil=>exact absurd hv.len sM
   |cons r rs=>
    obtain⟨h1,h2⟩:=hs q QC;show y5 q 0 none ((q::l).zip (r::rs))=XO 0 none _;exact D8 0 none hv.len fun x hx=>by rw [(hs x hx).1,(hs x hx).2,h1,h2];exact⟨O,O⟩
 rwa [e] at this
instance:Inhabited Pq:=⟨⟨0,0,.c .nils,.c .nils⟩⟩
theorem uF{w h:Nat}(hR:pW)(hw:24<=w/\w<=60)(hh:4<=h/\h<=40){l:List (Nat × Nat)}(hl:l.length<=1000)(hlo:∀p∈l,1<=p.1/\p.1<=9999/\p.2<=2):Lvs (JA w h l) (l.map fun p=>some ⟨((p.1:Int),(p.2:Int)),ku [zy w p.1 p.2 false 0 0],ku []⟩):=by
 refine⟨by simp [JA],fun i q r hq hr=>?_,fun x hx=>?_,by simp [JA];omega⟩
 ·rw [JA,jH] at hq;rw [jH] at hr;cases hp:l[i]? with
  |none=>rw [hp] at hq;cases hq
  |some p=>
   rw [hp] at hq hr;obtain rfl:=zsi hq;obtain rfl:=zsi hr;obtain⟨h1,h2,h3⟩:=hlo p (zmg hp);have hH:=Yl (w:=w) (n:=p.1) (k:=p.2) (ink:=0) (part:=0) (back:=false) hw.1;exact EP hR hw hh ⟨h1,h2⟩ h3 (.one (by omega) (J2 h3 (by omega)) (by omega) (fun e=>by rw [e] at hH;simp at hH;omega)) .nil ⟨0,0,O,by omega,by omega,fun _=>rfl⟩ (.inl O)
 ·obtain⟨p,hp,e⟩:=j6.1 hx;obtain⟨h1,h2,h3⟩:=hlo p hp;obtain rfl:=zsi e;exact⟨by show (0:Int)<=(p.1:Int);omega,by show (p.1:Int)<100000;omega,by show (0:Int)<=(p.2:Int);omega,by show (p.2:Int)<100000;omega⟩
theorem Ni{w h:Nat}{l:List (Nat × Nat)}:∀q∈JA w h l,q.w=((2*w:Nat):Int)/\q.h=((3*h:Nat):Int):=fun q hq=>by
 obtain⟨p,_,rfl⟩:=j6.1 hq;exact⟨O,O⟩
theorem dU{l:List (Nat × Nat)}{n e:Int}(hR:pW)(hl:l.length<=1000)(hlo:∀p∈l,1<=p.1/\p.1<=9999/\p.2<=2)(hc:XJ (l.map fun p=>some ((p.1:Int),(p.2:Int)))=(n.toNat,e))(hn:0<=n):DK 9 [.one (jR (JA 24 4 l))] fun d=>d=.tup [.int n,.int e]:=by
 have:=dT (uF (w:=24) (h:=4) hR oM oM hl hlo) Ni;rw [List.map_map,show (l.map ((fun r:Option Lf=>r.map (·.lb))∘fun p=>some ⟨((p.1:Int),(p.2:Int)),ku [zy 24 p.1 p.2 false 0 0],ku []⟩))=l.map fun p=>some ((p.1:Int),(p.2:Int)) from rfl,hc] at this
 rwa [show ((n.toNat:Nat):Int)=n by omega] at this
theorem Ke:DK 11 [] fun d=>d=OR 24 4 9:=by
 refine xr ?_;intros;exact qb ⟨_,O,O,O⟩
theorem T2(n m:Nat):y8 n m []=blankDB n m:=by
 unfold y8 blankDB;refine vF fun y=>?_;rw [jH,Zu];by_cases hy:y<m
 ·rw [Kx hy,if_pos hy,QA];congr 1;refine vF fun x=>?_;rw [jH,Zu];by_cases hx:x<n
  ·rw [Kx hx,if_pos hx];rfl
  ·rw [yJ (by simpa using hx),if_neg hx];rfl
 ·rw [yJ (by simpa using hy),if_neg hy];rfl
theorem RO(n m:Nat):(blankDB n m).map List.reverse=blankDB n m:=by
 unfold blankDB;rw [List.map_replicate,List.reverse_replicate]
theorem Fa:Xe 24 4 [] []=⟨48,12,QW (blankDB 48 12),QW (blankDB 48 12)⟩:=by
 unfold Xe;rw [T2,RO];rfl
set_option maxRecDepth 10000 in
theorem PW(hR:pW):DK 4 [] fun d=>d=.bool true:=by
 have v1:∀p∈([(1,0),(2,0),(2,1),(3,0)]:List (Nat × Nat)),1<=p.1/\p.1<=9999/\p.2<=2:=by decide
 have v2:∀p∈([(1,0),(3,0)]:List (Nat × Nat)),1<=p.1/\p.1<=9999/\p.2<=2:=by decide
 have v3:∀p∈([(2,0)]:List (Nat × Nat)),1<=p.1/\p.1<=9999/\p.2<=2:=by decide
 have v4:∀p∈([(1,0)]:List (Nat × Nat)),1<=p.1/\p.1<=9999/\p.2<=2:=by decide
 have c1:=dU (n:=4) (e:=0) hR qr v1 (by decide+kernel) oM;have c2:=dU (n:=1) (e:=340) hR qr v2 (by decide+kernel) oM;have c3:=dU (n:=0) (e:=340) hR qr v3 (by decide+kernel) oM;have lv4:=uF (w:=24) (h:=4) hR oM oM qr v4;have lv5:Lvs [Xe 24 4 [zy 24 1 0 false 0 0] [],Xe 24 4 [] []] [some ⟨(((1:Nat):Int),((0:Nat):Int)),ku [zy 24 1 0 false 0 0],ku []⟩,none]:=by
  refine⟨O,fun i q r hq hr=>?_,fun x hx=>?_,by show 2<1000000;omega⟩
  ·match i with
   |0=>exact lv4.ok 0 q r hq hr
   |1=>
    obtain rfl:=zsi hq;obtain rfl:=zsi hr;exact Fv oM oM
   |i+2=>cases hq
  ·simp only [zd,nO,or_false] at hx;rcases hx with hx|hx
   ·exact lv4.sm x (by rw [hx];exact xM.2 rfl)
   ·cases hx
 have c4:DK 9 [.one (jR [Xe 24 4 [zy 24 1 0 false 0 0] [],Xe 24 4 [] []])] fun d=>d=.tup [.int 1,.int 250]:=dT lv5 (w:=((2*24:Nat):Int)) (h:=((3*4:Nat):Int)) fun q hq=>by
  simp only [zd,nO,or_false] at hq;rcases hq with rfl|rfl<;>exact⟨O,O⟩
 rw [Fa] at c4;have hl1:(JA 24 4 [(1,0)]).length=1:=rfl;have b1:=fun l h v=>BR (w:=24) (h:=4) (b:=9) oM oM (l:=l) h v;refine xr ?_;intros;refine qf O O Ke ?_;rintro _ rfl;refine qY 0 O qo qo ?_;refine qS O O (b1 [(1,0),(2,0),(2,1),(3,0)] qr v1) ?_;intros;refine qS O O c1 ?_;intros;refine qf O O Ke ?_;rintro _ rfl;refine qY 1 O qo qo ?_;refine qf O O (b1 [(1,0),(3,0)] qr v2) ?_;rintro _ rfl;refine qS O O c2 ?_;intros;refine qf O O Ke ?_;rintro _ rfl;refine qY 2 O qo qo ?_;refine qf O O (b1 [(2,0)] qr v3) ?_;rintro _ rfl;refine qS O O c3 ?_;intros;refine qS O O Ag ?_;intros;refine qS O O Ke ?_;intros;refine qY 3 O qo qo ?_;refine qS O O (b1 [(1,0)] qr v4) ?_;intros;refine zw O O (EL (n:=48) (m:=12) oM oM) ?_;rintro _ _ _ ⟨rfl,rfl,rfl⟩;refine FJ 6 O qo qo ?_;refine FJ 7 O qo qo ?_;refine qc ?_;intros;refine Wf O ?_;refine qY 8 O qo qo ?_;refine qf O O c4 ?_;rintro _ rfl;exact jJ
def nl(xs:List Nat):List (Option Lb):=xs.map fun x:Nat=>(some (((x:Nat):Int),(0:Int)):Option Lb)
def pv(i:Nat):Option Lb:=if i=0 then none else some ((i:Int),0)
theorem lN{i x:Nat}(hx:x<=9999):Z8 (pv i) ((x:Int),0)=decide (x=i+1):=by
 unfold pv;by_cases h:i=0
 ·subst h;rw [if_pos rfl];show decide (((x:Int),(0:Int))=(1,0))=_;by_cases e:x=1
  ·subst e;rfl
  ·rw [decide_eq_false (by intro h;have:=congrArg Prod.fst h;simp at this;omega),decide_eq_false (by omega)]
 ·rw [if_neg h];show (decide (((x:Int),(0:Int))=((i:Int)+1,0))&&decide ((x:Int)<=9999)||decide (((x:Int),(0:Int))=((i:Int),(0:Int)+1))&&decide ((0:Int)<=2))=_;have h2:decide (((x:Int),(0:Int))=((i:Int),(0:Int)+1))=false:=decide_eq_false (by intro h;have:=congrArg Prod.snd h;simp at this);rw [h2,Bool.false_and,Bool.or_false];by_cases e:x=i+1
  ·subst e;rw [decide_eq_true (show (((i+1:Nat):Int),(0:Int))=((i:Int)+1,0) by rw [show ((i+1:Nat):Int)=(i:Int)+1 by omega]),decide_eq_true (by omega),decide_eq_true rfl];rfl
  ·rw [decide_eq_false (by intro h;have:=congrArg Prod.fst h;simp at this;omega),decide_eq_false e];rfl
theorem n8:∀(xs:List Nat) (i:Nat),i+xs.length<=9999->(∀t,t<xs.length->xs.getD t 0=i+t+1)->XO i (pv i) (nl xs)=(i+xs.length,0)
 |[],_,_,_=>rfl
 |x::xs,i,hl,h=>by
  have h0:x=i+1:=h 0 sM;have hl:i+(xs.length+1)<=9999:=hl;show (if Z8 (pv i) ((x:Int),0)=true then XO (i+1) (some ((x:Int),0)) (nl xs) else _)=_
  rw [lN (by omega),if_pos (by simpa using h0)];have hp:some ((x:Int),(0:Int))=pv (i+1):=by unfold pv;rw [if_neg (by omega),h0]
  rw [hp,n8 xs (i+1) (by omega) fun t ht=>by
   have:=h (t+1) (by simpa using ht);rw [Cl] at this;omega]
  simp only [xA];rw [show i+1+xs.length=i+(xs.length+1) by omega]
theorem tJ:∀(xs:List Nat) (i k:Nat),i+xs.length<=9999->k<xs.length->(∀x∈xs,x<=9999)->(∀t,t<k->xs.getD t 0=i+t+1)->xs.getD k 0≠i+k+1->XO i (pv i) (nl xs)=(i+k,340)
 |x::xs,i,0,hl,_,hx,_,hb=>by
  show (if Z8 (pv i) ((x:Int),0)=true then _ else _)=_
  rw [lN (hx x QC),if_neg (by simpa using hb)];rfl
 |x::xs,i,k+1,hl,hk,hx,h,hb=>by
  have h0:x=i+1:=h 0 oM;have hl:i+(xs.length+1)<=9999:=hl;have hk:k<xs.length:=by simpa using hk
  show (if Z8 (pv i) ((x:Int),0)=true then XO (i+1) (some ((x:Int),0)) (nl xs) else _)=_
  rw [lN (by omega),if_pos (by simpa using h0)];have hp:some ((x:Int),(0:Int))=pv (i+1):=by unfold pv;rw [if_neg (by omega),h0]
  rw [hp,tJ xs (i+1) k (by omega) hk (fun y hy=>hx y (Q7 _ hy)) (fun t ht=>by
   have:=h (t+1) oM;rw [Cl] at this;omega) (by rw [Cl] at hb;omega)]
  rw [show i+1+k=i+(k+1) by omega]
theorem B9{xs:List Nat}(h0:0<xs.length)(hl:xs.length<=9999)(h:∀t,t<xs.length->xs.getD t 0=t+1):XJ (nl xs)=(xs.length,0):=by
 cases xs with
 |nil=>cases h0
 |cons x xs=>
  have:=n8 (x::xs) 0 (by omega) fun t ht=>by rw [h t ht];omega
  show XO 0 (pv 0) (nl (x::xs))=_
  rw [this,ym]
theorem GB{xs:List Nat}{k:Nat}(hk:k<xs.length)(hl:xs.length<=9999)(hx:∀x∈xs,x<=9999)(h:∀t,t<k->xs.getD t 0=t+1)(hb:xs.getD k 0≠k+1):XJ (nl xs)=(k,340):=by
 cases xs with
 |nil=>cases hk
 |cons x xs=>
  have:=tJ (x::xs) 0 k (by omega) hk hx (fun t ht=>by rw [h t ht];omega) (by omega);show XO 0 (pv 0) (nl (x::xs))=_;rw [this,ym]
def gL(w h:Nat)(l:List LfL)(j:Nat):Pq:=Xe w h (l.getD j default).front (l.getD j default).back
theorem fN{w h:Nat}{l:List LfL}:Xu w h l=(List.range l.length).map (gL w h l):=by
 refine vF fun i=>?_;rw [Xu,jH,jH];by_cases hi:i<l.length
 ·rw [Kx hi,zge hi,QA,QA,gL,qT,zge hi];rfl
 ·rw [yJ (by omega),yJ (by simp;omega)];rfl
theorem S5{w h:Nat}{l:List LfL}:(Xu w h l).length=l.length:=xX _
theorem oG{w h:Nat}{l:List LfL}{j:Nat}(hj:j<l.length):(Xu w h l).getD j default=gL w h l j:=by
 rw [Xu,qT,jH,zge hj,gL,qT,zge hj];rfl
theorem Af{w h:Nat}(hR:pW)(hw:24<=w/\w<=60)(hh:4<=h/\h<=40){l:List LfL}(hl:LvOk w h l){js:List Nat}(hj:∀j∈js,j<l.length)(hjl:js.length<=5001):DK 9 [.one (jR (js.map (gL w h l)))] fun d=>d=.tup [.int (XJ (nl (js.map (·+1)))).1,.int (XJ (nl (js.map (·+1)))).2]:=by
 have hll:=hl.len;have hv:Lvs (js.map (gL w h l)) (js.map fun j=>some ⟨(((j+1:Nat):Int),(0:Int)),ku (l.getD j default).front,ku (l.getD j default).back⟩):=by
  refine⟨by simp,fun i q r hq hr=>?_,fun x hx=>?_,by simp;omega⟩
  ·rw [jH] at hq hr;cases hp:js[i]? with
   |none=>rw [hp] at hq;cases hq
   |some j=>
    rw [hp] at hq hr;obtain rfl:=zsi hq;obtain rfl:=zsi hr;have hjl:=hj j (zmg hp);obtain⟨h1,h2,c,h3⟩:=hl.lf j hjl;have e1:2*j/2+1=j+1:=oM;have e2:(2*j+1)/2+1=j+1:=oM;have e3:(((2*j % 2:Nat):Int)==1)=false:=by rw [show 2*j % 2=0 by omega];rfl
    have e4:((((2*j+1) % 2:Nat):Int)==1)=true:=by rw [show (2*j+1) % 2=1 by omega];rfl
    have hf:eD w (j+1) 0 false (l.getD j default).front:=by
     have:=h2.hd trivial
     rwa [e1,e3] at this
    have hb:(l.getD j default).back=[]\/eD w (j+1) 0 true (l.getD j default).back:=by
     by_cases hc:c
     ·right;have:=h3.hd hc
      rwa [e2,e4] at this
     ·exact .inl (h3.no hc)
    exact EP (n:=j+1) (k:=0) hR hw hh oM oM h2.ok h3.ok hf hb
  ·obtain⟨j,hj',e⟩:=j6.1 hx;have:=hj j hj';obtain rfl:=zsi e;exact⟨by show (0:Int)<=((j+1:Nat):Int);omega,by show ((j+1:Nat):Int)<100000;omega,by show (0:Int)<=0;omega,by show (0:Int)<100000;omega⟩
 have:=dT hv (w:=((2*w:Nat):Int)) (h:=((3*h:Nat):Int)) fun q hq=>by
  obtain⟨j,_,rfl⟩:=j6.1 hq;exact⟨O,O⟩
 rw [List.map_map] at this;have e:(js.map ((fun r:Option Lf=>r.map (·.lb))∘fun j=>some ⟨(((j+1:Nat):Int),(0:Int)),ku (l.getD j default).front,ku (l.getD j default).back⟩))=nl (js.map (·+1)):=by
  unfold nl;rw [List.map_map];rfl
 rwa [e] at this
def bP(n i k:Nat):List Nat:=((List.range n).set i k).set k i
theorem wM{n i k:Nat}:(bP n i k).length=n:=by simp [bP]
theorem AN{n i k t:Nat}(ht:t<n):(bP n i k).getD t 0=if t=k then i else if t=i then k else t:=by
 unfold bP;rw [qT,Q4];by_cases h1:k=t
 ·rw [if_pos h1,if_pos (by simp;omega),if_pos h1.symm];rfl
 ·rw [if_neg h1,if_neg (fun h=>h1 h.symm),Q4];by_cases h2:i=t
  ·rw [if_pos h2,if_pos (by simp;omega),if_pos h2.symm];rfl
  ·rw [if_neg h2,if_neg (fun h=>h2 h.symm),Kx ht];rfl
theorem ZQ{js:List Nat}{t:Nat}(ht:t<js.length):(js.map (·+1)).getD t 0=js.getD t 0+1:=by
 rw [qT,qT,jH,zge ht];rfl
theorem AM{n i k:Nat}(hi:i<n)(hk:k<n):∀j∈bP n i k,j<n:=fun j hj=>by
 rcases LR hj with h|h
 ·rcases LR h with h|h
  ·exact jF.1 h
  ·omega
 ·omega
theorem Gf{n i:Nat}(hn:n<=5001)(hi:i<n):XJ (nl ((bP n i i).map (·+1)))=(n,0):=by
 have:=B9 (xs:=(bP n i i).map (·+1)) (by rw [xX,wM];omega) (by rw [xX,wM];omega) fun t ht=>by
  rw [xX,wM] at ht;rw [ZQ (by rw [wM];exact ht),AN ht];split
  ·omega
  ·rfl
 rwa [xX,wM] at this
theorem Gg{n i k:Nat}(hn:n<=5001)(hi:i<n)(hk:k<n)(h:i≠k):XJ (nl ((bP n i k).map (·+1)))=(min i k,340):=by
 refine GB (by rw [xX,wM];omega) (by rw [xX,wM];omega) (fun x hx=>?_) (fun t ht=>?_) ?_
 ·obtain⟨j,hj,rfl⟩:=j6.1 hx;have:=AM hi hk j hj;omega
 ·rw [ZQ (by rw [wM];omega),AN (by omega),if_neg (by omega),if_neg (by omega)]
 ·rw [ZQ (by rw [wM];omega),AN (by omega)];by_cases e:min i k=k
  ·rw [if_pos e];omega
  ·rw [if_neg e,if_pos (by omega)];omega
def bL(n i:Nat):List Nat:=(List.range n).take i++(List.range n).drop (i+1)
theorem jN{n i:Nat}(hi:i<n):(bL n i).length=n-1:=by
 unfold bL;rw [qE,xS,zS,List.length_range];omega
theorem uD{n i t:Nat}(hi:i<n)(ht:t<n-1):(bL n i).getD t 0=if t<i then t else t+1:=by
 unfold bL;rw [qT];have hl:((List.range n).take i).length=i:=by rw [xS,List.length_range];omega
 by_cases h:t<i
 ·rw [if_pos h,Qz (by omega),Kw,if_pos h,Kx (by omega)];rfl
 ·rw [if_neg h,Q3 (by omega),nP,hl,show i+1+(t-i)=t+1 by omega,Kx (by omega)];rfl
theorem Vd{n i:Nat}:∀j∈bL n i,j<n:=fun j hj=>by
 rcases xu.1 hj with h|h
 ·exact jF.1 (nQ h)
 ·exact jF.1 (Cg h)
theorem EN{n i:Nat}(hn:n<=5001)(h2:2<=n)(hi:i+1=n):XJ (nl ((bL n i).map (·+1)))=(i,0):=by
 have:=B9 (xs:=(bL n i).map (·+1)) (by rw [xX,jN (by omega)];omega) (by rw [xX,jN (by omega)];omega) fun t ht=>by
  rw [xX,jN (by omega)] at ht;rw [ZQ (by rw [jN (by omega)];exact ht),uD (by omega) ht,if_pos (by omega)]
 rw [xX,jN (by omega)] at this;rw [this,show n-1=i by omega]
theorem N4{n i:Nat}(hn:n<=5001)(hi:i+1<n):XJ (nl ((bL n i).map (·+1)))=(i,340):=by
 refine GB (by rw [xX,jN (by omega)];omega) (by rw [xX,jN (by omega)];omega) (fun x hx=>?_) (fun t ht=>?_) ?_
 ·obtain⟨j,hj,rfl⟩:=j6.1 hx;have:=Vd j hj;omega
 ·rw [ZQ (by rw [jN (by omega)];omega),uD (by omega) (by omega),if_pos ht]
 ·rw [ZQ (by rw [jN (by omega)];omega),uD (by omega) (by omega),if_neg (by omega)];omega
end Go.Ai
