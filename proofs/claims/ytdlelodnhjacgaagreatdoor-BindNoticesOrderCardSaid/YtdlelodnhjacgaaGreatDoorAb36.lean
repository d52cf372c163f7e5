/- -/
import Derived.Test.YtdlelodnhjacgaaGreatDoorAb29
import Derived.Test.YtdlelodnhjacgaaGreatDoorAb35
set_option linter.unusedSimpArgs false
set_option linter.unusedVariables false
set_option maxRecDepth 8000
set_option maxHeartbeats 16000000
namespace Go.Ai
open Go.Ab Go.Proofs
def Wm(l:qV)(i j:Nat):Int:=match l[i]? with
 |some r=>(r[j]?).getD 0
 |none=>0
theorem Ow{c:Int}{k:Nat}(hk:k<6):DK 75 [.one (.f (.c (.int .u8 c))),.int ((k+1:Nat):Int)] fun d=>d=.bool (Kl c k):=by
 refine va fun Z0 lo=>?_;have hk6:k=0\/k=1\/k=2\/k=3\/k=4\/k=5:=oM;rcases hk6 with rfl|rfl|rfl|rfl|rfl|rfl<;>
 ·exact QK
theorem Ah{l:qV}{i j:Nat}:DK 76 [VN l,.int i,.int j] fun d=>d=.one (.f (.c (.int .u8 (Wm l i j)))):=by
 refine va fun Z0 lo=>?_;by_cases h1:i<l.length
 ·obtain⟨r,hr⟩:∃r,l[i]?=some r:=⟨_,zge h1⟩;have g1:decide ((i:Int)>=l.length)=false:=by simp;omega
  have e1:=ZP (Jl hr);by_cases h2:j<r.length
  ·obtain⟨c,hc⟩:∃c,r[j]?=some c:=⟨_,zge h2⟩;have g2:decide ((j:Int)>=(r.map yw).length)=false:=by simp;omega
   have e2:=JV (I6 hc);have l2:j<(r.map yw).length:=by simp;omega
   refine zh ?_;intros;refine qd O (fun ht=>by cases ht) (fun _=>?_);refine qa ?_;intros;refine qb ⟨_,O,O,?_⟩;simp [Wm,hr,hc,yw]
  ·have g2:decide ((j:Int)>=(r.map yw).length)=true:=by simp;omega
   refine zh ?_;intros;refine qd O (fun _=>?_) (fun ht=>by cases ht);refine qa ?_;intros;refine qb ⟨_,O,O,?_⟩;have:r[j]?=none:=yJ oM;simp [Wm,hr,this]
 ·have g1:decide ((i:Int)>=l.length)=true:=by simp;omega
  have:l[i]?=none:=yJ oM;refine zh ?_;intros;refine qd O (fun _=>?_) (fun ht=>by cases ht);refine qa ?_;intros;refine qb ⟨_,O,O,?_⟩;simp [Wm,this]
theorem LB(l:qV)(x y:Nat):Jn l x y=Kl (Wm l (y/3) (x/2)) (x % 2*3+y % 3):=by
 have h6:x % 2*3+y % 3<6:=oM;have h0:∀k,k<6->Kl 0 k=false:=by
  intro k hk;have hk6:k=0\/k=1\/k=2\/k=3\/k=4\/k=5:=oM;rcases hk6 with rfl|rfl|rfl|rfl|rfl|rfl<;>decide+kernel
 simp only [Jn,Wm];cases l[y/3]? with
 |none=>exact (h0 _ h6).symm
 |some r=>
  simp only;cases r[x/2]? with
  |none=>exact (h0 _ h6).symm
  |some c=>rfl
theorem NL{pg:DV}{b:Int}{x y:Nat}(hx:x<1000000)(hy:y<1000000)(hp:DK 76 [pg,.int (y/3:Nat),.int (x/2:Nat)] fun d=>d=.one (.f (.c (.int .u8 b))))(hf:ZB pg=true):DK 41 [pg,.int x,.int y] fun d=>d=.bool (Kl b (x % 2*3+y % 3)):=by
 refine va fun Z0 lo=>?_;have w1:IntKind.i64.wrap ((y:Int).tdiv 3)=((y/3:Nat):Int):=by rw [DP (by omega),qm (by omega) (by omega)];omega
 have w2:IntKind.i64.wrap ((x:Int).tdiv 2)=((x/2:Nat):Int):=by rw [DP (by omega),qm (by omega) (by omega)];omega
 have hk6:x % 2*3+y % 3<6:=oM;have w3:IntKind.i64.wrap (IntKind.i64.wrap (IntKind.i64.wrap ((x:Int).tmod 2*3)+(y:Int).tmod 3)+1)=((x % 2*3+y % 3+1:Nat):Int):=by
  rw [nK (by omega),nK (by omega),show IntKind.i64.wrap ((x:Int) % 2*3)=(x:Int) % 2*3 from qm (by omega) (by omega),show IntKind.i64.wrap ((x:Int) % 2*3+(y:Int) % 3)=(x:Int) % 2*3+(y:Int) % 3 from qm (by omega) (by omega),qm (by omega) (by omega)];omega
 refine qa ?_;intros;rw [w1,w2];refine qf O (by unfold xa;rw [hf];rfl) hp ?_;rintro _ rfl;refine qa ?_;intros;rw [w3];refine qf O O (Ow hk6) ?_;rintro _ rfl;exact QK
structure PgOk (w h:Nat) (p:qV):Prop where
 len:p.length<=h
 ln:∀r∈p,r.length<=w/\LineOk r
 last:∀hp:p≠[],p.getLast hp≠[]
theorem PgOk.nil{w h:Nat}:PgOk w h []:=⟨Xa _,fun _ hr=>(by cases hr),fun hp=>absurd rfl hp⟩
def Wr(n m:Nat)(D:qK)(y x:Nat)(cur:qK):Prop:=jf n m cur/\∀i j,i<n->j<m->yp cur i j=if j<y\/(j=y/\n<=i+x) then yp D i j else false
theorem Wr.start(n m:Nat)(D:qK):Wr n m D 0 0 (blankDB n m):=⟨jf.blankDB n m,fun i j _ _=>by rw [pD,if_neg (by omega)]⟩
theorem Wr.step{n m:Nat}{D:qK}{y x:Nat}{cur:qK}(hc:Wr n m D y x cur)(hx:x<n)(hy:y<m):Wr n m D y (x+1) (Qk cur (n-1-x) y (yp D (n-1-x) y)):=by
 refine⟨hc.1.set _ _ _,fun i j hi hj=>?_⟩;rw [FN hc.1 (by omega) hy];split
 ·rename_i e;rw [if_pos (by omega),e.1,e.2]
 ·rename_i e;rw [hc.2 i j hi hj];by_cases h1:j<y\/(j=y/\n<=i+x)
  ·rw [if_pos h1,if_pos (by omega)]
  ·rw [if_neg h1,if_neg (by omega)]
theorem Wr.next{n m:Nat}{D:qK}{y:Nat}{cur:qK}(hc:Wr n m D y n cur):Wr n m D (y+1) 0 cur:=⟨hc.1,fun i j hi hj=>by
 rw [hc.2 i j hi hj];by_cases h1:j<y\/(j=y/\n<=i+n)
 ·rw [if_pos h1,if_pos (by omega)]
 ·rw [if_neg h1,if_neg (by omega)]⟩
theorem Wr.fin{n m:Nat}{D:qK}{cur:qK}(hd:jf n m D)(hc:Wr n m D m 0 cur):cur=D:=hc.1.ext hd fun i j hi hj=>by
 rw [hc.2 i j hi hj,if_pos (by omega)]
theorem jf.rev{n m:Nat}{d:qK}(h:jf n m d):jf n m (d.map List.reverse):=⟨by simp [h.1],fun r hr=>by
 obtain⟨q,hq,rfl⟩:=j6.1 hr;rw [List.length_reverse];exact h.2 q hq⟩
theorem Gu{n m:Nat}{d:qK}(h:jf n m d){x y:Nat}(hx:x<n)(hy:y<m):yp (d.map List.reverse) (n-1-x) y=yp d x y:=by
 obtain⟨r,h1,h2⟩:=h.row hy;have:n-1-x<r.length:=oM;simp only [yp,jH,h1,QA];rw [List.getElem?_reverse this,show r.length-1-(n-1-x)=x by omega]
theorem Ex(d:qK):(d.map List.reverse).map List.reverse=d:=by
 rw [List.map_map]
 conv=>rhs;rw [<-List.map_id d]
 exact Cm fun r _=>List.reverse_reverse r
theorem n7{d:qK}{x y:Nat}{b:Bool}(h:y<d.length):Qk d x y b=d.set y ((d.getD y default).set x b):=by
 unfold Qk;rw [zge h,qT,zge h];rfl
theorem pQ:∀l:qV,VN l=qW l:=fun l=>by
 have h1:∀l:qV,(xU l).map xn=l.flatMap ja:=by
  intro l;induction l with
  |nil=>rfl
  |cons r l ih=>
   rw [wB,<-ih];have h2:∀r:List Int,r.map yw=r.flatMap qU:=by
    intro r;induction r with
    |nil=>rfl
    |cons c r ih2=>rw [wB,<-ih2];rfl
   have h3:(r.map yw).length=r.length:=xX _;show xn (r.map yw)::_=_;rw [show xn (r.map yw)=.sl 1 (r.map yw).length (r.map yw) from rfl,h3,h2];rfl
 show DV.one (.f (.sl 1 l.length ((xU l).map xn)))=_
 rw [h1]
theorem EL{n m:Nat}(hn2:n<=200)(hm2:m<=200):jg 12 [.int n,.int m] fun d S nk=>d=.agg [.f (.c (.int .i64 n)),.f (.c (.int .i64 m)),.own 2 0 m 1,.own 3 0 m 1]/\S=[(2,.tree (zt (blankDB n m))),(3,.tree (zt (blankDB n m)))]/\nk=4:=by
 refine wv fun Z0 lo=>?_;refine qa ?_;intros;refine W7 1 2 O O ?_;refine W7 1 3 O O ?_;refine qx (qg (k:=0) O (qg (k:=1) O (qg (k:=4) O (qg (k:=5) O (qg (k:=6) O (qv _)))))) (qg (k:=0) O (qg (k:=1) O (qg (k:=2) O (qg (k:=3) O (qv _))))) ?_;refine qu (fun k E S nk=>∃y:Nat,y+k=m/\E=[(0,.int n),(1,.int m),(4,.one (.ptr 0 0)),(5,.one (.ptr 1 0)),(6,.int y)]/\S=[(0,.cells [.f (.c (.int .i64 0)),.f (.c (.int .i64 0)),.f (.c .nils),.f (.c .nils)]),(1,.cells [.f (.c (.int .i64 n)),.f (.c (.int .i64 m)),.own 2 0 y 1,.own 3 0 y 1]),(2,.tree (zt (blankDB n y))),(3,.tree (zt (blankDB n y)))]/\nk=4) ⟨m,_,_,_,[],?wk,0,oM,O,O,O⟩ ?_
 case wk=>exact qs
 rintro k E S nk ⟨y,hy,rfl,rfl,rfl⟩;refine qa ?_;intros;refine qd O (fun ht=>?_) (fun ht=>?_)
 ·simp at ht;have hblank:zt (blankDB n y)++[jx [.c (.bool false)] n]=zt (blankDB n (y+1)):=by rw [HD];simp [zt,blankDB,L1]
  refine qa ?_;intros;refine A1 [.c (.bool false)] O O O O ⟨O,O,trivial⟩ O qr (qz _) oM oM ?_;refine qa ?_;intros;refine m6 O O O (by simp [zt,blankDB]) O O (by rw [jI];simp) (by omega) (by omega) O ?_;rw [hblank];refine qa ?_;intros;refine A1 [.c (.bool false)] O O O O ⟨O,O,trivial⟩ O qr (qz _) oM oM ?_;refine qa ?_;intros;refine m6 O O O (by simp [zt,blankDB]) O O (by rw [jI];simp) (by omega) (by omega) O ?_;rw [hblank];refine qa ?_;intros;refine⟨k-1,oM,_,_,_,[(2,6),(3,9)],?wk1,y+1,oM,O,O,O⟩
  case wk1=>exact qs
 ·simp at ht;obtain rfl:y=m:=by omega
  refine qa ?_;intros;refine qb ⟨_,O,O,_,qg (k:=2) O (qg (k:=3) O (qv _)),O,O,O⟩
abbrev Rt:DV:=.one (.f (.c .nils))
def QW(d:qK):FD:=.sl 1 d.length ((zt d).map xn)
def ku(g:qV):FD:=.sl 1 g.length ((xU g).map xn)
theorem pK{l:qV}{x y:Nat}(hx:x<1000000)(hy:y<1000000):DK 41 [.one (.f (ku l)),.int x,.int y] fun d=>d=.bool (Jn l x y):=by
 rw [LB];exact NL hx hy Ah O
theorem PgOk.row{w h:Nat}{p:qV}(hp:PgOk w h p){i:Nat}(hi:i<p.length):(p.getD i default).length<=w/\LineOk (p.getD i default):=hp.ln _ (qn hi)
theorem LineOk.lastD{l:List Int}(h:LineOk l)(h0:0<l.length):l.getD (l.length-1) default≠0:=by
 have hne:l≠[]:=fun e=>by rw [e] at h0;simp at h0
 have:=h.last hne;rw [Cj] at this;rw [qT,zge (by omega)];exact this
theorem BS{w h:Nat}(hw:w<=100)(hh:h<=100){p:qV}(hp:PgOk w h p):DK 40 [.one (.f (ku p)),.int w,.int h] fun d=>d=.bool true:=by
 have hpl:=hp.len;rw [show DV.one (.f (ku p))=qW p from pQ p];refine xr ?_;intros;refine qN (fun m E S nk=>∃i:Nat,i+m=p.length/\E=[(0,qW p),(1,.int w),(2,.int h),(7,.int i)]/\S=[]/\nk=0) (p.length) ⟨0,oM,O,O,O⟩ ?_;rintro m E S nk ⟨i,hm,rfl,rfl,rfl⟩;refine qc ?_;intros;refine qh O (fun g=>?_) (fun g=>?_)
 ·obtain⟨hr1,hr2⟩:=hp.row (i:=i) oM;have hv:=iR (l:=p.getD i default) oM;have hc63:∀c∈p.getD i default,c<=63:=fun c hc=>(hr2.cell c hc).2;have hlz:((p.getD i default).length=0/\i+1<p.length)\/(0<(p.getD i default).length/\(p.getD i default).getD ((p.getD i default).length-1) default≠0):=by
   rcases LW (p.getD i default).length with h0|h0
   ·refine .inl ⟨h0,?_⟩;rcases bD (i+1) p.length with h1|h1
    ·exact h1
    ·exfalso;have hne:p≠[]:=fun e=>by rw [e] at hm g;simp at g;omega
     have:=hp.last hne;apply this;rw [Cj];have hi:p.length-1=i:=oM;have e2:p.getD i default=p[i]'(by omega):=by rw [qT,zge (by omega)];rfl
     have e3:p[p.length-1]'oM=p[i]'oM:=by congr 1
     rw [e3,<-e2];exact vw h0
   ·exact .inr ⟨h0,hr2.lastD h0⟩
  rcases hlz with⟨h0,h1⟩|⟨h0,h1⟩
  ·refine qc ?_;intros;refine qf O O hv ?_;rintro _ ⟨b,rfl,hb⟩;rw [hb hc63];refine qc ?_;intros;exact qG ⟨i+1,oM,O,O,O⟩
  ·refine qc ?_;intros;refine qf O O hv ?_;rintro _ ⟨b,rfl,hb⟩;rw [hb hc63];refine qc ?_;intros;refine zH O (fun g2=>?_) (fun g2=>?_)
   ·exfalso;rw [show (((p.getD i default).length:Int)-1).toNat=(p.getD i default).length-1 by omega] at g2;exact absurd g2 h1
   ·refine qc ?_;intros;exact qG ⟨i+1,oM,O,O,O⟩
 ·exact jJ
abbrev Ti(n m:Nat)(f g:qV)(l1 l2:Int)(w h:Int)(up dn:qK):Bx:=[(0,.cells [.f (.c (.int .i64 l1)),.f (.c (.int .i64 l2)),.f (ku f),.f (ku g)]),(2,.cells [.f (.c (.int .i64 0)),.f (.c (.int .i64 0)),.f (.c .nils),.f (.c .nils)]),(5,.tree (zD wR up)),(6,.tree (zD wR dn)),(7,.cells [.f (.c (.int .i64 n)),.f (.c (.int .i64 m)),.own 5 0 m 1,.own 6 0 m 1])]
theorem PQ{w h b:Nat}(hw:24<=w/\w<=60)(hh:4<=h/\h<=40){f g:qV}(hf:PgOk w h f)(hg:PgOk w h g){l1 l2:Int}:DK 24 [.agg [.f (.c (.int .i64 l1)),.f (.c (.int .i64 l2)),.f (ku f),.f (ku g)],.agg [.f (.c (.int .i64 w)),.f (.c (.int .i64 h)),.f (.c (.int .i64 b))]]
 fun d=>d=.tup [.agg ((we ⟨(2*w:Nat),(3*h:Nat),QW (y8 (2*w) (3*h) f),QW ((y8 (2*w) (3*h) g).map List.reverse)⟩).map .f),.int 0]:=by
 refine xr ?_;intros;refine qS O O (BS oM oM hf) ?_;intros;refine qS O O (BS oM oM hg) ?_;intros;rw [show (2*(w:Int))=((2*w:Nat):Int) by omega,show (3*(h:Int))=((3*h:Nat):Int) by omega];have hn1:48<=2*w/\2*w<=120:=oM;have hm1:12<=3*h/\3*h<=120:=oM;generalize 2*w=n at *;generalize 3*h=m at *;refine zw O O (EL (n:=n) (m:=m) oM oM) ?_;rintro _ _ _ ⟨rfl,rfl,rfl⟩;refine qc ?_;intros;have hU:=kf n m f;have hV:=(kf n m g).rev;refine qN (fun k E S nk=>∃(y:Nat) (up dn:qK),y+k=m/\Wu n m (y8 n m f) y 0 up/\Wr n m ((y8 n m g).map List.reverse) y 0 dn/\E=[(2,.one (.ptr 0 0)),(4,.one (.ptr 2 0)),(5,.int 0),(8,.one (.ptr 7 0)),(9,.int y)]/\S=Ti n m f g l1 l2 w h up dn/\nk=8) m ⟨0,blankDB n m,blankDB n m,oM,Wu.start _ _ _,Wr.start _ _ _,O,O,O⟩ ?_;rintro k E S nk ⟨y,up,dn,hy,hup,hdn,rfl,rfl,rfl⟩;refine qc ?_;intros;refine qh O (fun g1=>?_) (fun g1=>?_)
 ·refine qc ?_;intros;refine qN (fun k2 E S nk=>∃(x:Nat) (up dn:qK),x+k2=n/\Wu n m (y8 n m f) y x up/\Wr n m ((y8 n m g).map List.reverse) y x dn/\E=[(2,.one (.ptr 0 0)),(4,.one (.ptr 2 0)),(5,.int 0),(8,.one (.ptr 7 0)),(9,.int y),(10,.int x)]/\S=Ti n m f g l1 l2 w h up dn/\nk=8) n ⟨0,up,dn,oM,hup,hdn,O,O,O⟩ ?_;rintro k2 E S nk ⟨x,up,dn,hx,hup,hdn,rfl,rfl,rfl⟩;have hul:=hup.1.1;have hdl:=hdn.1.1;have hur:=fun (h:y<up.length)=>hup.1.2 _ (qn h);have hdr:=fun (h:y<dn.length)=>hdn.1.2 _ (qn h);refine qc ?_;intros;refine qh O (fun g2=>?_) (fun g2=>?_)
  ·have hur:=hur oM;have hdr:=hdr oM;refine qc ?_;intros;refine qS O O (pK (l:=f) (x:=x) (y:=y) oM oM) ?_;intros;refine mX (Jn f x y) O O O oM oM O ?_;refine qc ?_;intros;rw [show ((n:Int)-1-x)=((n-1-x:Nat):Int) by omega];refine qS O O (pK (l:=g) (x:=x) (y:=y) oM oM) ?_;intros;refine mX (Jn g x y) O O O oM oM O ?_;refine qc ?_;intros;have q1:=hup.step (x:=x) (y:=y) oM oM;have q2:=hdn.step (x:=x) (y:=y) oM oM;rw [Vr f (by omega) (by omega),n7 (by omega)] at q1;rw [Gu (kf n m g) (by omega) (by omega),Vr g (by omega) (by omega),n7 (by omega)] at q2;exact qG ⟨x+1,_,_,oM,q1,q2,O,O,O⟩
  ·refine qc ?_;intros;obtain rfl:x=n:=by omega
   exact qG ⟨y+1,up,dn,oM,hup.next,hdn.next,O,O,O⟩
 ·obtain rfl:y=m:=by omega
  have e1:=hup.fin hU;have e2:=hdn.fin hV;have hul:=hup.1.1;have hdl:=hdn.1.1;have hTl:y=(zD wR up).length:=by rw [xX];omega
  have hTl2:y=(zD wR dn).length:=by rw [xX];omega
  refine qc ?_;intros;refine qx (qg (k:=4) O (qg (k:=5) O (qv _))) (qg (k:=2) O (qg (k:=5) O (qg (k:=6) O (qv _)))) ?_;refine XF 5 O qo qo ?_;refine XF 6 O qo qo ?_;refine qc ?_;intros;refine qb ⟨_,O,O,?_⟩;rw [<-e1,<-e2];show _=DV.tup [.agg [.f (.c (.int .i64 n)),.f (.c (.int .i64 y)),.f (.sl 1 up.length ((zt up).map xn)),.f (.sl 1 dn.length ((zt dn).map xn))],.int 0];rw [hul,hdl];rfl
end Go.Ai
