/- -/
import Derived.Test.YtdlelodnhjacgaaGreatDoorAb30
set_option linter.unusedSimpArgs false
set_option linter.unusedVariables false
set_option maxRecDepth 8000
set_option maxHeartbeats 16000000
namespace Go.Ai
open Go.Ab Go.Proofs
instance:Inhabited MB:=⟨.ink 1⟩
theorem MB.ten(m:MB):∃(k:Int) (c1 c2 c3 c4 c5 c6 c7 c8 c9:FD),m.cells=[FD.int k,c1,c2,c3,c4,c5,c6,c7,c8,c9]:=by
 cases m<;>exact⟨_,_,_,_,_,_,_,_,_,_,O⟩
theorem PX{ms:List MB}{a b:Nat}(h:a<=b)(hb:b<=ms.length)(hl:ms.length<100):DK 26 [Zy ms,.int a,.int b] fun d=>∃l:List Int,d=x7 l/\l.length=b-a:=by
 refine xr ?_;intros;refine qN (fun m E S nk=>∃(i:Nat) (l:List Int),i+m=b/\a<=i/\l.length=i-a/\E=[(0,Zy ms),(2,.int b),(7,.one (.own 0 0 l.length 1)),(8,.int i)]/\S=[(0,.data (l.flatMap yL))]/\nk=1) (b-a) ⟨a,[],by omega,qz _,by simp,rfl,rfl,rfl⟩ ?_;rintro m E S nk ⟨i,l,hm,hi,hli,rfl,rfl,rfl⟩;refine qc ?_;intros;refine qh O (fun g=>?_) (fun g=>?_)
 ·obtain⟨k,c1,c2,c3,c4,c5,c6,c7,c8,c9,hc⟩:=(ms.getD i default).ten;refine qc ?_;intros;refine vS (f:=MB.cells) (l:=ms) (j:=i) O O oM O qr MB.len ?_;rw [hc];refine qc ?_;intros;exact qG ⟨i+1,l++[k],by omega,by omega,by simp;omega,rfl,rfl,rfl⟩
 ·refine qc ?_;intros;exact qP 6 O O ⟨_,O,O,l,O,oM⟩
def vX(w i0 i1:Nat)(q:List RowL):Prop:=∀r∈q,jE w r/\(i0:Int)<=r.block/\r.block<i1
theorem vX.nil{w i0 i1:Nat}:vX w i0 i1 []:=fun _ h=>by cases h
theorem vX.app{w i0 i1:Nat}{q r:List RowL}(h:vX w i0 i1 q)(h2:vX w i0 i1 r):vX w i0 i1 (q++r):=fun x hx=>(xu.1 hx).elim (h x) (h2 x)
abbrev GX(a b:Nat):List DC:=[.f (FD.int a),.f (FD.int b)]
abbrev Dz(ms:List MB)(t:TbL)(w h b:Nat):Prop:=∀{i0 i1:Nat},i0<=i1->i1<=ms.length->DK 13 [Zy ms,kE t w h b,.agg (GX i0 i1)] fun d=>∃(q:List RowL) (a e:Int),d=.agg [.f (.sl 5 q.length (q.flatMap zr)),.f (FD.int a),.f (FD.int e)]/\q.length<=10001/\vX w i0 i1 q
theorem P2{t:TbL}{w h b:Nat}(hh:4<=h/\h<=40){ms:List MB}(hl:ms.length<=5)(hR:Dz ms t w h b):DK 15 [Zy ms,kE t w h b] fun d=>∃B:BlsL,d=d4 B/\BlsOk B ms.length:=by
 refine xr ?_;intros;refine W7 2 0 O O ?_;refine yG 2 1 1 O O ?_;refine qN (fun m E S nk=>∃(i:Nat) (R:List (List Int)) (bg:List Bool),i+m=ms.length/\R.length=i/\bg.length=i/\(∀r∈R,r.length=ms.length+1)/\E=[(0,Zy ms),(3,.one (.ptr 0 0)),(4,.one (.ptr 1 0)),(5,.one (.ptr 2 0)),(6,.int i)]/\S=[(0,cB t w h b),(1,.cells [.f (.c .nils),.f (.c .nils),.f (FD.int 0)]),(2,.cells [.own 3 0 i 1,.own 4 0 bg.length 1,.f (FD.int b)]),(3,.tree (zD Qr R)),(4,.data (bg.flatMap Zj))]/\nk=5) (ms.length) ⟨0,[],[],oM,O,O,fun r hr=>(by cases hr),O,O,O⟩ ?_;rintro m E S nk ⟨i,R,bg,hm,hRl,hbl,hRr,rfl,rfl,rfl⟩;refine qc ?_;intros;refine qh O (fun g=>?_) (fun g=>?_)
 ·obtain⟨k,c1,c2,c3,c4,c5,c6,c7,c8,c9,hc⟩:=(ms.getD i default).ten;refine qc ?_;intros;refine vS (f:=MB.cells) (l:=ms) (j:=i) O O oM O qr MB.len ?_;rw [hc];refine qc ?_;intros;rw [show ((ms.length:Int)+1)=((ms.length+1:Nat):Int) by omega];refine qc ?_;intros;refine qN (fun m2 E S nk=>∃(j:Nat) (row:List Int),j+m2=ms.length+1/\i+1<=j/\row.length=ms.length+1/\E=[(0,Zy ms),(3,.one (.ptr 0 0)),(4,.one (.ptr 1 0)),(5,.one (.ptr 2 0)),(6,.int i),(7,.one (.own 7 0 (ms.length+1) 1)),(8,.int j)]/\S=[(0,cB t w h b),(1,.cells [.f (.c .nils),.f (.c .nils),.f (FD.int 0)]),(2,.cells [.own 3 0 i 1,.own 6 0 (bg++[k !=4]).length 1,.f (FD.int b)]),(3,.tree (zD Qr R)),(6,.data ((bg++[k !=4]).flatMap Zj)),(7,.data (row.flatMap yL))]/\nk=8) (ms.length-i) ⟨i+1,List.replicate (ms.length+1) 0,oM,qz _,xN,O,O,O⟩ ?_;rintro m2 E S nk ⟨j,row,hm2,hij,hrl,rfl,rfl,rfl⟩;refine qc ?_;intros;refine qh O (fun g2=>?_) (fun g2=>?_)
  ·refine qc ?_;intros;refine QU (f:=yL) (e:=1) (i:=j) (c:=0) (l:=row) (n:=1) (q:=[.c (.int .i64 (-1))]) (-1) O oM O O O O oM (fun _=>O) qr O O ?_;refine qc ?_;intros;refine vS (f:=MB.cells) (l:=ms) (j:=i) O O oM O qr MB.len ?_;rw [hc];refine qc ?_;intros;refine xw O (fun g3=>?_) (fun g3=>?_)
   ·refine qc ?_;intros;refine qf O O (hR (i0:=i) (i1:=j) oM oM) ?_;rintro _ ⟨q,a,e,rfl,hq,hqo⟩;refine qc ?_;intros;refine qf O O (BU (l:=q) (h:=h) oM oM oM) ?_;rintro _ ⟨p,a',e',rfl,he1,he2,hpl⟩;refine qc ?_;intros;refine qX O (fun g4=>?_) (fun g4=>?_)
    ·refine qc ?_;intros;refine QU (f:=yL) (e:=1) (i:=j) (c:=0) (l:=row.set j (-1)) (n:=1) (q:=[.c (.int .i64 (IntKind.i64.wrap (((p.length:Int)+1).tdiv 2)))]) (IntKind.i64.wrap (((p.length:Int)+1).tdiv 2)) O (by omega) O O O O (by rw [jG];omega) (fun _=>O) (by decide) O O ?_;refine qc ?_;intros;exact qG ⟨j+1,(row.set j (-1)).set j (IntKind.i64.wrap (((p.length:Int)+1).tdiv 2)),by omega,by omega,by rw [jG,jG];exact hrl,rfl,rfl,rfl⟩
    ·refine qc ?_;intros;exact qG ⟨j+1,row.set j (-1),by omega,by omega,by rw [jG];exact hrl,rfl,rfl,rfl⟩
   ·refine qc ?_;intros;exact qG ⟨j+1,row.set j (-1),by omega,by omega,by rw [jG];exact hrl,rfl,rfl,rfl⟩
  ·refine qc ?_;intros;refine A2 (R:=R) (q:=row) (f:=yL) (g:=Qr) (fun _=>O) O O O hRl O O hrl oM oM O ?_;refine qc ?_;intros;exact qM (m':=m-1) (by omega) ⟨i+1,R++[row],bg++[k !=4],by omega,by simp;omega,by simp;omega,fun r hr=>(by
    rcases xu.1 hr with hr|hr
    ·exact hRr r hr
    ·rw [xM.1 hr];exact hrl),rfl,rfl,rfl⟩ xp
 ·refine qc ?_;intros;have hbf:(bg.flatMap Zj).length=bg.length*1:=kH (fun _=>by rfl) _;have him:i=ms.length:=oM;refine qx (qg (k:=4) O (qg (k:=5) O (qv _))) (qg (k:=1) O (qg (k:=2) O (qg (k:=3) O (qg (k:=4) O (qv _))))) ?_;have hTl:(zD Qr R).length=i:=by rw [xX];exact hRl
  have hTl2:i=(zD Qr R).length:=hTl.symm;refine XF 3 O qo qo ?_;refine qF 4 O qo qo ?_;refine qc ?_;intros;refine qb ⟨_,O,O,⟨R,bg,b⟩,?_,by omega,by show R.length=_;omega,fun r hr=>hRr r hr,by show bg.length=_;omega⟩;show DV.agg [.f (.sl 1 i ((zD Qr R).map xn)),.f (.sl 1 bg.length (bg.flatMap Zj)),.f (FD.int b)]=_;rw [Xl (f:=yL) (g:=Qr) (fun _=>rfl),<-hRl];rfl
structure VolL where
 first:Int
 stop:Int
 rows:List RowL
 ends:List Int
 labs:List Int
 deriving Inhabited
def bF(v:VolL):List FD:=[.c (.int .i64 v.first),.c (.int .i64 v.stop),.sl 5 v.rows.length (v.rows.flatMap zr),.sl 1 v.ends.length (v.ends.flatMap yL),.sl 2 v.labs.length (v.labs.flatMap uP)]
structure VolOk (w h:Nat) (v:VolL):Prop where
 rl:v.rows.length<=10001
 rows:∀r∈v.rows,jE w r
 ends:Jp v.rows h v.ends
 el:v.ends.length<=v.rows.length
 ll:v.labs.length=(v.ends.length+1)/2
 lab:∀i,i<v.labs.length->v.labs.getD i default=(i+1:Nat)
theorem Hj{t:TbL}{w h b:Nat}(hh:4<=h/\h<=40){ms:List MB}(hl:ms.length<=5)(hR:Dz ms t w h b):DK 5 [Zy ms,kE t w h b] fun d=>∃(vs:List VolL) (w' h' b' a e:Int),d=.agg [.f (FD.int w'),.f (FD.int h'),.f (FD.int b'),.f (.sl 5 vs.length (vs.flatMap bF)),.f (FD.int a),.f (FD.int e)]/\vs.length<=10/\(∀v∈vs,VolOk w h v)/\(e=0->w'=w/\h'=h/\b'=b):=by
 refine wj ?_;refine xr ?_;intros;refine qf O O (hR (i0:=0) (i1:=ms.length) oM oM) ?_;rintro _ ⟨q,a,e,rfl,hq,hqo⟩;refine qc ?_;intros;refine xw O (fun g=>?_) (fun g=>?_)
 ·refine qc ?_;intros;exact qb ⟨_,O,O,.agg [.f (FD.int 0),.f (FD.int 0),.f (FD.int 0),.f (.sl 5 0 []),.f (FD.int a),.f (FD.int e)],nv,[],0,0,0,a,e,O,by simp,fun v hv=>(by cases hv),fun h=>absurd h g⟩
 ·refine qc ?_;intros;refine qf O O (P2 hh hl hR) ?_;rintro _ ⟨B,rfl,hB⟩;refine qc ?_;intros;refine qf O O (Gz hB) ?_;rintro _ ⟨s,e2,rfl,hs,hsp,hsl⟩;refine qc ?_;intros;refine xw O (fun g2=>?_) (fun g2=>?_)
  ·refine qc ?_;intros;exact qb ⟨_,O,O,.agg [.f (FD.int 0),.f (FD.int 0),.f (FD.int 0),.f (.sl 5 0 []),.f (FD.int 0),.f (FD.int e2)],nv,[],0,0,0,0,e2,O,by simp,fun v hv=>(by cases hv),fun h=>absurd h g2⟩
  ·refine qc ?_;intros;refine yG 3 3 5 O O ?_;refine qN (fun m E S nk=>∃(i f:Nat) (vs:List VolL),i+m=s.length/\f<=ms.length/\(f:Int)=jZ s i/\vs.length=i/\(∀v∈vs,VolOk w h v)/\E=[(0,Zy ms),(3,.one (.ptr 0 0)),(4,.one (.ptr 1 0)),(6,x7 s),(8,.one (.ptr 3 0)),(9,.int f),(10,.int i)]/\S=[(0,cB t w h b),(1,.cells [.f (FD.int 0),.f (FD.int 0),.f (FD.int 0),.f (.c .nils),.f (FD.int 0),.f (FD.int 0)]),(3,.cells [.f (FD.int w),.f (FD.int h),.f (FD.int b),.own 4 0 vs.length 5,.f (FD.int 0),.f (FD.int 0)]),(4,.data (vs.flatMap bF))]/\nk=5) (s.length) ⟨0,0,[],oM,oM,O,O,fun v hv=>(by cases hv),O,O,O⟩ ?_;rintro m E S nk ⟨i,f,vs,hm,hf,hfs,hvl,hvo,rfl,rfl,rfl⟩;refine qc ?_;intros;refine qh O (fun g3=>?_) (fun g3=>?_)
   ·have hy:=hs _ (qn (l:=s) (i:=i) oM);obtain⟨y,hyy⟩:∃y:Nat,s.getD i default=y:=⟨(s.getD i default).toNat,oM⟩;have hfy:f<=y:=by
     have:jZ s i<=s.getD i default:=by
      unfold jZ;split
      ·omega
      ·have h1:i-1<s.length:=oM;have h2:i<s.length:=oM;have:=List.pairwise_iff_getElem.1 hsp (i-1) i h1 h2 oM;rw [qT,qT,zge h1,zge h2];exact Int.le_of_lt this
     omega
    refine qc ?_;intros;rw [hyy];refine qf O O (hR (i0:=f) (i1:=y) oM oM) ?_;rintro _ ⟨q,a,e,rfl,hq,hqo⟩;refine qc ?_;intros;refine qf O O (BU (l:=q) (h:=h) oM oM oM) ?_;rintro _ ⟨p,a',e',rfl,he1,he2,hpl⟩;refine qc ?_;intros;have hw2:IntKind.i64.wrap (((p.length:Int)+1).tdiv 2)=(((p.length+1)/2:Nat):Int):=by
     rw [DP (by omega),qm (by omega) (by omega)];omega
    have hE:Jp q h p:=by
     rcases he1 with h0|⟨_,h0⟩
     ·exact (he2 h0).1
     ·intro j hj;rw [h0] at hj;cases hj
    rw [hw2,hyy];refine qf O O (U7 (n:=(p.length+1)/2) oM) ?_;rintro _ ⟨lb,rfl,hll,hlb⟩;refine qc ?_;intros;refine Wf O ?_;refine Ze (a:=(⟨f,y,q,p,lb⟩:VolL)) O O O ⟨O,O,_,O,O⟩ fG wY wY qr (fun _=>O) O ?_;refine qc ?_;intros;rw [hyy];exact qM (m':=m-1) (by omega) ⟨i+1,y,vs++[⟨f,y,q,p,lb⟩],by omega,by omega,(by rw [jZ,if_neg (by omega),bB,hyy]),by simp;omega,(fun v hv=>by
     rcases xu.1 hv with hv|hv
     ·exact hvo v hv
     ·rw [xM.1 hv];exact⟨hq,fun r hr=>(hqo r hr).1,hE,hpl,hll,fun j hj=>hlb j (by rw [<-hll];exact hj)⟩),rfl,rfl,rfl⟩ xp
   ·have hvf:(vs.flatMap bF).length=vs.length*5:=kH (fun _=>by rfl) _;refine qx (qg (k:=4) O (qg (k:=8) O (qv _))) (qg (k:=1) O (qg (k:=3) O (qg (k:=4) O (qv _)))) ?_;refine qF 4 O qo qo ?_;refine qc ?_;intros;exact qb ⟨_,O,O,.agg [.f (FD.int w),.f (FD.int h),.f (FD.int b),.f (.sl 5 vs.length (vs.flatMap bF)),.f (FD.int 0),.f (FD.int 0)],nv,vs,w,h,b,0,0,O,oM,hvo,fun _=>⟨O,O,O⟩⟩
end Go.Ai
