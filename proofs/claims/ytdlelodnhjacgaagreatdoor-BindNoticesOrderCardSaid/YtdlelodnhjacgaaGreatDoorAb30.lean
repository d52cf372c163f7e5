/- -/
import Derived.Test.YtdlelodnhjacgaaGreatDoorAb18
import Derived.Test.YtdlelodnhjacgaaGreatDoorAb27
import Derived.Test.YtdlelodnhjacgaaGreatDoorAb28
import Derived.Test.YtdlelodnhjacgaaGreatDoorAb29
set_option linter.unusedSimpArgs false
set_option linter.unusedVariables false
set_option maxRecDepth 8000
set_option maxHeartbeats 16000000
namespace Go.Ai
open Go.Ab Go.Proofs
abbrev kE(t:TbL)(w h b:Nat):DV:=.agg [.f (FD.int t.modes),.f (.c (.int .u8 t.acc)),.f (Z3 t),.f (FD.int w),.f (FD.int h),.f (FD.int b)]
abbrev cB(t:TbL)(w h b:Nat):Bk:=.cells [.f (FD.int t.modes),.f (.c (.int .u8 t.acc)),.f (Z3 t),.f (FD.int w),.f (FD.int h),.f (FD.int b)]
abbrev QJ(w N:Nat)(d:DV)(S:Bx)(nk:Nat):Prop:=∃(q:List RowL) (a e:Int),q.length<=N/\(∀r∈q,jE w r)/\d=fW 0 q.length a e/\S=[(0,.data (q.flatMap zr))]/\nk=2
abbrev d5(k lv:Int)(tx:ByteArray)(rows f:FD)(w h g:Int)(fs:FD)(pg:Int):DV:=.agg [.f (FD.int k),.f (FD.int lv),.f (.c (.str tx)),.f rows,.f f,.f (FD.int w),.f (FD.int h),.f (FD.int g),.f fs,.f (FD.int pg)]
theorem Fh(n:Nat):ze n≠[]:=by
 have key:∀k,(List.range k).foldl (yb n) [60]≠[]:=by
  intro k;induction k with
  |zero=>simp
  |succ k ih=>
   rw [XY,eN,YN,List.foldl_nil];unfold yb;split
   ·simp
   ·exact ih
 exact key 5
theorem IG{t:TbL}{w h b:Nat}(hw:24<=w/\w<=60){tr:Tr}(ho:tr.ok)(hl:tr.fl.length<=60)(hd:tr.dep<=8){x:FD}:jg 27 [d5 5 0 ⟨#[]⟩ (.c .nils) (gC tr.fl) 0 0 0 (.c .nils) 0,kE t w h b,.one (.f x)] (QJ w 2000):=by
 refine wv fun Z0 lo=>?_;refine qc ?_;intros;refine qf O O (Ac ho hl hd) ?_;rintro _ ⟨b0,rfl⟩;refine qc ?_;intros;refine qd O (fun g=>?_) (fun g=>?_)
 ·refine qc ?_;intros;refine qf O O (F4 ho hl hd) ?_;rintro _ ⟨L,e,rfl,hL,hL2⟩;refine qc ?_;intros;refine qY 3 O qo qo ?_;refine zw O O (dO (ns:=[2]) hw oM (fun l hl=>(hL2 l hl).1) (fun l hl=>(hL2 l hl).2) qr qr) ?_;rintro _ _ _ ⟨q2,e2,hq2l,hq2o,rfl,rfl,rfl⟩;refine qc ?_;intros;refine yF (E0:=[(6,.one (.ptr 1 0))]) (S0:=[(0,.data (q2.flatMap zr)),(1,.cells [.own 0 0 q2.length 5,.f (FD.int 0),.f (FD.int e2)])]) (n0:=2) xp ?_;exact qb ⟨_,O,O,_,qg O (qv _),q2,0,e2,oM,hq2o,O,O,O⟩
 ·refine qc ?_;intros;refine qf O O (pG ho hl hd) ?_;rintro _ ⟨c,e,rfl,hc,hcc⟩;refine qc ?_;intros;refine xw O (fun g3=>?_) (fun g3=>?_)
  ·refine qc ?_;intros;refine yG 2 0 5 O O ?_;refine yF (E0:=[(6,.one (.ptr 1 0))]) (S0:=[(0,.data (([]:List RowL).flatMap zr)),(1,.cells [.own 0 0 0 5,.f (FD.int 0),.f (FD.int e)])]) (n0:=2) xp ?_;exact qb ⟨_,O,O,_,qg O (qv _),[],0,e,by simp,fun r hr=>(by cases hr),rfl,rfl,rfl⟩
  ·refine qc ?_;intros;refine zw O O (pE (a:=5) (b:=7) oM (fun c hc=>(hcc c hc).1) hw qr qr) ?_;rintro _ _ _ ⟨q2,e3,hq2l,hq2o,rfl,rfl,rfl⟩;refine qc ?_;intros;refine yF (E0:=[(6,.one (.ptr 1 0))]) (S0:=[(0,.data (q2.flatMap zr)),(1,.cells [.own 0 0 q2.length 5,.f (FD.int 0),.f (FD.int e3)])]) (n0:=2) xp ?_;exact qb ⟨_,O,O,_,qg O (qv _),q2,0,e3,oM,hq2o,O,O,O⟩
theorem IF{t:TbL}{w h b:Nat}(hw:24<=w/\w<=60){p:Pic}(hF:VZ p){x:FD}:jg 27 [d5 6 0 ⟨#[]⟩ (.c .nils) (.c .nils) p.w p.h p.gap (.sl 3 p.fs.length (p.fs.flatMap ZA)) 0,kE t w h b,.one (.f x)] (QJ w 2000):=by
 refine wv fun Z0 lo=>?_;refine qc ?_;intros;refine qf O O (Ae hF) ?_;rintro _ ⟨n,m,R,a,e,rfl,hn,hm,hR⟩;refine qc ?_;intros;refine qf O O (C6 oM oM hR) ?_;rintro _ ⟨L,e1,rfl,hL,hL2⟩;refine qc ?_;intros;refine qY 4 O qo qo ?_;refine zw O O (dO (ns:=[3,(n:Int),(m:Int)]) hw (by omega) (fun l hl=>(hL2 l hl).1) (fun l hl=>(hL2 l hl).2) sM (fun v hv=>by
  rcases zd.1 hv with rfl|hv
  ·decide
  ·rcases zd.1 hv with rfl|hv
   ·omega
   ·rw [xM.1 hv];omega)) ?_
 rintro _ _ _ ⟨q2,e2,hq2l,hq2o,rfl,rfl,rfl⟩;refine qc ?_;intros;refine yF (E0:=[(6,.one (.ptr 1 0))]) (S0:=[(0,.data (q2.flatMap zr)),(1,.cells [.own 0 0 q2.length 5,.f (FD.int 0),.f (FD.int e2)])]) (n0:=2) xp ?_;exact qb ⟨_,O,O,_,qg O (qv _),q2,0,e2,oM,hq2o,O,O,O⟩
theorem IE{t:TbL}{w h b:Nat}(hw:24<=w/\w<=60){pg:Nat}(hp:1<=pg/\pg<=9999){x:FD}:jg 27 [d5 7 0 ⟨#[]⟩ (.c .nils) (.c .nils) 0 0 0 (.c .nils) pg,kE t w h b,.one (.f x)] (QJ w 2000):=by
 have hnl:=kS pg;refine wv fun Z0 lo=>?_;refine qc ?_;intros;refine qS O O (VH (n:=pg) oM) ?_;intros;refine We (n:=15) qU (0:Int) O O O O ⟨O,O,trivial⟩ O qr qr qr qr ?_;refine zn (f:=qU) (l:=List.replicate 15 0) (ze pg) O O O ⟨O,O,O⟩ xN O oM oM qr (fun _=>O) O ?_;have hll:((List.replicate 15 (0:Int)++ze pg).flatMap qU).length=(List.replicate 15 (0:Int)++ze pg).length*1:=kH (fun _=>by rfl) _;refine qY 4 O qo qo ?_;refine qc ?_;intros;refine yF (E0:=[(6,.one (.ptr 1 0))]) (S0:=[(0,.data ([(⟨List.replicate 15 0++ze pg,true,pg,0, -1⟩:RowL)].flatMap zr)),(1,.cells [.own 0 0 1 5,.f (FD.int 0),.f (FD.int 0)])]) (n0:=2) xp ?_;exact qb ⟨_,O,O,_,qg O (qv _),[⟨List.replicate 15 0++ze pg,true,pg,0, -1⟩],0,0,by simp,fun r hr=>(by
  rw [xM.1 hr];exact⟨by show (List.replicate 15 (0:Int)++ze pg).length<=w;rw [qE,xN];omega,LineOk.app .rep (Fh pg) (.pos kT),Ky _,by show (0:Int)<=pg;omega,by show (pg:Int)<=9999;omega⟩),rfl,rfl,rfl⟩
theorem pN{U:List StL}{t:TbL}{n:Nat}{s:ByteArray}(hu:TOk U t)(ho:Out n s)(hn:n<900):DK 77 [Zv t,xI s] fun d=>∃(c:List Int) (e:Int),d=.tup [qq c,.int e]/\c.length<=16*(n+1)/\qA c:=by
 refine xr ?_;intros;refine qf O O (UG hu ho hn) ?_;rintro _ ⟨c,p,a,e,rfl,hc,hcc⟩;refine qc ?_;intros;exact qb ⟨_,O,O,c,e,O,hc,hcc⟩
def Tq(s:ByteArray):List FD:=[.c (.str s)]
def Mb(r:List ByteArray):List FD:=[.sl 1 r.length (r.flatMap Tq)]
abbrev rT(rows:List (List ByteArray)):DV:=.one (.f (.sl 1 rows.length (rows.flatMap Mb)))
theorem UB{U:List StL}{t:TbL}(hu:TOk U t){w h b:Nat}(hw:24<=w/\w<=60){rows:List (List ByteArray)}{C:Nat}(hr0:0<rows.length)(hr:rows.length<=3)(hC0:0<C)(hC:C<=3)(hrow:∀r∈rows,r.length=C/\∀s∈r,Out 4 s):jg 44 [rT rows,kE t w h b] (QJ w 1000):=by
 refine wv fun Z0 lo=>?_;refine qc ?_;intros;refine qN (fun m E S nk=>∃(i:Nat) (q:List (List (List Int))),i+m=rows.length/\q.length=i/\(∀r∈q,r.length=C/\∀x∈r,x.length<100/\qA x)/\E=[(0,rT rows),(3,.one (.ptr 0 0)),(4,.one (.ptr 1 0)),(5,.one (.own 2 0 q.length 1)),(6,.int i)]/\S=[(0,cB t w h b),(1,wx),(2,.data (q.flatMap Cy))]/\nk=3) (rows.length) ⟨0,[],oM,O,fun r hr=>(by cases hr),O,O,O⟩ ?_;rintro m E S nk ⟨i,q,hm,hq,hq2,rfl,rfl,rfl⟩;refine qc ?_;intros;refine qh O (fun g=>?_) (fun g=>?_)
 ·obtain⟨hrl,hrs⟩:=hrow _ (qn (l:=rows) (i:=i) oM);refine qc ?_;intros;refine qN (fun m E S nk=>∃(k:Nat) (r:List (List Int)),k+m=C/\r.length=k/\(∀x∈r,x.length<100/\qA x)/\E=[(0,rT rows),(3,.one (.ptr 0 0)),(4,.one (.ptr 1 0)),(5,.one (.own 2 0 q.length 1)),(6,.int i),(7,.one (.own 3 0 r.length 1)),(8,.int k)]/\S=[(0,cB t w h b),(1,wx),(2,.data (q.flatMap Cy)),(3,.data (r.flatMap ja))]/\nk=4) C ⟨0,[],oM,O,fun x hx=>(by cases hx),O,O,O⟩ ?_;rintro m2 E S nk ⟨k,r,hm2,hk,hr2,rfl,rfl,rfl⟩;refine qc ?_;intros;refine qh O (fun g2=>?_) (fun g2=>?_)
  ·have hs:=hrs _ (qn (l:=rows.getD i default) (i:=k) oM);refine qc ?_;intros;refine qf O O (pN hu hs qr) ?_;rintro _ ⟨c,e,rfl,hc,hcc⟩;refine qc ?_;intros;refine xw O (fun g3=>?_) (fun g3=>?_)
   ·refine qc ?_;intros;refine yG 1 0 5 O O ?_;refine yF (E0:=[(4,.one (.ptr 1 0))]) (S0:=[(0,.data (([]:List RowL).flatMap zr)),(1,.cells [.own 0 0 0 5,.f (FD.int 0),.f (FD.int e)])]) (n0:=2) xp ?_;exact qb ⟨_,O,O,_,qg O (qv _),[],0,e,by simp,fun r hr=>(by cases hr),rfl,rfl,rfl⟩
   ·refine qc ?_;intros;exact qM (m':=m2-1) (by omega) ⟨k+1,r++[c],by omega,by simp;omega,(fun x hx=>by
     rcases xu.1 hx with h1|h1
     ·exact hr2 x h1
     ·rw [xM.1 h1];exact⟨by omega,hcc⟩),rfl,rfl,rfl⟩ xp
  ·have hl1:(r.flatMap ja).length=r.length*1:=kH (fun _=>by rfl) _;refine qF 3 O qo qo ?_;refine qc ?_;intros;exact qM (m':=m-1) (by omega) ⟨i+1,q++[r],by omega,by simp;omega,(fun x hx=>by
    rcases xu.1 hx with h1|h1
    ·exact hq2 x h1
    ·rw [xM.1 h1];exact⟨by omega,hr2⟩),rfl,rfl,rfl⟩ xp
 ·have hl1:(q.flatMap Cy).length=q.length*1:=kH (fun _=>by rfl) _;have hT:TabC q C:=⟨oM,oM,hC0,hC,fun r hr=>(hq2 r hr).1,fun r hr=>(hq2 r hr).2⟩;have h0:=(hrow _ (qn (l:=rows) (i:=0) hr0)).1;refine qF 2 O qo qo ?_;refine qc ?_;intros;refine qf O O (Hk hT hw) ?_;rintro _ ⟨L,f,e,rfl,hL,hL2,hf0,hf3⟩;refine qc ?_;intros;refine xw O (fun g3=>?_) (fun g3=>?_)
  ·refine qc ?_;intros;refine yG 1 0 5 O O ?_;refine yF (E0:=[(4,.one (.ptr 1 0))]) (S0:=[(0,.data (([]:List RowL).flatMap zr)),(1,.cells [.own 0 0 0 5,.f (FD.int 0),.f (FD.int e)])]) (n0:=2) xp ?_;exact qb ⟨_,O,O,_,qg O (qv _),[],0,e,by simp,fun r hr=>(by cases hr),rfl,rfl,rfl⟩
  ·refine qc ?_;intros;refine qY 4 O qo qo ?_;refine zw O O (dO (ns:=[1,f,((rows.getD 0 default).length:Int)]) hw hL (fun l hl=>by have:=(hL2 l hl).1;omega) (fun l hl=>(hL2 l hl).2) sM (fun v hv=>by
    rcases zd.1 hv with rfl|hv
    ·decide
    ·rcases zd.1 hv with rfl|hv
     ·omega
     ·rw [xM.1 hv];omega)) ?_
   rintro _ _ _ ⟨q2,e2,hq2l,hq2o,rfl,rfl,rfl⟩;refine qc ?_;intros;refine yF (E0:=[(4,.one (.ptr 1 0))]) (S0:=[(0,.data (q2.flatMap zr)),(1,.cells [.own 0 0 q2.length 5,.f (FD.int 0),.f (FD.int e2)])]) (n0:=2) xp ?_;exact qb ⟨_,O,O,_,qg O (qv _),q2,0,e2,oM,hq2o,O,O,O⟩
theorem US{l notes:List Int}(hl:l.length<50000)(hcl:qA l)(hn:notes.length<1000)(hv:∀v∈notes,0<=v/\v<=1000):DK 78 [qq l,x7 notes] fun d=>∃(c:List Int) (e:Int),d=.tup [qq c,.int e]/\c.length<=l.length+notes.length*8/\qA c:=by
 refine wj ?_;refine jY ?_;intros;refine qf O O (PR oM) ?_;rintro _ ⟨b,rfl⟩;cases b with
 |false=>
  refine ql ?_;intros;exact qb ⟨_,O,O,.tup [qq [],.int 180],nv,[],180,O,by simp,fun c hc=>(by cases hc)⟩
 |true=>
  refine ql ?_;intros;refine qN (fun m E S nk=>∃(i:Nat) (c:List Int),i+m=notes.length/\c.length<=l.length+i*8/\qA c/\E=[(0,qq l),(1,x7 notes),(7,.one (.own 0 0 c.length 1)),(8,.int i)]/\S=[(0,.data (c.flatMap qU))]/\nk=1) (notes.length) ⟨0,l,oM,oM,hcl,O,O,O⟩ ?_;rintro m E S nk ⟨i,c,him,hc,hcc,rfl,rfl,rfl⟩;refine ql ?_;intros;refine qh O (fun h=>?_) (fun h=>?_)
  ·have hvi:=hv _ (qn (l:=notes) (i:=i) oM);have hnp:=kS (notes.getD i default).toNat;by_cases h1:notes.getD i default<1
   ·refine ql ?_;intros;exact qb ⟨_,O,O,.tup [qq [],.int 220],nv,[],220,O,by simp,fun c hc=>(by cases hc)⟩
   ·refine ql ?_;intros;refine xG O (fun h2=>?_) (fun h2=>?_)
    ·have h2:=xo h2;refine ql ?_;intros;refine qd O (fun h3=>?_) (fun h3=>?_)
     ·refine ql ?_;intros;exact qb ⟨_,O,O,.tup [qq [],.int 220],nv,[],220,O,by simp,fun c hc=>(by cases hc)⟩
     ·refine ql ?_;intros;refine Zh O O (Ka oM oM) ?_;intros;refine zn [0,63] O O O ⟨O,O,_,O,O⟩ fG fG (by first|omega|(simp only [qE,xA,zR,xN];omega)) (by first|omega|(simp only [qE,xA,zR,xN];omega)) (by decide) (fun _=>O) O ?_;refine ql ?_;intros;exact qG ⟨i+1,c++[0,63]++ze (notes.getD i default).toNat,by omega,by simp only [qE,xA,zR];omega,(hcc.app (by decide)).app (.pos kT),rfl,rfl,rfl⟩
    ·refine ql ?_;intros;refine Zh O O (Ka oM oM) ?_;intros;refine zn [0,63] O O O ⟨O,O,_,O,O⟩ fG fG (by first|omega|(simp only [qE,xA,zR,xN];omega)) (by first|omega|(simp only [qE,xA,zR,xN];omega)) (by decide) (fun _=>O) O ?_;refine ql ?_;intros;exact qG ⟨i+1,c++[0,63]++ze (notes.getD i default).toNat,by omega,by simp only [qE,xA,zR];omega,(hcc.app (by decide)).app (.pos kT),rfl,rfl,rfl⟩
  ·refine ql ?_;intros;exact yV 4 5 O O O ⟨_,O,O,.tup [qq c,.int 0],nv,c,0,O,oM,hcc⟩
theorem Gw{f:FuncId}{ds ds':List DV}{R:DV->Bx->Nat->Prop}(hn:qe VY ds' ds)(h:jg f ds R):jg f ds' R:=fun H Z args hw hz hg ha=>h H Z args hw hz hg (NilVs.ok hn ha)
theorem FO{U:List StL}{t:TbL}(hu:TOk U t){w h b:Nat}(hw:24<=w/\w<=60){n:Nat}{s:ByteArray}(ho:Out n s)(hn:n<=40){i0 i1:Nat}(h0:i0<=16)(h1:i1<=16){notes:List Int}(hnl:notes.length<=10)(hv:∀v∈notes,0<=v/\v<=1000):jg 42 [xI s,kE t w h b,.agg [.f (.sl 1 1 ([(i0:Int)].flatMap yL)),.f (.sl 1 1 ([(i1:Int)].flatMap yL)),.f (.sl 1 notes.length (notes.flatMap yL))]] (QJ w 1000):=by
 refine wv fun Z0 lo=>?_;refine qc ?_;intros;refine qf O O (pN hu ho oM) ?_;rintro _ ⟨c,e,rfl,hc,hcc⟩;refine qc ?_;intros;refine xw O (fun g3=>?_) (fun g3=>?_)
 ·refine qc ?_;intros;refine yG 2 0 5 O O ?_;refine yF (E0:=[(6,.one (.ptr 1 0))]) (S0:=[(0,.data (([]:List RowL).flatMap zr)),(1,.cells [.own 0 0 0 5,.f (FD.int 0),.f (FD.int e)])]) (n0:=2) xp ?_;exact qb ⟨_,O,O,_,qg O (qv _),[],0,e,by simp,fun r hr=>(by cases hr),rfl,rfl,rfl⟩
 ·refine qc ?_;intros;refine qf O O (US oM hcc oM hv) ?_;rintro _ ⟨c2,e2,rfl,hc2,hcc2⟩;refine qc ?_;intros;refine xw O (fun g4=>?_) (fun g4=>?_)
  ·refine qc ?_;intros;refine yG 2 0 5 O O ?_;refine yF (E0:=[(6,.one (.ptr 1 0))]) (S0:=[(0,.data (([]:List RowL).flatMap zr)),(1,.cells [.own 0 0 0 5,.f (FD.int 0),.f (FD.int e2)])]) (n0:=2) xp ?_;exact qb ⟨_,O,O,_,qg O (qv _),[],0,e2,by simp,fun r hr=>(by cases hr),rfl,rfl,rfl⟩
  ·refine qc ?_;intros;refine VD (f:=yL) (l:=[(i0:Int)]) O O Nat.one_pos O qr (fun _=>O) ?_;refine qc ?_;intros;refine VD (f:=yL) (l:=[(i1:Int)]) O O Nat.one_pos O qr (fun _=>O) ?_;refine qc ?_;intros;refine zw O O (pE (a:=i0) (b:=i1) oM (fun c hc=>(hcc2 c hc).1) hw h0 h1) ?_;rintro _ _ _ ⟨q2,e3,hq2l,hq2o,rfl,rfl,rfl⟩;refine qc ?_;intros;refine yF (E0:=[(6,.one (.ptr 1 0))]) (S0:=[(0,.data (q2.flatMap zr)),(1,.cells [.own 0 0 q2.length 5,.f (FD.int 0),.f (FD.int e3)])]) (n0:=2) xp ?_;exact qb ⟨_,O,O,_,qg O (qv _),q2,0,e3,oM,hq2o,O,O,O⟩
theorem IK{U:List StL}{t:TbL}(hu:TOk U t){w h b:Nat}(hw:24<=w/\w<=60){n:Nat}{s:ByteArray}(ho:Out n s)(hn:n<=40){notes:List Int}(hnl:notes.length<=10)(hv:∀v∈notes,0<=v/\v<=1000):jg 27 [d5 1 0 s (.c .nils) (.c .nils) 0 0 0 (.c .nils) 0,kE t w h b,x7 notes] (QJ w 2000):=by
 refine wv fun Z0 lo=>?_;refine qc ?_;intros;refine qY 3 O qo qo ?_;refine qY 4 O qo qo ?_;refine zw O O (FO hu hw ho hn (i0:=2) (i1:=0) qr qr hnl hv) ?_;rintro _ _ _ ⟨q,a,e,hq,hqo,rfl,rfl,rfl⟩;refine qc ?_;intros;refine yF (E0:=[(6,.one (.ptr 1 0))]) (S0:=[(0,.data (q.flatMap zr)),(1,.cells [.own 0 0 q.length 5,.f (FD.int a),.f (FD.int e)])]) (n0:=2) xp ?_;exact qb ⟨_,O,O,_,qg O (qv _),q,a,e,oM,hqo,O,O,O⟩
theorem A8{U:List StL}{t:TbL}(hu:TOk U t){w h b:Nat}(hw:24<=w/\w<=60){n:Nat}{s:ByteArray}(ho:Out n s)(hn:n<=40){i0 i1:Nat}(h0:i0<=16)(h1:i1<=16):jg 42 [xI s,kE t w h b,.agg [.f (.sl 1 1 ([(i0:Int)].flatMap yL)),.f (.sl 1 1 ([(i1:Int)].flatMap yL)),.f (.c .nils)]] (QJ w 1000):=
 Gw (ds:=[xI s,kE t w h b,.agg [.f (.sl 1 1 ([(i0:Int)].flatMap yL)),.f (.sl 1 1 ([(i1:Int)].flatMap yL)),.f (.sl 1 ([]:List Int).length (([]:List Int).flatMap yL))]]) ⟨NilF.refl _,⟨NilF.refl _,NilF.refl _,NilF.refl _,NilF.refl _,NilF.refl _,NilF.refl _,trivial⟩,⟨NilF.refl _,NilF.refl _,NilF.nil 1,trivial⟩,trivial⟩ (FO hu hw ho hn h0 h1 qr fun v hv=>by cases hv)
theorem IH{U:List StL}{t:TbL}(hu:TOk U t){w h b:Nat}(hw:24<=w/\w<=60){n:Nat}{s:ByteArray}(ho:Out n s)(hn:n<=40){x:FD}:jg 27 [d5 4 0 s (.c .nils) (.c .nils) 0 0 0 (.c .nils) 0,kE t w h b,.one (.f x)] (QJ w 2000):=by
 refine wv fun Z0 lo=>?_;refine qc ?_;intros;refine qY 3 O qo qo ?_;refine qY 4 O qo qo ?_;refine zw O O (A8 hu hw ho hn (i0:=3) (i1:=1) qr qr) ?_;rintro _ _ _ ⟨q,a,e,hq,hqo,rfl,rfl,rfl⟩;refine qc ?_;intros;refine yF (E0:=[(6,.one (.ptr 1 0))]) (S0:=[(0,.data (q.flatMap zr)),(1,.cells [.own 0 0 q.length 5,.f (FD.int a),.f (FD.int e)])]) (n0:=2) xp ?_;exact qb ⟨_,O,O,_,qg O (qv _),q,a,e,oM,hqo,O,O,O⟩
theorem IJ{U:List StL}{t:TbL}(hu:TOk U t){w h b:Nat}(hw:24<=w/\w<=60){n lv:Nat}(hlv:lv<=3){s:ByteArray}(ho:Out n s)(hn:n<=40){x:FD}:jg 27 [d5 2 lv s (.c .nils) (.c .nils) 0 0 0 (.c .nils) 0,kE t w h b,.one (.f x)] (QJ w 2000):=by
 refine wv fun Z0 lo=>?_;refine qc ?_;intros;refine qY 3 O qo qo ?_;refine qY 4 O qo qo ?_;refine zw O O (A8 hu hw ho hn (i0:=4*lv) (i1:=4*lv+2) oM oM) ?_;rintro _ _ _ ⟨q,a,e,hq,hqo,rfl,rfl,rfl⟩;refine O3 (E0:=[(54,fW 0 q.length a e),(6,.one (.ptr 1 0))]) (S0:=[(0,.data (q.flatMap zr)),(1,wx)]) (n0:=3) xp ?_;refine iL O O O (IB oM hqo _ _ _ _ _) ?_;rintro _ _ _ ⟨q',hq',hqo',rfl,rfl,rfl⟩;refine qc ?_;intros;refine yF (E0:=[(6,.one (.ptr 1 0))]) (S0:=[(0,.data (q'.flatMap zr)),(1,.cells [.own 0 0 q'.length 5,.f (FD.int a),.f (FD.int e)])]) (n0:=2) xp ?_;exact qb ⟨_,O,O,_,qg O (qv _),q',a,e,oM,hqo',O,O,O⟩
theorem Eu(rows:List (List ByteArray)):DV.one (.f (YW rows))=rT rows:=by
 have h1:∀r:List ByteArray,r.map (fun s=>FD.c (.str s))=r.flatMap Tq:=by
  intro r;induction r with
  |nil=>rfl
  |cons s r ih=>rw [jr,wB,ih];rfl
 have h2:rows.map kR=rows.flatMap Mb:=by
  induction rows with
  |nil=>rfl
  |cons r rows ih=>
   rw [jr,wB,ih];show kR r::_=_;rw [kR,h1];rfl
 rw [YW,h2]
theorem II{U:List StL}{t:TbL}(hu:TOk U t){w h b:Nat}(hw:24<=w/\w<=60){rows:List (List ByteArray)}{C:Nat}(hr0:0<rows.length)(hr:rows.length<=3)(hC0:0<C)(hC:C<=3)(hrow:∀r∈rows,r.length=C/\∀s∈r,Out 4 s){x:FD}:jg 27 [d5 3 0 ⟨#[]⟩ (YW rows) (.c .nils) 0 0 0 (.c .nils) 0,kE t w h b,.one (.f x)] (QJ w 2000):=by
 have htb:=UB hu (h:=h) (b:=b) hw hr0 hr hC0 hC hrow;rw [<-Eu] at htb;refine wv fun Z0 lo=>?_;refine qc ?_;intros;refine zw O O htb ?_;rintro _ _ _ ⟨q,a,e,hq,hqo,rfl,rfl,rfl⟩;refine qc ?_;intros;refine yF (E0:=[(6,.one (.ptr 1 0))]) (S0:=[(0,.data (q.flatMap zr)),(1,.cells [.own 0 0 q.length 5,.f (FD.int a),.f (FD.int e)])]) (n0:=2) xp ?_;exact qb ⟨_,O,O,_,qg O (qv _),q,a,e,oM,hqo,O,O,O⟩
theorem PE{U:List StL}{t:TbL}(hu:TOk U t){w h b:Nat}(hw:24<=w/\w<=60){m:MB}(hm:m.good){notes:List Int}(hnl:notes.length<=10)(hv:∀v∈notes,0<=v/\v<=1000):jg 27 [.agg (m.cells.map .f),kE t w h b,x7 notes] (QJ w 2000):=by
 cases m with
 |text note s=>cases note with
  |false=>exact IK hu hw (Gd.toOut hm) qr hnl hv
  |true=>exact IH hu hw (Gd.toOut hm) qr
 |head lv s=>exact IJ hu hw hm.2.1 (Gd.toOut hm.2.2) qr
 |tab rows=>
  obtain⟨h1,h2,c,h3,h4,h5⟩:=hm;exact II hu hw h1 h2 h3 h4 fun r hr=>⟨(h5 r hr).1,fun s hs=>((h5 r hr).2 s hs).toOut⟩
 |math t=>exact IG hw hm.1 hm.2.2 hm.2.1
 |map p=>exact IF hw hm.1
 |ink page=>exact IE hw ⟨hm.1,by have:=hm.2;omega⟩
end Go.Ai
