/- -/
import Derived.Test.YtbfbplnghpdmhaaGreatDoorAb20
set_option linter.unusedSimpArgs false
set_option maxHeartbeats 16000000
set_option linter.unusedVariables false
namespace Go.Ag
open Go.Ab Go.Proofs
theorem FS {pc:Pic} {l:List (List qc)} (hsm:∀c∈l,(∀q∈c,zP q=true)/\c.length<=256) (hn:l.length<1000)
 {fid:FuncId} {sg bd:Code} (hsg:xS Tryz.prog 1 fG.n sg=some (.seq (.ops mN 0) (.ops mM 0))) (hbd:xS Tryz.prog 1 fG.n bd=some uJ):
 ZX 90 [.one (.yl 6),.one (.ptr 5 0)] (cS pc l 0 0 0 (YV .ready none fid sg bd)) 7 fun _ S' nk'=>
  (jJ pc.gap l/\S'=cS pc l 0 0 0 (YV .ready none fid sg bd)/\nk'=7)\/(∃i k:Nat,aB pc.gap l i k/\S'=cS pc l i k 140 (YV .done (some .ret) fid sg bd)/\nk'=7):=by
 refine vb qbd rfl fun Z β H lo=>?_;refine qb ?_;intros;refine qm (fun m E S nk=>∃i:Nat,i+m=l.length/\(∀(i' k':Nat) a b,i'<k'->i'<i->l[i']?=some a->l[k']?=some b->¬x8 a b<=pc.gap)/\E=[(0,.one (.yl 6)),(1,.one (.ptr 5 0)),(5,.int l.length),(6,.int i)]/\S=cS pc l 0 0 0 (YV .ready none fid sg bd)/\nk=7)
  ⟨l.length,_,_,_,[],?wk,0,oM,fun i' k' a b _ h=>oM,rfl,rfl,rfl⟩ ?_
 case wk=>exact ql
 rintro m E S nk ⟨i,hi,hok,rfl,rfl,rfl⟩;refine qb ?_;intros;refine qd rfl (fun ht=>?_) (fun ht=>?_)
 ·have ht:i<l.length:=by have:=xL ht;omega
  obtain⟨a,ha⟩:∃r,l[i]?=some r:=⟨_,zge ht⟩;refine qb ?_;intros;refine qm (fun m E S nk=>∃k:Nat,k+m=l.length/\i<k/\(∀(k':Nat) b,i<k'->k'<k->l[k']?=some b->¬x8 a b<=pc.gap)/\E=[(0,.one (.yl 6)),(1,.one (.ptr 5 0)),(3,.int i),(4,.int k),(5,.int l.length),(6,.int i)]/\S=cS pc l 0 0 0 (YV .ready none fid sg bd)/\nk=7)
   ⟨l.length-(i+1),_,_,_,[],?wk2,i+1,oM,oM,fun k' b _ h=>oM,rfl,rfl,rfl⟩ ?_
  case wk2=>exact ql
  rintro m2 E S nk ⟨k,hk,hik,hok2,rfl,rfl,rfl⟩;refine qb ?_;intros;refine qd rfl (fun ht2=>?_) (fun ht2=>?_)
  ·have ht2:k<l.length:=by have:=xL ht2;omega
   obtain⟨b,hb⟩:∃r,l[k]?=some r:=⟨_,zge ht2⟩;refine qb ?_;intros;refine T7 (i:=i) (k:=k) ha hb hsm hsg hbd rfl (zK _) rfl rfl rfl (fun hd=>?_) (fun hd=>?_)
   ·refine qb ?_;intros;refine qd rfl (fun _=>?_) (fun h=>by cases h);refine qf ⟨_,rfl,rfl,_,zK _,.inr ⟨i,k,⟨⟨a,b,hik,ha,hb,hd⟩,fun i' k' a' b' h1 h2 h3 h4=>?_⟩,rfl,rfl⟩⟩;rcases h2 with h2|⟨rfl,h2⟩
    ·exact hok i' k' a' b' h1 h2 h3 h4
    ·rw [ha] at h3;rw [<-zsi h3];exact hok2 k' b' h1 h2 h4
   ·refine qb ?_;intros;refine qd rfl (fun h=>by cases h) (fun _=>?_);refine qb ?_;intros;refine⟨m2-1,oM,_,_,_,[],?wk3,k+1,oM,oM,?hno,rfl,rfl,rfl⟩
    case hno=>
     intro k' b' h1 h2 h3;by_cases hkk:k'=k
     ·subst hkk;rw [hb] at h3;rw [<-zsi h3];exact hd
     ·exact hok2 k' b' h1 oM h3
    case wk3=>exact ql
  ·have ht2:k=l.length:=by have:=xP ht2;omega
   refine qb ?_;intros;refine⟨m-1,oM,_,_,_,[],?wk4,i+1,oM,?hno3,rfl,rfl,rfl⟩
   case hno3=>
    intro i' k' a' b' h1 h2 h3 h4;by_cases hii:i'=i
    ·subst hii;rw [ha] at h3;rw [<-zsi h3];exact hok2 k' b' h1 (by have:=(zgs h4).1;omega) h4
    ·exact hok i' k' a' b' h1 oM h3 h4
   case wk4=>exact ql
 ·have ht:i=l.length:=by have:=xP ht;omega
  subst ht;refine qb ?_;intros;exact⟨_,rfl,rfl,_,zK _,.inl ⟨fun i k a b h1 h2 h3=>hok i k a b h1 (zgs h2).1 h2 h3,rfl,rfl⟩⟩
theorem IH{n:Int}:oE 59 [.int n] fun d S nk=>d=.one (.fn 90 [(0,0)])/\S=[(0,.cells [.f (.c (.int .i64 n))])]/\nk=1:=by
 refine Xp qbD rfl xa fun Z0 lo=>?_;refine qb ?_;intros;exact qf ⟨_,rfl,rfl,_,zK _,rfl,rfl,rfl⟩
theorem u6{p:Pic}(hv:∀f∈p.fs,zd f=true)(hn:p.fs.length<1000):DK 58 [yW p] fun d=>d=zN (qp p):=by
 refine qD qbE rfl xa fun Z0 lo=>?_;refine qb ?_;intros;refine uV [.c .nils] rfl rfl ⟨rfl,rfl,trivial⟩ rfl (by decide) (Nat.le_refl _) oM oM ?_;refine qb ?_;intros;refine qm (fun m E S nk=>∃(i:Nat) (L:List FD),i+m=p.fs.length/\dR p i L/\E=[(1,.one (.ptr 0 0)),(3,.one (.own 1 0 p.fs.length 1)),(11,.int p.fs.length),(12,.int i)]/\S=[(0,.cells (jR p)),(1,.data L)]/\nk=2)
  ⟨p.fs.length,_,_,_,[],?wk,0,yM [.c .nils] p.fs.length,oM,⟨?hl,fun j f hj=>oM⟩,rfl,rfl,rfl⟩ ?_
 case wk=>exact ql
 case hl=>rw [kU];simp
 rintro m E S nk ⟨i,L,hi,hL,rfl,rfl,rfl⟩;refine qb ?_;intros;refine qd rfl (fun hi2=>?_) (fun hi2=>?_)
 ·have hi2:i<p.fs.length:=by have:=xL hi2;omega
  obtain⟨f,hf⟩:∃f,p.fs[i]?=some f:=⟨_,zge hi2⟩;have e1:=ZK hf;have hLl:=hL.1;refine qb ?_;intros;refine qk rfl rfl (JG (hv f (zmg hf))) ?_;rintro _ rfl;refine qb ?_;intros;have hle:i+1<=(Bk.data L).len:=by simp only [Bk.len];omega
  refine vB rfl rfl rfl rfl rfl hle rfl ?_;refine yA ?_;refine qb ?_;intros;refine⟨m-1,oM,_,_,_,[],?wk1,i+1,L.set i (qL (xd f)),oM,hL.step hf,rfl,rfl,rfl⟩
  case wk1=>exact ql
 ·have hi2:i=p.fs.length:=by have:=xP hi2;omega
  subst hi2;have hLl:L.length=p.fs.length*1:=by rw [hL.1];omega
  refine qb ?_;intros;refine qu (qe (k:=2) rfl (qy _)) (qe (k:=1) rfl (qy _)) ?_;refine xn 1 rfl qR qR ?_;refine qf ⟨_,rfl,rfl,?_⟩;rw [hL.all,show p.fs.length=(qp p).length by simp [qp]];rfl
theorem IF{p:Par}{n:Nat}{Q:Exit->qq->Bx->Nat->Prop}{E:qq}{S:Bx}{nk:Nat}{s:SC}(h:DPS p n s Q E ((nk,.data [])::S) (nk+1)):DPS p n s Q E S nk:=.mk fun Z β H F hS hE=>
 h.run Z _ H F (Zi hS) (hE.mono (xo.refl Z H) (hS.ble .nil))
structure Grow (g:Int) (rest:List qc) (x:qc) (c:List qc) (R:xU):Prop where
 inc:x∈c
 nd:c.Nodup
 conn:∀y∈c,Conn g rest x y
 holds:vK R (minus rest c)
def LI(g:Int)(rest c:List qc)(i:Nat):Prop:=∀(k:Nat) (q:qc),k<i->c[k]?=some q->∀y∈rest,xy q y<=g->y∈c
theorem Grow.len{g:Int}{rest c:List qc}{x:qc}{R:xU}(h:Grow g rest x c R):c.length<=rest.length:=wA h.nd fun y hy=>(h.conn y hy).mem
theorem Grow.take{g:Int}{rest c:List qc}{x q:qc}{R:xU}{dy:Int}(h:Grow g rest x c R)(hr:rest.Nodup)(hq:q∈c)(h1: -g<=dy)(h2:dy<=g):
 Grow g rest x (c++jZ R (q.2+dy) (q.1-g) (q.1+g)) (lft R (q.2+dy) (q.1-g) (q.1+g))/\((minus rest (c++jZ R (q.2+dy) (q.1-g) (q.1+g))).length:Int)=(minus rest c).length-(jZ R (q.2+dy) (q.1-g) (q.1+g)).length/\
  ∀y∈rest,xy q y<=g->y.2=q.2+dy->y∈c++jZ R (q.2+dy) (q.1-g) (q.1+g):=by
 obtain⟨t1,t2,t3,t4⟩:=h.holds.take (List.Pairwise.filter _ hr) (q.2+dy) (q.1-g) (q.1+g);generalize jZ R (q.2+dy) (q.1-g) (q.1+g)=T at *;refine⟨⟨List.mem_append_left _ h.inc,?_,fun y hy=>?_,?_⟩,?_,fun y hy hf hd=>?_⟩
 ·rw [List.nodup_append];refine⟨h.nd,t2,fun a ha b hb e=>?_⟩;subst e;exact (yg.1 ((t3 a).1 hb).1).2 ha
 ·rcases List.mem_append.1 hy with hy|hy
  ·exact h.conn y hy
  ·obtain⟨h3,h4,h5,h6⟩:=(t3 y).1 hy;exact .step (h.conn q hq) (yg.1 h3).1 ((bV q y g).2 ⟨h5,h6,oM,oM⟩)
 ·rw [<-eS];exact t1
 ·rw [<-eS];omega
 ·by_cases hc:y∈c
  ·exact List.mem_append_left _ hc
  ·have:=(bV q y g).1 hf;exact List.mem_append_right _ ((t3 y).2 ⟨yg.2 ⟨hy,hc⟩,hd,this.1,this.2.1⟩)
theorem cH{l:List qc}{gap:Int}(hs:∀p∈l,qE 1000000 p)(hn:l.length<100000):DK 50 [qz l,.int gap] fun d=>∃cs,d=zN cs/\ClS (min (max gap 0) 2000) (qr l) cs:=by
 refine qD qbM rfl xa fun Z0 lo=>?_;have hsl:(qr l).length<100000:=by
  have:=wA (xg l).nodup (fun x hx=>qO.1 hx);omega
 have hss:∀p∈qr l,qE 1000000 p:=fun x hx=>hs x (qO.1 hx);have hP:=xg l;have fin:DPS (Par.base Tryz.prog 1 (H00 1) Z0 lo) Vm.n (.seq (.ops uH 0) (.seq (.seq (.ops uG 0) (.block 0 (.loop gC))) (.seq (.ops mK 0) (.seq (.ops mJ 0) (.seq (.ops mI 0) (.seq (.seq (.ops mE 0) (.block 2 (.loop uI))) (.seq (.ops mD 0) .ret))))))) (GF (Par.base Tryz.prog 1 (H00 1) Z0 lo) Vm.res fun d=>∃cs,d=zN cs/\ClS (min (max gap 0) 2000) (qr l) cs)
  [(1,.int gap),(4,.one (.f (.c .nils))),(5,qz (qr l))] [] 0:=by
  generalize qr l=P at *;refine jp ?_;refine jq j3 (fun base=>?_);refine ID ?_;refine qb ?_;intros;refine JC [] (n0:=3) (E0:=[(1,.int gap),(4,.one (.f (.c .nils))),(5,qz P),(6,.one (.ptr 1 0)),(7,.one (.ptr 2 0)),(27,qz P),(28,.int P.length),(29,.int 0)]) (S0:=S3 [] P.length) ⟨ze,sU rfl rfl rfl oM,rfl,rfl⟩ ?_;refine IY hP oM fun R0 hR0=>?_;refine qb ?_;intros;refine vD 11 1 rfl ?_;obtain⟨g,hg⟩:∃g,min (max gap 0) 2000=g:=⟨_,rfl⟩;have hg0:0<=g:=by omega
  have hg1:g<=2000:=by omega
  rw [hg];obtain⟨N,hN⟩:∃N,P.length=N:=⟨_,rfl⟩;refine qm (fun m E S nk=>∃(j:Nat) (rest:List qc) (out:List (List qc)) (R:xU),j+m=N/\qJ rest/\(∀x∈rest,x∈P.drop j)/\vK R rest/\out.length+rest.length<=N/\(∀cs,ClS g rest cs->ClS g P (out++cs))/\E=[(1,.int g),(7,.one (.ptr 2 0)),(10,.one (.fn 84 [(1,0),(2,0)])),(11,.one (.own 3 0 out.length 1)),(49,qz P),(50,.int N),(51,.int j)]/\S=S4 R rest.length (out.map qL)/\nk=4) ⟨N,_,_,_,[],?wk,0,P,[],R0,by omega,hP,fun x hx=>by simpa using hx,hR0,by simp;omega,fun cs h=>h,rfl,rfl,rfl⟩ ?_
  case wk=>rw [<-hN];exact⟨ze,gS rfl rfl rfl rfl (by omega),rfl,rfl⟩
  rintro m E S nk ⟨j,rest,out,R,hjm,hro,hsub,hR,hout,hcl,rfl,rfl,rfl⟩;have hrP:∀x∈rest,x∈P:=fun x hx=>List.mem_of_mem_drop (hsub x hx);have hol:(out.map qL).length=out.length*1:=by simp
  refine qb ?_;intros;refine qd rfl (fun ht=>?_) (fun ht=>?_)
  ·simp at ht;obtain⟨x,hx⟩:∃x,P[j]?=some x:=⟨_,zge oM⟩;have e1:=xi hx;refine IF ?_;have hdr:P.drop j=x::P.drop (j+1):=by
    rw [List.drop_eq_getElem_cons (by omega),(zgs hx).2]
   obtain⟨t1,t2,t3,t4⟩:=hR.take hro.nodup x.2 x.1 x.1;have tx:∀y∈jZ R x.2 x.1 x.1,y=x:=fun y hy=>by
    obtain⟨_,h1,h2,h3⟩:=(t3 y).1 hy;exact Prod.ext oM h1
   refine qb ?_;intros;refine yB (E0:=[(1,.int g),(7,.one (.ptr 2 0)),(10,.one (.fn 84 [(1,0),(2,0)])),(11,.one (.own 3 0 out.length 1)),(49,qz P),(50,.int N),(51,.int j),(55,.one (.fn 84 [(1,0),(2,0)])),(57,.int x.2),(59,.int x.1),(61,.int x.1)]) (S0:=SS R rest.length (out.map qL) [] x.1 x.2)
    (qe (k:=1) rfl (qe (k:=7) rfl (qe (k:=10) rfl (qe (k:=11) rfl (qe (k:=49) rfl (qe (k:=50) rfl (qe (k:=51) rfl (qe (k:=55) rfl (qe (k:=57) rfl (qe (k:=59) rfl (qe (k:=61) rfl (qy _))))))))))))
    (qe (k:=0) rfl (qe (k:=1) rfl (qe (k:=2) rfl (qe (k:=3) rfl (qe (k:=4) rfl (qe (k:=5) rfl (qy _))))))) ?_
   refine ED rfl G1 rfl rfl rfl (rP (R:=R) (left:=rest.length) (y:=x.2) (low:=x.1) (high:=x.1) (A:=out.map qL) (B:=[]) (a:=x.1) (b:=x.2) hR.1.ok oM oM _ _ _ _ _) ?_;rintro _ _ _ ⟨rfl,rfl,rfl⟩;by_cases hxr:x∈rest
   ·have hT:jZ R x.2 x.1 x.1=[x]:=by
     rcases only t2 tx with h|h
     ·have:=(t3 x).2 ⟨hxr,rfl,oM,oM⟩;rw [h] at this;simp at this
     ·exact h
    rw [hT] at t1 t4 ⊢;obtain⟨r,rfl⟩:∃r,rest=x::r:=by
     cases rest with
     |nil=>simp at hxr
     |cons a r=>
      refine⟨r,?_⟩;by_cases hax:a=x
      ·rw [hax]
      ·have ha:=hsub a (by simp);rw [hdr] at ha;rcases List.mem_cons.1 ha with h|h
       ·exact absurd h hax
       ·have hb1:xq x a=true:=by
         have h5:qJ (P.drop j):=List.Pairwise.sublist (List.drop_sublist j P) hP;rw [hdr,qJ,List.pairwise_cons] at h5;exact h5.1 a h
        have hb2:xq a x=true:=by
         rcases List.mem_cons.1 hxr with h6|h6
         ·exact absurd h6.symm hax
         ·rw [qJ,List.pairwise_cons] at hro;exact hro.1 x h6
        exact absurd (wN hb1 hb2) jz
    have hrn:=hro.nodup;have hL1:(((x::r).length:Nat):Int)-(([x].length:Nat):Int)=((minus (x::r) [x]).length:Nat):=by omega
    rw [hL1];generalize hlf:lft R x.2 x.1 x.1=R1 at t1 ⊢;clear hlf;obtain⟨M,hM⟩:∃M,(x::r).length=M:=⟨_,rfl⟩;have hM2:M=r.length+1:=by rw [<-hM];simp
    refine qb ?_;intros;refine qd rfl (fun h=>by simp at h) (fun _=>?_);refine qb ?_;intros;refine qm (fun m E S nk=>∃(i:Nat) (c:List qc) (R:xU),Grow g (x::r) x c R/\LI g (x::r) c i/\i<=c.length/\m=M-i/\E=[(1,.int g),(7,.one (.ptr 2 0)),(10,.one (.fn 84 [(1,0),(2,0)])),(11,.one (.own 3 0 out.length 1)),(14,.one (.own 4 0 c.length 2)),(15,.int i),(49,qz P),(50,.int N),(51,.int j)]/\S=S5 R (minus (x::r) c).length (out.map qL) (c.flatMap qh)/\nk=5) ⟨M,_,_,_,[(4,7)],?wk1,0,[x],R1,⟨by simp,by simp,fun y hy=>?hy,t1⟩,fun k q h=>(by omega),by omega,by omega,rfl,rfl,rfl⟩ ?_
    case wk1=>exact⟨ze,UC rfl rfl rfl rfl rfl oM,rfl,rfl⟩
    case hy=>simp at hy;subst hy;exact .base (by simp)
    rintro m2 E S nk ⟨i,c,R,hG,hD,hic,hm2,rfl,rfl,rfl⟩;have hcM:=hG.len;rw [hM] at hcM;have hcP:∀y∈c,y∈P:=fun y hy=>hrP y (hG.conn y hy).mem;have hcf:=xc c;have hpos:0<c.length:=List.length_pos_of_mem hG.inc;have hms:minus (x::r) (qr c)=minus (x::r) c:=by unfold minus;congr 1;funext z;simp [qO]
    have hmr:(minus (x::r) c).length<=r.length:=Yf hG.inc;simp only [List.length_cons] at hout;have step:(∀q∈c,∀y∈(x::r),xy q y<=g->y∈c)->∀cs,ClS g (minus (x::r) c) cs->ClS g P (out++[qr c]++cs):=fun hclo cs hcs=>by
     rw [List.append_assoc];refine hcl _ (.cons (xg c) (fun y=>qO.trans (Vq hG.inc hG.conn hclo y)) ?_);rw [hms];exact hcs
    have hdrop:∀y∈minus (x::r) c,y∈P.drop (j+1):=fun y hy=>by
     obtain⟨h1,h2⟩:=yg.1 hy;have h3:=hsub y h1;rw [hdr] at h3;rcases List.mem_cons.1 h3 with h|h
     ·subst h;exact absurd hG.inc h2
     ·exact h
    by_cases hi:i<c.length
    ·have g1:decide ((i:Int)<c.length)=true:=by simpa using hi
     by_cases hl:0<(minus (x::r) c).length
     ·have g2:decide (((minus (x::r) c).length:Int)>0)=true:=by simpa using hl
      refine qU ?_;intros;refine qd rfl (fun _=>?_) (fun h=>by cases h);obtain⟨q,hq⟩:∃q,c[i]?=some q:=⟨_,zge hi⟩;have hqc:q∈c:=zmg hq;obtain⟨q1,q2,q3,q4⟩:=hss q (hcP q hqc);have e2:xK (c.flatMap qh) (Int.toNat ((i:Nat):Int)*2) 2=some (qh q):=xi hq;refine qb ?_;intros;rw [show IntKind.i64.wrap (0-g)= -g by rw [qo (by omega) (by omega)];omega];refine qm (fun k E S nk=>∃(dy:Int) (c' ext:List qc) (R:xU), -g<=dy/\dy<=g+1/\k=(g+1-dy).toNat/\c'=c++ext/\Grow g (x::r) x c' R/\(∀y∈(x::r),xy q y<=g->y.2<q.2+dy->y∈c')/\E=[(1,.int g),(7,.one (.ptr 2 0)),(10,.one (.fn 84 [(1,0),(2,0)])),(11,.one (.own 3 0 out.length 1)),(14,.one (.own 4 0 c'.length 2)),(15,.int i),(16,.one (.ptr 5 0)),(17,.int dy),(49,qz P),(50,.int N),(51,.int j)]/\S=SS R (minus (x::r) c').length (out.map qL) (c'.flatMap qh) q.1 q.2/\nk=6) ⟨(g+1- -g).toNat,_,_,_,[],?wk3, -g,c,[],R,by omega,by omega,rfl,by simp,hG,fun y hy hf h=>?h0,rfl,rfl,rfl⟩ ?_
      case wk3=>exact⟨ze,sT rfl rfl rfl rfl rfl rfl oM,rfl,rfl⟩
      case h0=>have:=(bV q y g).1 hf;omega
      rintro k E S nk ⟨dy,c',ext,R',hd1,hd2,hk,hce,hG',hnear,rfl,rfl,rfl⟩;have hcM':=hG'.len;rw [hM] at hcM';have hcl':c'.length=c.length+ext.length:=by rw [hce];simp
      have hqc':q∈c':=by rw [hce];exact List.mem_append_left _ hqc
      have hcf':=xc c';refine qb ?_;intros;refine qd rfl (fun ht2=>?_) (fun ht2=>?_)
      ·simp at ht2;obtain⟨k1,k2,k3⟩:=hG'.take hrn hqc' hd1 ht2;have hmr':(minus (x::r) c').length<=r.length:=Yf hG'.inc;have w1:IntKind.i64.wrap (q.2+dy)=q.2+dy:=qo oM oM;have w2:IntKind.i64.wrap (q.1-g)=q.1-g:=qo oM oM;have w3:IntKind.i64.wrap (q.1+g)=q.1+g:=qo oM oM;refine qb ?_;intros;rw [w1,w2,w3];refine ED rfl G1 rfl rfl rfl (rP (R:=R') (left:=(minus (x::r) c').length) (y:=q.2+dy) (low:=q.1-g) (high:=q.1+g) (A:=out.map qL) (B:=c'.flatMap qh) (a:=q.1) (b:=q.2) hG'.holds.1.ok oM oM _ _ _ _ _) ?_;rintro _ _ _ ⟨rfl,rfl,rfl⟩;generalize jZ R' (q.2+dy) (q.1-g) (q.1+g)=T at *;generalize lft R' (q.2+dy) (q.1-g) (q.1+g)=R2 at *;have hTM:=k1.len;rw [hM,List.length_append] at hTM;have hTf:=xc T;refine qb ?_;intros;refine qY (q:=T.flatMap qh) rfl rfl rfl (qI _ hcf') ⟨rfl,rfl,_,rfl,qI _ hTf⟩ oM oM (by decide) rfl ?_;refine qb ?_;intros;refine⟨(g+1-(dy+1)).toNat,by omega,_,_,_,[(4,8)],?wk4,dy+1,c'++T,ext++T,R2,by omega,by omega,rfl,by rw [hce,List.append_assoc],k1,fun y hy hf h=>?hn,rfl,rfl,rfl⟩
       case wk4=>rw [k2,List.length_append,List.flatMap_append];exact⟨ze,sT rfl rfl rfl rfl rfl rfl (by omega),rfl,rfl⟩
       case hn=>
        by_cases h5:y.2<q.2+dy
        ·exact List.mem_append_left _ (hnear y hy hf h5)
        ·exact k3 y hy hf oM
      ·simp at ht2;refine qb ?_;intros;refine⟨M-(i+1),oM,_,_,_,[],?wk5,i+1,c',R',hG',fun k z hk hz y hy hf=>?hdn,oM,rfl,rfl,rfl,rfl⟩
       case wk5=>exact⟨ze,UC rfl rfl rfl rfl rfl oM,rfl,rfl⟩
       case hdn=>
        by_cases hki:k=i
        ·subst hki;rw [hce,List.getElem?_append_left hi,hq] at hz;obtain rfl:=zsi hz;have:=(bV q y g).1 hf;exact hnear y hy hf oM
        ·rw [hce,List.getElem?_append_left (by omega)] at hz;rw [hce];exact List.mem_append_left _ (hD k z oM hz y hy hf)
     ·have g2:decide (((minus (x::r) c).length:Int)>0)=false:=by simpa using hl
      have hm0:minus (x::r) c=[]:=List.eq_nil_of_length_eq_zero oM;have hclo:∀q∈c,∀y∈(x::r),xy q y<=g->y∈c:=fun q _ y hy _=>Classical.byContradiction fun h=>by
       have:=yg.2 ⟨hy,h⟩;rw [hm0] at this;simp at this
      refine qU ?_;intros;refine qd rfl (fun h=>by cases h) (fun _=>?_);refine y6 ?_;refine qu (qe (k:=1) rfl (qe (k:=7) rfl (qe (k:=10) rfl (qe (k:=11) rfl (qe (k:=14) rfl (qe (k:=49) rfl (qe (k:=50) rfl (qe (k:=51) rfl (qy _))))))))) (zK _) ?_;refine fN hpos hG.nd oM oM ?_;refine qb ?_;intros;refine⟨m-1,by omega,_,_,_,[(3,6)],?wka,j+1,minus (x::r) c,out++[qr c],R,by omega,hro.minus _,hdrop,hG.holds,by simp;omega,step hclo,rfl,rfl,rfl⟩
      case wka=>rw [List.length_append];exact⟨ze,gS rfl rfl rfl rfl (by omega),rfl,rfl⟩
    ·have g1:decide ((i:Int)<c.length)=false:=by simpa using hi
     have hclo:∀q∈c,∀y∈(x::r),xy q y<=g->y∈c:=fun q hq y hy hf=>by
      obtain⟨k,hk⟩:=List.getElem?_of_mem hq;exact hD k q (by have:=(zgs hk).1;omega) hk y hy hf
     refine qU ?_;intros;refine qd rfl (fun h=>by cases h) (fun _=>?_);refine y6 ?_;refine qu (qe (k:=1) rfl (qe (k:=7) rfl (qe (k:=10) rfl (qe (k:=11) rfl (qe (k:=14) rfl (qe (k:=49) rfl (qe (k:=50) rfl (qe (k:=51) rfl (qy _))))))))) (zK _) ?_;refine fN hpos hG.nd oM oM ?_;refine qb ?_;intros;refine⟨m-1,by omega,_,_,_,[(3,6)],?wkb,j+1,minus (x::r) c,out++[qr c],R,by omega,hro.minus _,hdrop,hG.holds,by simp;omega,step hclo,rfl,rfl,rfl⟩
     case wkb=>rw [List.length_append];exact⟨ze,gS rfl rfl rfl rfl (by omega),rfl,rfl⟩
   ·have hT:jZ R x.2 x.1 x.1=[]:=by
     rcases only t2 tx with h|h
     ·exact h
     ·have:=(t3 x).1 (by rw [h];simp);exact absurd this.1 hxr
    rw [hT] at t1 ⊢;rw [C5] at t1;generalize hlf:lft R x.2 x.1 x.1=R1 at t1 ⊢;clear hlf;refine qb ?_;intros;refine qd rfl (fun _=>?_) (fun h=>by simp at h);refine y6 ?_;refine qb ?_;intros;refine⟨m-1,oM,_,_,_,[],?wkc,j+1,rest,out,R1,oM,hro,fun y hy=>?hy2,t1,hout,hcl,rfl,rfl,rfl⟩
    case wkc=>exact⟨ze,gS rfl rfl rfl rfl oM,rfl,rfl⟩
    case hy2=>
     have h3:=hsub y hy;rw [hdr] at h3;rcases List.mem_cons.1 h3 with h|h
     ·subst h;exact absurd hy hxr
     ·exact h
  ·simp at ht;have hr0:rest=[]:=by
    cases rest with
    |nil=>rfl
    |cons a r=>
     have:=hsub a (by simp);rw [List.drop_of_length_le (by omega)] at this;simp at this
   subst hr0;refine qu (qe (k:=11) rfl (qy _)) (qe (k:=3) rfl (qy _)) ?_;refine xn 3 rfl qR qR ?_;refine qb ?_;intros;refine qf ⟨_,rfl,rfl,out,rfl,?_⟩;have:=hcl [] .nil;simpa using this
 have mid:0<l.length->DPS (Par.base Tryz.prog 1 (H00 1) Z0 lo) Vm.n (.seq (.ops MS 0) (.seq (.ops MR 0) (.seq (.ops uH 0) (.seq (.seq (.ops uG 0) (.block 0 (.loop gC))) (.seq (.ops mK 0) (.seq (.ops mJ 0) (.seq (.ops mI 0) (.seq (.seq (.ops mE 0) (.block 2 (.loop uI))) (.seq (.ops mD 0) .ret))))))))) (GF (Par.base Tryz.prog 1 (H00 1) Z0 lo) Vm.res fun d=>∃cs,d=zN cs/\ClS (min (max gap 0) 2000) (qr l) cs)
  [(1,.int gap),(4,.one (.f (.c .nils))),(5,.one (.own 0 0 l.length 2))] [(0,.data (l.flatMap qh))] 1:=by
  intro hpos;refine qb ?_;intros;refine vC rfl rfl rfl (rQ (k:=0) (l:=l) rfl hpos oM _ _ _ _ _) ?_;rintro _ _ _ ⟨rfl,rfl,l',hperm,hsort,rfl⟩;have hll:=hperm.length_eq;have hco:=uS (l:=l') hsort oM oM;have hso:qr l'=qr l:=qJ.ext (xg _) (xg _) fun p=>by rw [qO,qO,hperm.mem_iff]
  rw [hll,hso] at hco;refine qb ?_;intros;refine vC rfl rfl rfl (hco _ _ _ _ _) ?_;rintro _ _ _ ⟨rfl,rfl,rest,rfl⟩;refine zJ rfl ?_;refine yA ?_;refine qu (qe (k:=1) rfl (qe (k:=4) rfl (qe (k:=5) rfl (qy _)))) (qe (k:=0) rfl (qy _)) ?_;refine EH 0 ((qr l).length*2) rfl ?_;have hfl:=xc (qr l);rw [List.take_append_of_le_length (by omega),List.take_of_length_le (by omega)];refine xn 0 rfl qR qR ?_;refine JC [] (n0:=0) (E0:=[(1,.int gap),(4,.one (.f (.c .nils))),(5,qz (qr l))]) (S0:=[]) ⟨ze,trivial,rfl,rfl⟩ ?_;exact fin
 refine qb ?_;intros;refine ki rfl rfl (IJ oM) ?_;rintro _ _ _ ⟨k,hk,rfl,rfl,rfl⟩;refine zJ rfl ?_;refine yA ?_;by_cases h0:l=[]
 ·subst h0;refine jp ?_;refine SA 5 rfl ?_;refine qb ?_;intros;refine qk rfl rfl SG ?_;rintro _ rfl;refine qb ?_;intros;refine qk rfl rfl u5 ?_;rintro _ rfl;refine zJ rfl ?_;refine yA ?_;refine JC [] (n0:=0) (E0:=[(1,.int gap),(4,.one (.f (.c .nils))),(5,qz (qr []))]) (S0:=[]) ⟨ze,trivial,rfl,rfl⟩ ?_;exact fin
 ·have hpos:0<l.length:=List.length_pos_iff.2 h0;rcases hk with rfl|rfl
  ·refine JC [] (n0:=1) (E0:=[(1,.int gap),(4,.one (.f (.c .nils))),(5,.one (.own 0 0 l.length 2))]) (S0:=[(0,.data (l.flatMap qh))]) ⟨ze,⟨rfl,rfl,rfl,trivial⟩,rfl,rfl⟩ ?_;exact mid hpos
  ·refine JC [(0,1)] (n0:=1) (E0:=[(1,.int gap),(4,.one (.f (.c .nils))),(5,.one (.own 0 0 l.length 2))]) (S0:=[(0,.data (l.flatMap qh))]) ⟨ze,⟨rfl,rfl,rfl,trivial⟩,rfl,rfl⟩ ?_;exact mid hpos
def Y9(p:Pic):Prop:=∀f∈p.fs,zd f=true->(xd f).length<=256
theorem SX{g:Int}{l:List qc}{cs:List (List qc)}(h1:2<=g)(h2:g<=6)(h:ClS (min (max g 0) 2000) (qr l) cs):Q3 g l=decide (cs.length=1):=by
 rw [show min (max g 0) 2000=g by omega] at h;exact E7 h
theorem r8{p:Pic}(hF:Xr p)(hw:Y9 p):DK 30 [yW p] fun d=>∃r:oB,Chk p r/\d=.tup [.int r.1,.int r.2.1,.int r.2.2]:=by
 refine qD qb1 rfl xa fun Z0 lo=>?_;refine qb ?_;intros;refine qk rfl rfl (W9 hF) ?_;rintro _ rfl;refine qb ?_;intros;refine qd rfl (fun hv=>?_) (fun hv=>?_)
 ·have hv:¬qx p=true:=by simpa using hv
  refine qb ?_;intros;exact qf ⟨_,rfl,rfl,_,.arg hv,rfl⟩
 ·have hv:qx p=true:=by simpa using hv
  have hsm:∀l∈qp p,(∀q∈l,zP q=true)/\l.length<=256:=fun l hl=>by
   refine⟨(vX hv l hl).1,?_⟩;obtain⟨f,hf,rfl⟩:=List.mem_map.1 hl;exact hw f hf (zM hv f hf)
  have hpl:(qp p).length=p.fs.length:=by simp [qp]
  have hl8:=(qT hv).1;have hgap:2<=p.gap/\p.gap<=6:=by
   have:=(qT hv).2.2.2;simp only [jF,xD,xV] at this;exact this.1
  refine qb ?_;intros;refine qk rfl rfl (u6 (zM hv) oM) ?_;rintro _ rfl;generalize hl:qp p=l at *;refine qb ?_;intros;refine qm (fun m E S nk=>∃i:Nat,i+m=l.length/\(∀(j:Nat) b,j<i->l[j]?=some b->Q3 p.gap b=true)/\E=[(1,.one (.ptr 0 0)),(2,.one (.ptr 1 0)),(3,.one (.ptr 2 0)),(4,.one (.ptr 3 0)),(5,.one (.ptr 4 0)),(15,zN l),(16,.int l.length),(17,.int i)]/\S=[(0,.cells (jR p)),(1,.cells [.f (.c (.int .i64 0))]),(2,.cells [.f (.c (.int .i64 0))]),(3,.cells [.f (.c (.int .i64 0))]),(4,.cells [.f (.sl 1 l.length (l.map qL))])]/\nk=5)
   ⟨l.length,_,_,_,[],?wk,0,oM,fun j b hj=>oM,rfl,rfl,rfl⟩ ?_
  case wk=>exact ql
  rintro m E S nk ⟨i,hi,hok,rfl,rfl,rfl⟩;refine qb ?_;intros;refine qd rfl (fun hi2=>?_) (fun hi2=>?_)
  ·have hi2:i<l.length:=by have:=xL hi2;omega
   obtain⟨a,ha⟩:∃r,l[i]?=some r:=⟨_,zge hi2⟩;have e1:=jv ha;have hsa:=hsm a (zmg ha);refine qb ?_;intros;refine qk rfl rfl (cH (fun q hq=>by have:=hsa.1 q hq;rw [zu] at this;unfold qE;omega) (by omega)) ?_;rintro _ ⟨cs,rfl,hcs⟩;have hc1:=SX hgap.1 hgap.2 hcs;refine qb ?_;intros;refine qd rfl (fun hb=>?_) (fun hb=>?_)
   ·have hb:¬(cs.length:Int)=1:=Kl hb;refine qb ?_;intros;exact qf ⟨_,rfl,rfl,_,.bad1 i hv (by rw [hl];exact⟨⟨a,ha,by rw [hc1];exact decide_eq_false (by omega)⟩,hok⟩),rfl⟩
   ·have hb:(cs.length:Int)=1:=JN hb;refine qb ?_;intros;refine⟨m-1,oM,_,_,_,[],?wk1,i+1,oM,?hno,rfl,rfl,rfl⟩
    case hno=>
     intro j b hj hbj;by_cases hji:j=i
     ·subst hji;rw [ha] at hbj;rw [<-zsi hbj,hc1];exact decide_eq_true oM
     ·exact hok j b oM hbj
    case wk1=>exact ql
  ·have hi2:i=l.length:=by have:=xP hi2;omega
   subst hi2;have hg1:jK p.gap (qp p):=fun a ha=>by
    rw [hl] at ha;obtain⟨j,hj⟩:=List.getElem?_of_mem ha;exact hok j a (zgs hj).1 hj
   refine qb ?_;intros;refine ki rfl rfl IH ?_;rintro _ _ _ ⟨rfl,rfl,rfl⟩;refine qb ?_;intros;refine qu (qe (k:=1) rfl (qe (k:=2) rfl (qe (k:=3) rfl (qe (k:=4) rfl (qe (k:=5) rfl (qe (k:=33) rfl (qy _))))))) (qe (k:=0) rfl (qe (k:=1) rfl (qe (k:=2) rfl (qe (k:=3) rfl (qe (k:=4) rfl (qe (k:=5) rfl (qy _))))))) ?_;refine NA rfl [1,2,3,4,5] rfl (by show qA Tryz.prog 90=true;kernel_rfl) rfl rfl (fun fid sg bd hsg hbd=>?_);refine DX.sub (S0:=cS p l 0 0 0 (YV .ready none fid sg bd)) ((FS hsm oM hsg hbd _ _ _ _ _).mono ?_) (qe rfl (qe rfl (qe rfl (qe rfl (qe rfl (qe rfl (qe rfl (qy _))))))));rintro _ _ _ (⟨hg2,rfl,rfl⟩|⟨i,k,hb2,rfl,rfl⟩)
   ·refine⟨_,_,_,_,_,_,_,_,_,rfl,by simp,?_⟩;refine qb ?_;intros;exact qf ⟨_,rfl,rfl,_,.ok hv hg1 (by rw [hl];exact hg2),rfl⟩
   ·refine⟨_,_,_,_,_,_,_,_,_,rfl,by simp,?_⟩;exact⟨_,rfl,rfl,_,.bad2 i k hv hg1 (by rw [hl];exact hb2),rfl⟩
end Go.Ag

namespace Go.Ag
open Go.Ab
theorem Conn.mono{g g':Int}{l l':List qc}{p x:qc}(h:Conn g l p x)(hg:g<=g')(hl:∀y∈l,y∈l'):Conn g' l' p x:=by
 induction h with
 |base h=>exact .base (hl _ h)
 |step _ h2 h3 ih=>exact .step ih (hl _ h2) oM
theorem Conn.trans{g:Int}{l:List qc}{p x y:qc}(h1:Conn g l p x)(h2:Conn g l x y):Conn g l p y:=by
 induction h2 with
 |base _=>exact h1
 |step _ h2 h3 ih=>exact .step ih h2 h3
theorem Conn.symm{g:Int}{l:List qc}{p x:qc}(h:Conn g l p x):Conn g l x p:=by
 induction h with
 |base h=>exact .base h
 |step h1 h2 h3 ih=>exact Conn.trans (.step (.base h2) h1.mem (by rw [VY];exact h3)) ih
theorem ClS.mem{g:Int}{l:List qc}{cs:List (List qc)}(h:ClS g l cs):∀c∈cs,∀x∈c,x∈l:=by
 induction h with
 |nil=>intro c hc;cases hc
 |cons h1 h2 _ ih=>
  intro c hc x hx;rcases List.mem_cons.1 hc with rfl|hc
  ·exact ((h2 x).1 hx).mem
  ·exact (yg.1 (ih c hc x hx)).1
theorem ClS.rows{g:Int}{l:List qc}{cs:List (List qc)}(h:ClS g l cs):∀c∈cs,qJ c:=by
 induction h with
 |nil=>intro c hc;cases hc
 |cons h1 h2 _ ih=>
  intro c hc;rcases List.mem_cons.1 hc with rfl|hc
  ·exact h1
  ·exact ih c hc
theorem ClS.cover{g:Int}{l:List qc}{cs:List (List qc)}(h:ClS g l cs):∀x∈l,∃c∈cs,x∈c:=by
 induction h with
 |nil=>intro c hc;cases hc
 | @cons p r c cs h1 h2 _ ih=>
  intro x hx;by_cases hc:x∈c
  ·exact⟨c,by simp,hc⟩
  ·obtain⟨d,hd,hx⟩:=ih x (yg.2 ⟨hx,hc⟩);exact⟨d,by simp [hd],hx⟩
theorem ClS.closed{g:Int}{l:List qc}{cs:List (List qc)}(h:ClS g l cs):∀c∈cs,∀x∈c,∀y∈l,xy x y<=g->y∈c:=by
 induction h with
 |nil=>intro c hc;cases hc
 | @cons p r c cs h1 h2 h3 ih=>
  intro d hd x hx y hy hf;rcases List.mem_cons.1 hd with rfl|hd
  ·exact (h2 y).2 (.step ((h2 x).1 hx) hy hf)
  ·have hxm:=yg.1 (h3.mem d hd x hx);by_cases hyc:y∈c
   ·exact absurd ((h2 x).2 (.step ((h2 y).1 hyc) hxm.1 (by rw [VY];exact hf))) hxm.2
   ·exact ih d hd x hx y (yg.2 ⟨hy,hyc⟩) hf
theorem ClS.first{g:Int}{l:List qc}{cs:List (List qc)}(hl:qJ l)(h:ClS g l cs):∀c∈cs,∃p t,c=p::t/\∀x,x∈c↔Conn g c p x:=by
 induction h with
 |nil=>intro c hc;cases hc
 | @cons p r c cs h1 h2 h3 ih=>
  intro d hd;rcases List.mem_cons.1 hd with rfl|hd
  ·have hp:p∈d:=(h2 p).2 (.base (by simp));have hin:∀x,Conn g (p::r) p x->Conn g d p x:=fun x hx=>by
    induction hx with
    |base _=>exact .base hp
    |step k1 k2 k3 ih=>exact .step ih ((h2 _).2 (.step k1 k2 k3)) k3
   have hdc:∀x,x∈d↔Conn g d p x:=fun x=>⟨fun hx=>hin x ((h2 x).1 hx),fun hx=>hx.mem⟩;cases d with
   |nil=>cases hp
   |cons a t=>
    have hap:a=p:=by
     rcases List.mem_cons.1 hp with e|e
     ·exact e.symm
     ·rw [qJ,List.pairwise_cons] at h1;have ha:=h1.1 p e;have hal:=((h2 a).1 (by simp)).mem;rcases List.mem_cons.1 hal with e2|e2
      ·exact e2
      ·rw [qJ,List.pairwise_cons] at hl;exact absurd (wN ha (hl.1 a e2)) jz
    subst hap;exact⟨a,t,rfl,hdc⟩
  ·exact ih (hl.minus c) d hd
def hd(c:List qc):qc:=c.headD (0,0)
theorem ClS.heads{g:Int}{l:List qc}{cs:List (List qc)}(hl:qJ l)(h:ClS g l cs):qJ (cs.map hd):=by
 induction h with
 |nil=>exact List.Pairwise.nil
 | @cons p r c cs h1 h2 h3 ih=>
  obtain⟨q,t,hc,hq⟩:=(ClS.cons h1 h2 h3).first hl c (by simp);have hp:p∈c:=(h2 p).2 (.base (by simp));have hqp:q=p:=by
   rw [hc] at hp h1;rcases List.mem_cons.1 hp with e|e
   ·exact e.symm
   ·rw [qJ,List.pairwise_cons] at h1;have ha:=h1.1 p e;have hal:=((h2 q).1 (by rw [hc];simp)).mem;rcases List.mem_cons.1 hal with e2|e2
    ·exact e2
    ·rw [qJ,List.pairwise_cons] at hl;exact absurd (wN ha (hl.1 q e2)) jz
  rw [List.map_cons,qJ,List.pairwise_cons];refine⟨fun y hy=>?_,ih (hl.minus c)⟩;obtain⟨d,hdm,rfl⟩:=List.mem_map.1 hy;obtain⟨a,t',hd',_⟩:=h3.first (hl.minus c) d hdm;have h5:a∈minus (p::r) c:=h3.mem d hdm a (by rw [hd'];simp);have h6:=yg.1 h5;have:xq p a=true:=by
   rcases List.mem_cons.1 h6.1 with e|e
   ·subst e;exact absurd hp h6.2
   ·rw [qJ,List.pairwise_cons] at hl;exact hl.1 a e
  rw [hc,hd',hqp];exact this
theorem ClS.part{g:Int}{l:List qc}{cs:List (List qc)}(hl:qJ l)(h:ClS g l cs){c:List qc}(hc:c∈cs):ClS g c [c]:=by
 obtain⟨p,t,rfl,hp⟩:=h.first hl c hc;refine .cons (h.rows _ hc) hp ?_;have:minus (p::t) (p::t)=[]:=by
  unfold minus;exact List.filter_eq_nil_iff.2 fun x hx=>by simp only [decide_eq_true hx];decide
 rw [this];exact .nil
end Go.Ag

namespace Go.Ag
open Go.Ab Go.Proofs
theorem Zt{α:Type}[DecidableEq α]:∀{a b:List α},a.Nodup->(∀x∈a,x∈b)->a.length<=b.length
 |[],b,_,_=>Nat.zero_le _
 |x::a,b,hn,h=>by
  rw [List.nodup_cons] at hn;have hx:x∈b:=h x (by simp);have h1:=Zt (a:=a) (b:=b.erase x) hn.2 (fun y hy=>(List.mem_erase_of_ne (fun e=>hn.1 (by rw [<-e];exact hy))).2 (h y (by simp [hy])));rw [List.length_erase_of_mem hx] at h1;have h2:0<b.length:=List.length_pos_of_mem hx;rw [List.length_cons];omega
theorem YS{α:Type}[DecidableEq α]:∀{m c:List α},c.Nodup->(∀x∈c,x∈m)->m.length<=c.length->m.Nodup
 |[],_,_,_,_=>List.nodup_nil
 |x::m,c,hn,h,hl=>by
  rw [List.nodup_cons];rw [List.length_cons] at hl;have hxm:x∉m:=fun hx=>by
   have:=Zt hn (b:=m) (fun y hy=>by
    rcases List.mem_cons.1 (h y hy) with rfl|e
    ·exact hx
    ·exact e)
   omega
  refine⟨hxm,YS (c:=c.erase x) (hn.erase x) (fun y hy=>?_) ?_⟩
  ·have h1:=hn.mem_erase_iff.1 hy;rcases List.mem_cons.1 (h y h1.2) with e|e
   ·exact absurd e h1.1
   ·exact e
  ·rw [List.length_erase];split<;>omega
def nP(c:List (List qc))(s:List qc):Nat:=(c.filter (fun x=>decide (x=s))).length
theorem nN{s:List qc}:∀{c:List (List qc)},c.Nodup->s∈c->nP c s=1
 |[],_,h=>by cases h
 |y::t,hn,hs=>by
  rw [List.nodup_cons] at hn;unfold nP;by_cases hy:y=s
  ·subst hy;rw [List.filter_cons,if_pos (by simp),List.filter_eq_nil_iff.2 fun x hx=>?_]
   ·rfl
   ·simp only [xV];exact fun e=>hn.1 (e▸hx)
  ·rw [List.filter_cons,if_neg (by simp [hy])];rcases List.mem_cons.1 hs with e|e
   ·exact absurd e.symm hy
   ·exact nN hn.2 e
theorem nO{s:List qc}{c:List (List qc)}(h:nP c s=1):s∈c:=by
 unfold nP at h;obtain⟨x,hx⟩:=List.length_eq_one_iff.1 h;have:x∈c.filter (fun x=>decide (x=s)):=by rw [hx];simp
 rw [List.mem_filter,xV] at this;rw [<-this.2];exact this.1
theorem ClS.walk{g:Int}{l l':List qc}{cs:List (List qc)}(h:ClS g l cs){c:List qc}(hc:c∈cs){x y:qc}(hx:x∈c)(hy:Conn g l' x y)(hl:∀z∈l',z∈l):y∈c:=by
 induction hy with
 |base _=>exact hx
 |step _ h2 h3 ih=>exact h.closed c hc _ ih _ (hl _ h2) h3
theorem ClS.conn{g:Int}{l:List qc}{cs:List (List qc)}(hl:qJ l)(h:ClS g l cs){c:List qc}(hc:c∈cs){x y:qc}(hx:x∈c)(hy:y∈c):Conn g c x y:=by
 obtain⟨p,t,_,hp⟩:=h.first hl c hc;exact ((hp x).1 hx).symm.trans ((hp y).1 hy)
theorem ClS.disj{g:Int}{l:List qc}{cs:List (List qc)}(hl:qJ l)(h:ClS g l cs){c d:List qc}(hc:c∈cs)(hd:d∈cs){x:qc}(hx:x∈c)(hx':x∈d):c=d:=
 qJ.ext (h.rows c hc) (h.rows d hd) fun _=>⟨fun hy=>h.walk hd hx' (h.conn hl hc hx hy) (h.mem c hc),fun hy=>h.walk hc hx (h.conn hl hd hx' hy) (h.mem d hd)⟩
theorem ClS.nodup{g:Int}{l:List qc}{cs:List (List qc)}(hl:qJ l)(h:ClS g l cs):cs.Nodup:=
 List.Pairwise.of_map hd (fun _ _ hne e=>hne (by rw [e])) (h.heads hl).nodup
open Classical in
theorem nT{g:Int}{a:List qc}:Q3 g a=true↔∃cs,ClS g (qr a) cs/\cs.length=1:=by
 unfold Q3;exact decide_eq_true_iff
theorem dL{g:Int}{a:List qc}(hne:a≠[]):Q3 g a=true↔∀x∈a,∀y∈a,Conn g a x y:=by
 rw [nT];constructor
 ·rintro ⟨cs,h,h1⟩ x hx y hy;obtain⟨k,rfl⟩:=List.length_eq_one_iff.1 h1;have hin:∀z∈a,z∈k:=fun z hz=>by
   obtain⟨c,hc,hz⟩:=h.cover z (qO.2 hz);rw [List.mem_singleton] at hc;rw [<-hc];exact hz
  exact (h.conn (xg _) (c:=k) (by simp) (hin x hx) (hin y hy)).mono (Int.le_refl g) fun z hz=>qO.1 (h.mem k (by simp) z hz)
 ·intro h;have hm:∀z,z∈qr a↔z∈a:=fun z=>qO;have hr:=xg a;generalize qr a=s at *;cases s with
  |nil=>
   cases a with
   |nil=>exact absurd rfl hne
   |cons x t=>exact absurd ((hm x).2 (by simp)) (by simp)
  |cons p r=>
   refine⟨[p::r],.cons hr (fun x=>⟨fun hx=>?_,fun hx=>hx.mem⟩) ?_,rfl⟩
   ·exact (h p ((hm p).1 (by simp)) x ((hm x).1 hx)).mono (Int.le_refl g) fun z hz=>(hm z).2 hz
   ·rw [show minus (p::r) (p::r)=[] from List.filter_eq_nil_iff.2 fun x hx=>by simp only [decide_eq_true hx];decide];exact .nil
theorem Xo{a b:List qc}(ha:a≠[])(hb:b≠[]){g:Int}:x8 a b<=g↔∃x∈a,∃y∈b,xy x y<=g:=by
 obtain⟨⟨x,hx,y,hy,h1⟩,h2⟩:=Yo ha hb;constructor
 ·intro h;exact⟨x,hx,y,hy,oM⟩
 ·rintro ⟨x,hx,y,hy,h⟩;have:=h2 x hx y hy;omega
theorem jJ.sym{g:Int}{l:List (List qc)}(h:jJ g l){i k:Nat}{a b:List qc}(hik:i≠k)(ha:l[i]?=some a)(hb:l[k]?=some b):¬x8 a b<=g:=by
 rcases Nat.lt_or_gt_of_ne hik with hlt|hlt
 ·exact h i k a b hlt ha hb
 ·rw [Yp];exact h k i b a hlt hb ha
theorem s5{a b:List qc}(ha:a≠[])(h:∀x∈a,x∉b):qr a≠qr b:=fun e=>by
 cases a with
 |nil=>exact absurd rfl ha
 |cons x t=>
  have h1:x∈qr (x::t):=qO.2 (by simp);rw [e,qO] at h1;exact h x (by simp) h1
theorem AQ{g:Int}{l c:List (List qc)}(hne:∀a∈l,a≠[])(hg:0<=g)(hc:ClS g (qr l.flatten) c):(jK g l/\jJ g l)↔(c.length=l.length/\∀a∈l,nP c (qr a)=1):=by
 have hr:=xg l.flatten;have hin:∀{a x},a∈l->x∈a->x∈qr l.flatten:=fun ha hx=>qO.2 (List.mem_flatten.2 ⟨_,ha,hx⟩);have hnd:=hc.nodup hr;have hsub:(∀a∈l,qr a∈c)->∀k∈c,k∈l.map qr:=fun hall k hk=>by
  obtain⟨p,t,hpt,_⟩:=hc.first hr k hk;have hp:p∈k:=by rw [hpt];simp
  obtain⟨a,ha,hpa⟩:=List.mem_flatten.1 (qO.1 (hc.mem k hk p hp));exact List.mem_map.2 ⟨a,ha,(hc.disj hr hk (hall a ha) hp (qO.2 hpa)).symm⟩
 constructor
 ·rintro ⟨g1,g2⟩;have hcl:∀(i:Nat) (a:List qc),l[i]?=some a->∀x∈a,∀y∈qr l.flatten,xy x y<=g->y∈a:=fun i a hi x hx y hy hf=>by
   obtain⟨b,hb,hyb⟩:=List.mem_flatten.1 (qO.1 hy);obtain⟨k,hk⟩:=List.getElem?_of_mem hb;by_cases hik:i=k
   ·subst hik;rw [hi] at hk;rw [zsi hk];exact hyb
   ·exact absurd ((Xo (hne a (zmg hi)) (hne b hb)).2 ⟨x,hx,y,hyb,hf⟩) (g2.sym hik hi hk)
  have hall:∀a∈l,qr a∈c:=fun a ha=>by
   obtain⟨i,hi⟩:=List.getElem?_of_mem ha;obtain⟨x,hx⟩:=List.exists_mem_of_ne_nil a (hne a ha);obtain⟨k,hk,hxk⟩:=hc.cover x (hin ha hx);have:k=qr a:=qJ.ext (hc.rows k hk) (xg a) fun y=>by
    rw [qO];constructor
    ·intro hy;have h1:=hc.conn hr hk hxk hy;clear hy;induction h1 with
     |base _=>exact hx
     |step _ k2 k3 ih=>exact hcl i a hi _ ih _ (hc.mem k hk _ k2) k3
    ·intro hy;exact hc.walk hk hxk ((dL (hne a ha)).1 (g1 a ha) x hx y hy) fun z hz=>hin ha hz
   rw [<-this];exact hk
  have hmn:(l.map qr).Nodup:=by
   rw [List.Nodup,List.pairwise_map,List.pairwise_iff_getElem];intro i k hi hk hik;refine s5 (hne _ (List.getElem_mem hi)) fun x hx hx'=>?_;refine g2 i k _ _ hik (zge hi) (zge hk) ?_;exact (Xo (hne _ (List.getElem_mem hi)) (hne _ (List.getElem_mem hk))).2 ⟨x,hx,x,hx',by rw [(HD x x).2 rfl];exact hg⟩
  refine⟨?_,fun a ha=>nN hnd (hall a ha)⟩;have h1:=Zt hnd (hsub hall);have h2:=Zt hmn (b:=c) fun x hx=>by
   obtain⟨a,ha,rfl⟩:=List.mem_map.1 hx;exact hall a ha
  rw [List.length_map] at h1 h2;omega
 ·rintro ⟨hlen,hcnt⟩;have hall:∀a∈l,qr a∈c:=fun a ha=>nO (hcnt a ha);have hmn:=YS hnd (hsub hall) (by rw [List.length_map];omega);refine⟨fun a ha=>?_,fun i k a b hik hi hk hd=>?_⟩
  ·rw [nT];exact⟨[qr a],hc.part hr (hall a ha),rfl⟩
  ·have ha:=zmg hi;have hb:=zmg hk;obtain⟨x,hx,y,hy,hf⟩:=(Xo (hne a ha) (hne b hb)).1 hd;have h1:y∈qr a:=hc.closed _ (hall a ha) x (qO.2 hx) y (hin hb hy) hf;have h2:=hc.disj hr (hall a ha) (hall b hb) h1 (qO.2 hy);rw [List.Nodup,List.pairwise_map,List.pairwise_iff_getElem] at hmn;obtain⟨hi1,hi2⟩:=zgs hi;obtain⟨hk1,hk2⟩:=zgs hk;refine hmn i k hi1 hk1 hik ?_;rw [hi2,hk2];exact h2
end Go.Ag

namespace Go.Ag
open Go.Ab Go.Proofs
def mv(v q:qc):qc:=(q.1+v.1,q.2+v.2)
theorem Chk.ok_iff{p:Pic}{r:oB}(h:Chk p r)(hv:qx p=true):r.2.2=0↔jK p.gap (qp p)/\jJ p.gap (qp p):=by
 cases h with
 |arg h=>exact absurd hv h
 |bad1 i _ hb=>exact⟨fun e=>(by cases e),fun e=>(hb.not e.1).elim⟩
 |bad2 i k _ _ hb=>exact⟨fun e=>(by cases e),fun e=>(hb.not e.2).elim⟩
 |ok _ h1 h2=>exact⟨fun _=>⟨h1,h2⟩,fun _=>rfl⟩
theorem tI{f:Ft}(hv:zd f=true):xd f≠[]:=fun e=>by
 obtain⟨⟨hn1,_⟩,_⟩:=jl hv;have h:=cM hv (QA (L:=f.pts) (i:=0) oM);rw [e] at h;cases h
theorem wY{p:Pic}(hv:qx p=true):∀a∈qp p,a≠[]:=fun a ha=>by
 obtain⟨f,hf,rfl⟩:=List.mem_map.1 ha;exact tI (zM hv f hf)
def X5(A:List Bool)(P:Nat->Nat->Prop):Prop:=A.length=3600/\∀y x,y<60->x<60->(A[y*60+x]?=some true↔P y x)
theorem X5.congr{A:List Bool}{P Q:Nat->Nat->Prop}(h:X5 A P)(he:∀y x,y<60->x<60->(P y x↔Q y x)):X5 A Q:=⟨h.1,fun y x hy hx=>(h.2 y x hy hx).trans (he y x hy hx)⟩
theorem X5.none:X5 (List.replicate 3600 false) fun _ _=>False:=⟨List.length_replicate,fun y x hy hx=>by
 rw [List.getElem?_replicate,if_pos (by omega)];simp⟩
theorem X5.set{A:List Bool}{P:Nat->Nat->Prop}(h:X5 A P){y x:Nat}(hy:y<60)(hx:x<60):X5 (A.set (y*60+x) true) fun j i=>P j i\/(j=y/\i=x):=by
 refine⟨by rw [List.length_set];exact h.1,fun j i hj hi=>?_⟩;rw [List.getElem?_set];by_cases e:y*60+x=j*60+i
 ·have:j=y/\i=x:=by omega
  rw [if_pos e,if_pos (by rw [h.1];omega)];exact⟨fun _=>.inr this,fun _=>rfl⟩
 ·rw [if_neg e,h.2 j i hj hi];constructor
  ·exact .inl
  ·rintro (h|⟨rfl,rfl⟩)
   ·exact h
   ·exact absurd rfl e
theorem X5.at{A:List Bool}{P:Nat->Nat->Prop}(h:X5 A P){y x:Nat}(hy:y<60)(hx:x<60):∃b,A[y*60+x]?=some b/\(b=true↔P y x):=by
 obtain⟨b,hb⟩:∃b,A[y*60+x]?=some b:=⟨_,zge (by rw [h.1];omega)⟩;refine⟨b,hb,?_⟩;rw [<-h.2 y x hy hx,hb];simp
def KG(p:Pic)(q:qc)(j i:Nat):Prop:=(i:Int)<p.w/\(j:Int)<p.h/\xy q ((i:Int),(j:Int))<=p.gap
def kG(p:Pic)(l:List qc)(j i:Nat):Prop:=∃q∈l,KG p q j i
theorem tT{p:Pic}{l:List qc}{q:qc}{j i:Nat}:kG p (l++[q]) j i↔kG p l j i\/KG p q j i:=by
 unfold kG;constructor
 ·rintro ⟨r,hr,h⟩;rcases List.mem_append.1 hr with hr|hr
  ·exact .inl ⟨r,hr,h⟩
  ·rw [List.mem_singleton] at hr;subst hr;exact .inr h
 ·rintro (⟨r,hr,h⟩|h)
  ·exact⟨r,List.mem_append_left _ hr,h⟩
  ·exact⟨q,by simp,h⟩
theorem ZB{p:Pic}{q:qc}{j i:Nat}:KG p q j i↔(i:Int)<p.w/\(j:Int)<p.h/\q.1-p.gap<=(i:Int)/\(i:Int)<=q.1+p.gap/\q.2-p.gap<=(j:Int)/\(j:Int)<=q.2+p.gap:=by
 unfold KG xy;constructor
 ·rintro ⟨h1,h2,h3⟩;simp only at h3;refine⟨h1,h2,?_⟩;omega
 ·rintro ⟨h1,h2,h3⟩;refine⟨h1,h2,?_⟩;simp only;omega
def bI(p:Pic)(l:List qc)(q:qc)(y:Int)(j i:Nat):Prop:=kG p l j i\/(KG p q j i/\(j:Int)<y)
def bJ(p:Pic)(l:List qc)(q:qc)(y x:Int)(j i:Nat):Prop:=kG p l j i\/(KG p q j i/\((j:Int)<y\/((j:Int)=y/\(i:Int)<x)))
theorem C3{p:Pic}{l:List qc}{q:qc}{j i:Nat}:kG p l j i↔bI p l q (max 0 (q.2-p.gap)) j i:=by
 unfold bI;rw [ZB];constructor
 ·exact .inl
 ·rintro (h|h)
  ·exact h
  ·omega
theorem PA{p:Pic}{l:List qc}{q:qc}{y:Int}{j i:Nat}(h:¬y<=min (p.h-1) (q.2+p.gap)):bI p l q y j i↔kG p (l++[q]) j i:=by
 unfold bI;rw [tT,ZB];constructor
 ·rintro (h|h)
  ·exact .inl h
  ·exact .inr h.1
 ·rintro (h|h)
  ·exact .inl h
  ·exact .inr ⟨h,oM⟩
theorem C4{p:Pic}{l:List qc}{q:qc}{y:Int}{j i:Nat}:bI p l q y j i↔bJ p l q y (max 0 (q.1-p.gap)) j i:=by
 unfold bI bJ;rw [ZB];constructor
 ·rintro (h|h)
  ·exact .inl h
  ·exact .inr ⟨h.1,.inl h.2⟩
 ·rintro (h|⟨h,h2⟩)
  ·exact .inl h
  ·exact .inr ⟨h,oM⟩
theorem PB{p:Pic}{l:List qc}{q:qc}{y x:Int}{j i:Nat}(h:¬x<=min (p.w-1) (q.1+p.gap)):bJ p l q y x j i↔bI p l q (y+1) j i:=by
 unfold bI bJ;rw [ZB];constructor
 ·rintro (h|⟨h,h2⟩)
  ·exact .inl h
  ·exact .inr ⟨h,oM⟩
 ·rintro (h|⟨h,h2⟩)
  ·exact .inl h
  ·exact .inr ⟨h,oM⟩
theorem GX{p:Pic}{l:List qc}{q:qc}{y x:Nat}{j i:Nat}(h1:max 0 (q.2-p.gap)<=(y:Int))(h2:(y:Int)<=min (p.h-1) (q.2+p.gap))(h3:max 0 (q.1-p.gap)<=(x:Int))(h4:(x:Int)<=min (p.w-1) (q.1+p.gap)):(bJ p l q y x j i\/(j=y/\i=x))↔bJ p l q y ((x:Int)+1) j i:=by
 unfold bJ;rw [ZB];constructor
 ·rintro ((h|⟨h,h2⟩)|⟨rfl,rfl⟩)
  ·exact .inl h
  ·exact .inr ⟨h,oM⟩
  ·exact .inr ⟨oM,oM⟩
 ·rintro (h|⟨h,h2⟩)
  ·exact .inl (.inl h)
  ·by_cases e:j=y/\i=x
   ·exact .inr e
   ·exact .inl (.inr ⟨h,oM⟩)
def zH(p:Pic)(d:DC)(A:List Bool):List DC:=jR p++d::A.map bC
def bF(b:Bool):FD:=.c (.bool b)
def Z6(p:Pic)(n:Nat)(rows:List FD)(A:List Bool):List FD:=[.c (.int .i64 p.w),.c (.int .i64 p.h),.c (.int .i64 p.gap),.sl 3 p.fs.length (p.fs.flatMap zt),.sl 1 n rows]++A.map bF
theorem OU(p:Pic)(n:Nat)(rows:List FD)(A:List Bool):zH p (.f (.sl 1 n rows)) A=(Z6 p n rows A).map .f:=by
 simp [zH,Z6,jR,bC,bF]
theorem BU(p:Pic)(d:DC)(A:List Bool)(n:Nat)(b:Bool):(zH p d A).set (5+n) (bC b)=zH p d (A.set n b):=by
 simp only [zH,jR,List.cons_append,List.nil_append];rw [show 5+n=n+1+1+1+1+1 by omega];simp only [List.set_cons_succ,List.map_set]
def Xu(p:Pic)(A:List Bool):DV:=.one (.fptr (Z6 p (qp p).length ((qp p).map fun l=>.sl 2 l.length (l.flatMap qh)) A))
def n9(p:Pic)(A:List Bool):Prop:=X5 A (kG p (qp p).flatten)
theorem rC{p:Pic}{i:Nat}{q:qc}(h0:0<=q.1/\0<=q.2)(h1:2*(q.1+2)<=p.w)(h2:3*(q.2+1)<=p.h):∀r∈qS i q,(0<=r.1/\r.1<p.w)/\0<=r.2/\r.2<p.h:=fun r hr=>by
 unfold qS wQ at hr;obtain⟨k,hk,rfl⟩:=List.mem_map.1 hr;have:=List.mem_range.1 (List.mem_filter.1 hk).1;simp only [qM];omega
theorem X9(i:Nat)(q:qc):qM q 1∈qS i q:=by
 unfold qS wQ;exact List.mem_map.2 ⟨1,List.mem_filter.2 ⟨by simp,(show AK 60 3=true by kernel_rfl)⟩,rfl⟩
theorem Xj(i:Nat)(q:qc):qS i q≠[]:=fun e=>by
 have:=X9 i q;rw [e] at this;cases this
end Go.Ag

namespace Go.Ab
def Am(k:Nat)(l:List FD):DC->DC
 |.ptr j o=>match Nat.beq j k with
  |true=>.fptr (l.drop o)
  |false=>.ptr j o
 |d=>d
def fpV(k:Nat)(l:List FD):DV->DV
 |.one d=>.one (Am k l d)
 |d=>d
section
variable{p:Par}{base rs n:Nat}{W:Wt}{A:List Nat}{E:qq}{S:Bx}{nk:Nat}
theorem n7{Z:Nat->Prop}{β:qw}{H:Hp}:∀{fs:List FD} {cs:List C},qg (RD Z H β) (fs.map .f) cs->qg (RF Z H) fs cs
 |[],[],_=>trivial
 |_::_,_::_,h=>⟨h.1,n7 h.2⟩
 |[],_::_,h=>h.elim
 |_::_,[],h=>h.elim
theorem PN{Z:Nat->Prop}{β:qw}{H:Hp}{F:T V}(hS:SR p Z β H S nk)(hE:ER Z β H E F){k:Nat}{fs:List FD}(hk:lk S k=some (.cells (fs.map .f))):
 ∃Z',SR p Z' β H (zB k S) nk/\ER Z' β H (yr (fpV k fs) E) F/\xo Z H Z' H/\∀b,Z' b↔Z b\/∃N,β (k,0)=some (.blk b N):=by
 have hZ:xo Z H (fun b=>Z b\/∃N,β (k,0)=some (.blk b N)) H:=fun b hb=>⟨.inl hb,fun _ _ h=>h⟩;obtain⟨s0,hs0,hb0⟩:=hS.box (k,0) _ (xX hk rfl);have hC:∀d c,RD Z H β d c->RD (fun b=>Z b\/∃N,β (k,0)=some (.blk b N)) H β (Am k fs d) c:=fun d c hr=>by
  cases d with
  |ptr j o=>
   simp only [Am];by_cases hj:j=k
   ·subst hj;rw [jU];obtain⟨b,N,h1,rfl⟩:=hr;rw [hs0] at h1;obtain rfl:=zsi h1;obtain⟨_,_,_,cs,rest,hrow,_,hrel⟩:=hb0;have hrel:qg (RD Z H β) (fs.map .f) cs:=hrel;have hrow:x6 H b (cs++rest):=hrow;have ha:=(n7 hrel).mono fun _ _=>RF.mono hZ;have hlen:fs.length=cs.length:=ha.len;refine⟨b,o,cs.drop o,rfl,.inr ⟨N,hs0⟩,?_,ha.drop o⟩;by_cases ho:o<=cs.length
    ·have h1:=QN (m:=o) (yo hrow.2 (m:=cs.length) (by rw [List.length_append];omega)) (by omega);rw [List.length_drop,hlen];rw [Nat.zero_add,List.take_append_of_le_length (Nat.le_refl _),List.take_length] at h1;exact h1
    ·rw [List.drop_of_length_le (by omega),List.drop_of_length_le (by omega)];rfl
   ·rw [jr hj];exact hr
  |own j o n e=>exact RD.mono (d:=.own j o n e) hZ (xO.refl β) hr
  |trow j i o n=>exact RD.mono (d:=.trow j i o n) hZ (xO.refl β) hr
  |f d=>exact RD.mono (d:=.f d) hZ (xO.refl β) hr
  |g b o=>exact hr
  |tptr j i o=>exact hr
  |fptr q=>exact RD.mono (d:=.fptr q) hZ (xO.refl β) hr
  |fn f caps=>exact hr
  |any=>trivial
  |om j=>exact hr
  |yl j=>exact hr
  |fz f ls=>exact RD.mono (d:=.fz f ls) hZ (xO.refl β) hr
 refine⟨fun b=>Z b\/∃N,β (k,0)=some (.blk b N),⟨hS.wf,hS.lo,fun b hb=>hb.elim (hS.z b) fun⟨N,h⟩=>hS.bd _ b N h,fun b hb=>?_,fun b hb=>.inl (hS.zz b hb),fun b bk hb=>⟨.inl (hS.glob b bk hb).1,(hS.glob b bk hb).2⟩,hS.nk,hS.bd,fun j y hj=>?_,fun j j' y y' b N N' hj hj' h1 h2=>?_,hS.blo,hS.anch,hS.ancn⟩,fun n d hd=>?_,hZ,fun b=>Iff.rfl⟩
 ·rcases hb with hb|⟨N,hb⟩
  ·exact hS.zlo b hb
  ·exact .inr (hS.blo _ b N hb)
 ·rw [Qv] at hj;split at hj
  ·cases hj
  ·rename_i hne;obtain⟨s,hs,hbx⟩:=hS.box j y hj;obtain⟨w,hw⟩:=yy hj;refine⟨s,hs,?_⟩;cases s with
   |nil=>exact hbx
   |blk b N=>
    obtain⟨h1,h2,h3,cs,rest,h4,h5,h6⟩:=hbx;exact⟨fun h=>h.elim h1 fun⟨M,hM⟩=>hne (by rw [hS.inj j (k,0) w _ b N M hw hk hs hM]),h2,h3,cs,rest,h4,h5,Bk.rel_mono hZ (xO.refl β) h6⟩
 ·have f:∀i z,lk (zB k S) i=some z->lk S i=some z:=fun i z hz=>by
   rw [yP] at hz;split at hz
   ·cases hz
   ·exact hz
  exact hS.inj j j' y y' b N N' (f _ _ hj) (f _ _ hj') h1 h2
 ·rw [wK] at hd;cases hl:lk E n with
  |none=>rw [hl] at hd;cases hd
  |some y=>
   rw [hl] at hd;obtain rfl:=zsi hd;obtain⟨v,hv,hr⟩:=hE n y hl;refine⟨v,hv,?_⟩;cases y with
   |one d=>obtain⟨c,rfl,hr⟩:=hr;exact⟨c,rfl,hC d c hr⟩
   |agg m=>exact xC.mono (d:=.agg m) hZ (xO.refl β) hr
   |tup m=>exact xC.mono (d:=.tup m) hZ (xO.refl β) hr
theorem kr{Q:Exit->qq->Bx->Nat->Prop}{s:SC}(k:Nat){fs:List FD}(hk:lk S k=some (.cells (fs.map .f)))(h:DPS p n s Q (yr (fpV k fs) E) (zB k S) nk):DPS p n s Q E S nk:=.mk fun Z β H F hS hE=>by
 obtain⟨Z',hS',hE',_,_⟩:=PN hS hE hk;exact h.run Z' β H F hS' hE'
end
def AX(a:Nat)(β β':qw):Prop:=∀k s,k<a->β (k,0)=some s->β' (k,0)=some s
def OG(p:Par)(a:Nat)(f:FuncId)(ds:List DV)(S:Bx)(nk:Nat)(R:DV->Bx->Nat->Prop):Prop:=∀Z β H args,SR p Z β H S nk->qg (xC Z H β) ds args->
 qH p.P p.G f args H fun v H'=>∃d S' nk' Z' β',SR p Z' β' H' S' nk'/\xC Z' H' β' d v/\xo Z H Z' H'/\AX a β β'/\R d S' nk'
abbrev Par.holdA(p:Par)(a:Nat)(Z:Nat->Prop)(β:qw)(H:Hp):Par:=⟨p.P,p.G,p.GH,Z,p.lo,a,β,H,none⟩
theorem SR.holdA{p:Par}{a:Nat}{Z:Nat->Prop}{β:qw}{H:Hp}{S:Bx}{nk:Nat}(h:SR p Z β H S nk)(ha:a<=nk):SR (p.holdA a Z β H) Z β H S nk:=
 ⟨h.wf,h.lo,h.z,fun _ hb=>.inl hb,fun _ hb=>hb,fun b bk hb=>hb.elim (fun hb=>h.glob b bk (.inl hb)) fun hb=>hb,h.nk,h.bd,h.box,h.inj,h.blo,fun _ _ _=>rfl,ha⟩
theorem SR.freeA{p:Par}{a:Nat}{Z Z':Nat->Prop}{β β':qw}{H H':Hp}{S S':Bx}{nk nk':Nat}(h:SR p Z β H S nk)(ha:p.anc<=a)(h':SR (p.holdA a Z β H) Z' β' H' S' nk'):SR p Z' β' H' S' nk'/\xo Z H Z' H'/\AX a β β':=by
 have hz:∀b,Z b->Z' b:=h'.zz;refine⟨⟨h'.wf,h'.lo,h'.z,fun b hb=>(h'.zlo b hb).elim (h.zlo b) .inr,fun b hb=>hz b (h.zz b hb),fun b bk hb=>h'.glob b bk (.inr (h.glob b bk hb)),h'.nk,h'.bd,h'.box,h'.inj,h'.blo,fun κ hκ h0=>?_,Nat.le_trans ha h'.ancn⟩,fun b hb=>⟨hz b hb,fun i c hc=>?_⟩,fun k s hk hκ=>?_⟩
 ·exact (h'.anch κ (Nat.lt_of_lt_of_le hκ ha) h0).trans (h.anch κ hκ h0)
 ·unfold Hp.cell at hc ⊢;cases hg:H.get b with
  |none=>rw [hg] at hc;cases hc
  |some bk=>rw [(h'.glob b bk (.inr ⟨hb,hg⟩)).2];rw [hg] at hc;exact hc
 ·exact (h'.anch (k,0) hk rfl).trans hκ
theorem qaB {p:Par} {a:Nat} {f:FuncId} {sf:SFn} (hf:qG p.P p.G f=some sf) {ds:List DV} {S:Bx} {nk:Nat} {R:DV->Bx->Nat->Prop} (hn:Nat.ble ds.length sf.n=true) (ha:p.anc<=a) (hank:a<=nk)
 (h:∀Z β H,DPS (p.holdA a Z β H) sf.n sf.code (c6 (p.holdA a Z β H) sf.res R) (QY ds 0) S nk):OG p a f ds S nk R:=by
 intro Z β H args hS hag;refine JA hf (by rw [<-hag.len];exact Nat.le_of_ble_eq_true hn) ?_;refine yL ((h Z β H).run Z β H _ (hS.holdA hank) (ZT 0 hag)) fun e F' H' ⟨E',S',nk',Z',β',h1,h2,h3⟩=>?_;have fin:(∃d,j7 (p.holdA a Z β H) E' S' sf.res=some d/\KD d=true/\∃S0,yu S0 S'/\R d S0 nk')->∃v,yb F' H' sf.res=some v/\∃d S' nk' Z' β',SR p Z' β' H' S' nk'/\xC Z' H' β' d v/\xo Z H Z' H'/\AX a β β'/\R d S' nk':=fun⟨d,hd,hfr,S0,hsub,hR⟩=>by
  obtain⟨v,hv,hr⟩:=Jn h1 h2 hd hfr;obtain⟨g1,g2,g3⟩:=hS.freeA ha (h1.keepS hsub);exact⟨v,hv,d,S0,nk',Z',β',g1,hr,g2,g3,hR⟩
 cases e with
 |normal=>obtain⟨v,hv,hr⟩:=fin h3;simp only [Xc,hv];exact hr
 |ret=>obtain⟨v,hv,hr⟩:=fin h3;simp only [Xc,hv];exact hr
 |_=>exact h3.elim
section
variable{p:Par}{base rs:Nat}{Q:qq->Bx->Nat->Prop}{r:List SOper}{W:Wt}{A:List Nat}{E:qq}{S:Bx}{nk:Nat}{id:Nat}{dst:Option Nat}{aid:Option Nat}{ws:List Nat}{keep:Bool}
theorem nW{a:Nat}{β β':qw}(h:AX a β β'):vV (wB [] a β) β':=fun k s hk=>by
 by_cases hka:k<a
 ·simp only [wB,if_pos hka] at hk;exact h k s hka hk
 ·simp only [wB,if_neg hka] at hk;cases hk
theorem SR.none{Z:Nat->Prop}{β:qw}{H:Hp}(h:SR p Z β H S nk):SR p Z β H [] nk:=h.keepS (qy _)
theorem EF{f:FuncId}{args:List Opd}{ds:List DV}{R:DV->Bx->Nat->Prop}{E0:qq}{S0:Bx}{n0 a:Nat}(ρ:List (Nat × Nat))(hw:Wk p ρ n0 E0 S0 E S)(hvs:X4 E0 args=some ds)(hW:noW W=true)(hT:YT E0=true)(hsm:Wk p [] a E0 [] E0 [])(hc:OG p a f ds S0 n0 R)(h:∀d S' nk',R d S' nk'->DPW p base 0 Q r W A (xk E0 dst d) S' nk'):DPW p base rs Q (⟨id,dst,.cf f args,none,aid,ws,keep⟩::r) W A E S nk:=.mk fun Z β H F c hS hE hC hA=>by
 obtain⟨hS0,hE0⟩:=YI hS hE hw;obtain⟨_,hEa⟩:=YI hS0.none hE0 hsm;simp only [qF,qt,if_true];refine (hc Z _ H _ hS0 (kS hE0 hvs)).mono ?_;rintro v H' ⟨d,S',nk',Z',β',hS',hr,hZ,hB,hR⟩;have hC':CR W Z' β' H' c:=hC.noW (Xh hW) hZ;exact⟨hC'.watch ws,(h d S' nk' hR).run Z' β' H' _ c hS' ((hEa.mono0 hZ (nW hB) hT).set dst hr) hC' ⟨hA.1,fun j hj=>absurd hj oM⟩⟩
theorem rT{x:Opd}{f:FuncId}{caps:List (Nat × Nat)}{args:List Opd}{ds:List DV}{R:DV->Bx->Nat->Prop}{E0:qq}{S0:Bx}{n0 a:Nat}(ρ:List (Nat × Nat))(hw:Wk p ρ n0 E0 S0 E S)(hx:ro E0 x=some (.one (.fn f caps)))(hf:qA p.P f=true)(hvs:X4 E0 args=some ds)(hW:noW W=true)(hT:YT E0=true)(hsm:Wk p [] a E0 [] E0 [])(hc:OG p a f (ds++K5 caps) S0 n0 R)(h:∀d S' nk',R d S' nk'->DPW p base 0 Q r W A (xk E0 dst d) S' nk'):DPW p base rs Q (⟨id,dst,.cv x args,none,aid,ws,keep⟩::r) W A E S nk:=.mk fun Z β H F c hS hE hC hA=>by
 obtain⟨hS0,hE0⟩:=YI hS hE hw;obtain⟨_,hEa⟩:=YI hS0.none hE0 hsm;obtain⟨cx,hcx,caps',rfl,hcaps⟩:=xf hE0 hx;simp only [qF,qt,if_true,hcx];refine⟨hf,?_⟩;refine (hc Z _ H _ hS0 ((kS hE0 hvs).append (JL hcaps))).mono ?_;rintro v H' ⟨d,S',nk',Z',β',hS',hr,hZ,hB,hR⟩;have hC':CR W Z' β' H' c:=hC.noW (Xh hW) hZ;exact⟨hC'.watch ws,(h d S' nk' hR).run Z' β' H' _ c hS' ((hEa.mono0 hZ (nW hB) hT).set dst hr) hC' ⟨hA.1,fun j hj=>absurd hj oM⟩⟩
theorem uT{E0:qq}{S0:Bx}{n0:Nat}(ρ:List (Nat × Nat))(hw:Wk p ρ n0 E0 S0 E S)(hW:noW W=true)(h:DPW p base 0 Q r W A E0 S0 n0):DPW p base rs Q r W A E S nk:=.mk fun Z β H F c hS hE hC hA=>by
 obtain⟨hS0,hE0⟩:=YI hS hE hw;exact h.run Z _ H F c hS0 hE0 (hC.noW (Xh hW) (xo.refl Z H)) ⟨hA.1,fun j hj=>absurd hj oM⟩
end
section
variable{p:Par}{n:Nat}{Q:Exit->qq->Bx->Nat->Prop}{E:qq}{S:Bx}{nk:Nat}
theorem m6{s:SC}(kb i esz:Nat){l:List DC}(hk:lk S kb=some (.cells l))(hi:l[i]?=some (.f (.c .nils)))(h:DPS p n s Q E ((nk,.data [])::put kb (.cells (l.set i (.own nk 0 0 esz))) S) (nk+1)):DPS p n s Q E S nk:=.mk fun Z β H F hS hE=>by
 have hT:=Zi hS;have hB:=hS.ble .nil;have hkn:=hS.lt hk;have hkT:lk ((nk,.data [])::S) kb=some (.cells l):=by rw [qQ,if_neg (by omega)];exact hk
 refine h.run Z _ H F ?_ (hE.mono (xo.refl Z H) hB);have hput:∀j,lk ((nk,.data [])::put kb (.cells (l.set i (.own nk 0 0 esz))) S) j=lk (put kb (.cells (l.set i (.own nk 0 0 esz))) ((nk,.data [])::S)) j:=fun j=>by
  simp only [put,jr (show nk≠kb by omega)]
 refine⟨hT.wf,hT.lo,hT.z,hT.zlo,hT.zz,hT.glob,hT.nk,hT.bd,fun κ y hκ=>?_,fun κ κ' y y' b N N' hj hj'=>?_,hT.blo,hT.anch,hT.ancn⟩
 ·rw [z6 (hput κ.1),Zl hkT rfl] at hκ;split at hκ
  ·rename_i e;split at hκ
   ·rename_i e2;obtain rfl:=vZ e e2;obtain rfl:=zsi hκ;obtain⟨s,hs,hbx⟩:=hT.box (kb,0) _ (xX hkT rfl);refine⟨s,hs,?_⟩;cases s with
    |nil=>
     have:l=[]:=List.eq_nil_of_length_eq_zero hbx;subst this;cases hi
    |blk b N=>
     obtain⟨g1,g2,g3,cs,rest,g4,g5,g6⟩:=hbx;refine⟨g1,g2,g3,cs,rest,g4,g5,?_⟩;obtain⟨c,hc,hr⟩:=qg.at g6 i _ hi;cases hr;have hset:cs.set i .nils=cs:=by
      refine List.ext_getElem? fun j=>?_;rw [List.getElem?_set];split
      ·rename_i ej;subst ej;rw [hc];first|rfl|rw [if_pos (zgs hc).1]
      ·rfl
     show qg _ _ _
     rw [<-hset];exact qg.set g6 i (.inl ⟨xu _ _ _,rfl,rfl,rfl⟩)
   ·cases hκ
  ·exact hT.box κ y hκ
 ·rw [hput] at hj hj';rw [yx] at hj hj';have f:∀a z,(if a=kb then Option.map (fun _=>Bk.cells (l.set i (.own nk 0 0 esz))) (lk ((nk,.data [])::S) a) else lk ((nk,.data [])::S) a)=some z->∃z',lk ((nk,.data [])::S) a=some z':=fun a z hz=>by
   split at hz
   ·cases hl:lk ((nk,.data [])::S) a with
    |none=>rw [hl] at hz;cases hz
    |some q=>exact⟨q,rfl⟩
   ·exact⟨z,hz⟩
  obtain⟨z1,e1⟩:=f κ.1 y hj;obtain⟨z2,e2⟩:=f κ'.1 y' hj';exact hT.inj κ κ' z1 z2 b N N' e1 e2
def UR(Q:Exit->qq->Bx->Nat->Prop):Exit->qq->Bx->Nat->Prop
 |.goto _,_,_,_=>False
 |e,E,S,nk=>Q e E S nk
theorem m7{a:SC}(h:DPS p n a (UR Q) E S nk):DPS p n (.scope a) Q E S nk:=.mk fun Z β H F hS hE=>d7 (yL (h.run Z β H F hS hE) fun e F' H' ⟨E',S',nk',Z',β',h1,h2,h3⟩=>by
 cases e with
 |goto _=>exact h3.elim
 |_=>exact⟨E',S',nk',Z',β',h1,h2,h3⟩)
end
end Go.Ab

namespace Go.Ag
open Go.Ab Go.Proofs
def yZ(p:Pic):List FD:=[.c (.int .i64 p.w),.c (.int .i64 p.h),.c (.int .i64 p.gap),.sl 3 p.fs.length (p.fs.flatMap zt)]
def yD(l:List qc):FD:=.sl 2 l.length (l.flatMap qh)
theorem kT(ρ:List (Nat × Nat))(p:Pic)(d:DC)(A:List Bool):XH ρ (.cells (zH p d A))=.cells (zH p (Wy ρ d) A):=by
 have e:List.map (Wy ρ) (A.map bC)=A.map bC:=by
  rw [List.map_map];congr 1
 simp only [XH,zH,jR,Kv,List.cons_append,List.nil_append,List.map_cons,e];rfl
theorem kM{n:Nat}{p:Pic}{d:DC}{A:List Bool}(h:vM n d=true):Wn n (.cells (zH p d A))=true:=by
 have e:∀x,vM n (.f x)=true:=fun _=>rfl;simp only [Wn,zH,jR,List.cons_append,List.nil_append,qV,e,h,aA]
theorem G8{k n e:Nat}{l:List FD}{p:Pic}{A:List Bool}:vO k l (.cells (zH p (.own k 0 n e) A))=.cells (zH p (.f (.sl e n l)) A):=by
 have e1:List.map (ZJ k l) (A.map bC)=A.map bC:=by
  rw [List.map_map];congr 1
 simp only [vO,zH,jR,List.cons_append,List.nil_append,List.map_cons,e1,ZJ,jU]
theorem p6{k:Nat}{ok:Nat->Nat->Nat->Prop}:∀A:List Bool,eN k ok (A.map bC)
 |[]=>trivial
 |_::A=>⟨trivial,p6 A⟩
theorem GR{k n:Nat}{l:List FD}{p:Pic}{A:List Bool}(h:l.length=n*1):bG k (eL l) (.cells (zH p (.own k 0 n 1) A)):=by
 refine⟨trivial,trivial,trivial,trivial,?_,p6 A⟩;simp only [p7,jU];exact⟨rfl,h⟩
theorem BN(p:Pic)(d d':DC)(A:List Bool):Q2 (.cells (zH p d A)) 4 [d']=.cells (zH p d' A):=rfl
theorem BM(p:Pic)(d:DC)(A:List Bool)(n:Nat)(b:Bool):Q2 (.cells (zH p d A)) (5+n) [bC b]=.cells (zH p d (A.set n b)):=by
 rw [Q2,setLs,setLs,BU]
theorem lN(p:Pic)(d:DC)(A:List Bool):(Bk.cells (zH p d A)).len=A.length+5:=by
 simp [Bk.len,zH,jR]
theorem R3 {par:Par} {base rs:Nat} {Q:qq->Bx->Nat->Prop} {r:List SOper} {A:List Nat} {E:qq} {S:Bx} {nk i1 i2 n:Nat} {p:Pic} {z:List C} (hz:Za n z=true) (hl:lk E 11=some (yW p))
 (h:DPW par base rs Q r [] A ((13,.one (.ptr nk 0))::(12,.agg (zH p (.f (.c .nils)) (List.replicate n false)))::E) ((nk,.cells (zH p (.f (.c .nils)) (List.replicate n false)))::S) (nk+1)):
 DPW par base rs Q (⟨i1,some 12,.p (.build (.int .i64 0::.int .i64 0::.int .i64 0::.nils::.nils::z) [(0,4,.t 11)]),none,none,[],false⟩::⟨i2,some 13,.a (.box (.t 12)),none,none,[],false⟩::r) [] A E S nk:=by
 obtain rfl:=Jx hz;have e1:(List.replicate n (C.bool false)).map QD=(List.replicate n false).map bC:=by
  simp only [List.map_replicate];rfl
 refine zJ (d:=.agg (zH p (.f (.c .nils)) (List.replicate n false))) ?_ (Xm (x:=.cells (zH p (.f (.c .nils)) (List.replicate n false))) rfl h);have hro:ro E (.t 11)=some (yW p):=hl;have hc:Kh (yW p)=some (jR p):=rfl;have hle:∀l:List DC,Nat.ble (0+4) (l.length+1+1+1+1+1)=true:=fun l=>by simp
 simp only [jg,KR,List.map_cons,hro,hc,List.length_cons,hle,e1];rfl
theorem nD{p:Pic}(hv:qx p=true):DK 68 [yW p] fun d=>∃A,n9 p A/\d=Xu p A:=by
 refine qD qbu rfl xa fun Z0 lo=>?_;have hh:=(qT hv).2.2.1;simp only [yz,xD,xV] at hh;obtain⟨⟨⟨hw1,hw2⟩,_⟩,⟨hh1,hh2⟩,_⟩:=hh;have hgap:2<=p.gap/\p.gap<=6:=by
  have:=(qT hv).2.2.2;simp only [jF,xD,xV] at this;exact this.1
 have hl8:=(qT hv).1;have hpl:(qp p).length=p.fs.length:=by simp [qp]
 refine jp ?_;refine jq j3 (fun base=>?_);refine Xm rfl ?_;refine zJ rfl ?_;refine yA ?_;refine kr 0 (fs:=yZ p) rfl ?_;refine jp ?_;refine jq j3 (fun base=>?_);refine jG (d:=yW p) rfl ?_;refine R3 (n:=3600) (by kernel_rfl) rfl ?_;refine zJ rfl ?_;refine yA ?_;refine qu (qe (k:=1) rfl (qe (k:=3) rfl (qy _))) (qe (k:=1) rfl (qy _)) ?_;refine qb ?_;intros;refine m6 1 4 1 (l:=zH p (.f (.c .nils)) (List.replicate 3600 false)) rfl rfl ?_;refine qm (fun m E S nk=>∃(i:Nat) (A:List Bool),i+m=p.fs.length/\X5 A (kG p ((qp p).take i).flatten)/\E=[(1,.one (.fptr (yZ p))),(3,.one (.ptr 1 0)),(15,.one (.f (.sl 3 p.fs.length (p.fs.flatMap zt)))),(16,.int p.fs.length),(17,.int i)]/\S=[(1,.cells (zH p (.own 2 0 i 1) A)),(2,.data (((qp p).take i).map yD))]/\nk=3)
  ⟨p.fs.length,_,_,_,[],?wk,0,List.replicate 3600 false,by omega,X5.none.congr fun _ _ _ _=>by simp [kG],rfl,rfl,rfl⟩ ?_
 case wk=>exact⟨ze,⟨by rw [kT];rfl,kM rfl,rfl,rfl,rfl,rfl,trivial⟩,rfl,rfl⟩
 rintro m E S nk ⟨i,A,hi,hA,rfl,rfl,rfl⟩;refine qb ?_;intros;refine qd rfl (fun hi2=>?_) (fun hi2=>?_)
 ·have hi2:i<p.fs.length:=by have:=xL hi2;omega
  obtain⟨f,hf⟩:∃f,p.fs[i]?=some f:=⟨_,zge hi2⟩;have e1:=ZK hf;have hvf:=zM hv f (zmg hf);have hcp:=JG hvf;have hpi:(qp p)[i]?=some (xd f):=by simp [qp,hf]
  have hin:=Zx hvf;have hln:=Xv hvf;generalize xd f=l at hcp hpi hin hln;have htk:(qp p).take (i+1)=(qp p).take i++[l]:=by rw [List.take_add_one,hpi];rfl
  have htm:((qp p).take (i+1)).map yD=((qp p).take i).map yD++[yD l]:=by rw [htk,List.map_append];rfl
  have htf:((qp p).take (i+1)).flatten=((qp p).take i).flatten++l:=by rw [htk];simp
  have hrl:(((qp p).take i).map yD).length=i*1:=by rw [List.length_map,List.length_take];omega
  clear htk;generalize ((qp p).take i).map yD=rows at htm hrl;generalize ((qp p).take i).flatten=D at htf hA;refine qb ?_;intros;refine qk rfl rfl hcp ?_;rintro _ rfl;refine qb ?_;intros;refine qY (m:=1) (q:=[yD l]) rfl rfl rfl (qI _ hrl) ⟨rfl,rfl,_,rfl,rfl⟩ oM oM (by decide) rfl ?_;refine zJ rfl ?_;refine zJ rfl ?_;refine vB (k:=1) (o:=4) rfl rfl rfl rfl rfl (by rw [lN];omega) rfl ?_;rw [BN];refine qb ?_;intros;have hrl2:(rows++[yD l]).length=(i+1)*1:=by rw [List.length_append,List.length_singleton];omega
  refine qm (fun m E S nk=>∃(j:Nat) (A:List Bool),j+m=l.length/\X5 A (kG p (D++l.take j))/\E=[(1,.one (.fptr (yZ p))),(3,.one (.ptr 1 0)),(15,.one (.f (.sl 3 p.fs.length (p.fs.flatMap zt)))),(16,.int p.fs.length),(17,.int i),(33,qz l),(34,.int l.length),(35,.int j)]/\S=[(1,.cells (zH p (.own 2 0 (i+1) 1) A)),(2,.data (rows++[yD l]))]/\nk=3)
   ⟨l.length,_,_,_,[(2,5)],?wk2,0,A,by omega,by rw [List.take_zero,List.append_nil];exact hA,rfl,rfl,rfl⟩ ?_
  case wk2=>exact⟨ze,⟨by rw [kT];rfl,kM rfl,rfl,rfl,rfl,rfl,trivial⟩,rfl,rfl⟩
  clear hA A;rintro m2 E S nk ⟨j,A,hj,hA,rfl,rfl,rfl⟩;refine qb ?_;intros;refine qd rfl (fun hj2=>?_) (fun hj2=>?_)
  ·have hj2:j<l.length:=by have:=xL hj2;omega
   obtain⟨q,hq⟩:∃q,l[j]?=some q:=⟨_,zge hj2⟩;have e2:=xi hq;have hq6:=hin q (zmg hq);rw [zu] at hq6;have hqs:D++l.take (j+1)=(D++l.take j)++[q]:=by rw [List.take_add_one,hq,List.append_assoc];rfl
   generalize D++l.take j=L at hA hqs;have w1:IntKind.i64.wrap (q.2-p.gap)=q.2-p.gap:=qo oM oM;have w2:IntKind.i64.wrap (q.2+p.gap)=q.2+p.gap:=qo oM oM;have w3:IntKind.i64.wrap (q.1-p.gap)=q.1-p.gap:=qo oM oM;have w4:IntKind.i64.wrap (q.1+p.gap)=q.1+p.gap:=qo oM oM;have w5:IntKind.i64.wrap (p.h-1)=p.h-1:=qo oM oM;have w6:IntKind.i64.wrap (p.w-1)=p.w-1:=qo oM oM;obtain⟨y0,hy0⟩:∃y0:Nat,max 0 (q.2-p.gap)=(y0:Int):=⟨(max 0 (q.2-p.gap)).toNat,oM⟩;obtain⟨x0,hx0⟩:∃x0:Nat,max 0 (q.1-p.gap)=(x0:Int):=⟨(max 0 (q.1-p.gap)).toNat,oM⟩;refine qb ?_;intros;rw [w1,hy0];refine kr 3 (fs:=qh q) rfl ?_;refine qm (fun m E S nk=>∃(y:Nat) (A:List Bool),y+m=60/\y0<=y/\X5 A (bI p L q y)/\E=[(1,.one (.fptr (yZ p))),(3,.one (.ptr 1 0)),(15,.one (.f (.sl 3 p.fs.length (p.fs.flatMap zt)))),(16,.int p.fs.length),(17,.int i),(33,qz l),(34,.int l.length),(35,.int j),(8,.one (.fptr (qh q))),(9,.int y)]/\S=[(1,.cells (zH p (.own 2 0 (i+1) 1) A)),(2,.data (rows++[yD l]))]/\nk=3)
    ⟨60-y0,_,_,_,[],?wk3,y0,A,by omega,Nat.le_refl _,by rw [<-hy0];exact hA.congr fun _ _ _ _=>C3,rfl,rfl,rfl⟩ ?_
   case wk3=>exact⟨ze,⟨by rw [kT];rfl,kM rfl,rfl,rfl,rfl,rfl,trivial⟩,rfl,rfl⟩
   clear hA A;rintro m3 E S nk ⟨y,A,hym,hy1,hA,rfl,rfl,rfl⟩;refine qb ?_;intros;refine qd rfl (fun hy2=>?_) (fun hy2=>?_)
   ·have hy2:=xL hy2;rw [w5,w2] at hy2;have hyw:IntKind.i64.wrap ((y:Int)+1)=((y+1:Nat):Int):=by rw [qo (by omega) (by omega)];omega
    refine qb ?_;intros;rw [w3,hx0];refine qm (fun m E S nk=>∃(x:Nat) (A:List Bool),x+m=60/\x0<=x/\X5 A (bJ p L q y x)/\E=[(1,.one (.fptr (yZ p))),(3,.one (.ptr 1 0)),(15,.one (.f (.sl 3 p.fs.length (p.fs.flatMap zt)))),(16,.int p.fs.length),(17,.int i),(33,qz l),(34,.int l.length),(35,.int j),(8,.one (.fptr (qh q))),(9,.int y),(10,.int x)]/\S=[(1,.cells (zH p (.own 2 0 (i+1) 1) A)),(2,.data (rows++[yD l]))]/\nk=3)
     ⟨60-x0,_,_,_,[],?wk4,x0,A,by omega,Nat.le_refl _,by rw [<-hx0];exact hA.congr fun _ _ _ _=>C4,rfl,rfl,rfl⟩ ?_
    case wk4=>exact⟨ze,⟨by rw [kT];rfl,kM rfl,rfl,rfl,rfl,rfl,trivial⟩,rfl,rfl⟩
    clear hA A;rintro m4 E S nk ⟨x,A,hxm,hx1,hA,rfl,rfl,rfl⟩;refine qb ?_;intros;refine qd rfl (fun hx2=>?_) (fun hx2=>?_)
    ·have hx2:=xL hx2;rw [w6,w4] at hx2;refine qb ?_;intros;refine zJ (Zp rfl rfl oM oM) ?_;refine zJ (Zp rfl rfl oM oM) ?_;rw [show 0+5+(y:Int).toNat*60+(x:Int).toNat*1=5+(y*60+x) by omega];refine vB (k:=1) (o:=5+(y*60+x)) (l:=[bC true]) rfl rfl rfl rfl rfl (by rw [lN,hA.1];omega) rfl ?_;rw [BM];have hset:=(hA.set (y:=y) (x:=x) oM oM).congr (Q:=bJ p L q y ((x+1:Nat):Int)) fun j i _ _=>by
      rw [GX (by omega) (by omega) (by omega) (by omega)];rfl
     refine qb ?_;intros;refine⟨m4-1,oM,_,_,_,[],?wk5,x+1,_,oM,oM,hset,rfl,rfl,rfl⟩
     case wk5=>exact⟨ze,⟨by rw [kT];rfl,kM rfl,rfl,rfl,rfl,rfl,trivial⟩,rfl,rfl⟩
    ·have hx2:=xP hx2;rw [w6,w4] at hx2;refine qb ?_;intros;refine⟨m3-1,oM,_,_,_,[],?wk6,y+1,A,oM,oM,hA.congr fun _ _ _ _=>(PB hx2).trans (by rfl),rfl,rfl,rfl⟩
     case wk6=>exact⟨ze,⟨by rw [kT];rfl,kM rfl,rfl,rfl,rfl,rfl,trivial⟩,rfl,rfl⟩
   ·have hy2:=xP hy2;rw [w5,w2] at hy2;refine qb ?_;intros;refine⟨m2-1,by omega,_,_,_,[],?wk7,j+1,A,by omega,by rw [hqs];exact hA.congr fun _ _ _ _=>PA hy2,rfl,rfl,rfl⟩
    case wk7=>exact⟨ze,⟨by rw [kT];rfl,kM rfl,rfl,rfl,rfl,rfl,trivial⟩,rfl,rfl⟩
  ·have hj2:j=l.length:=by have:=xP hj2;omega
   subst hj2;rw [List.take_length,<-htf] at hA;refine qb ?_;intros;refine⟨m-1,by omega,_,_,_,[],?wk8,i+1,A,by omega,hA,rfl,by rw [htm],rfl⟩
   case wk8=>exact⟨ze,⟨by rw [kT];rfl,kM rfl,rfl,rfl,rfl,rfl,trivial⟩,rfl,rfl⟩
 ·have hi2:i=p.fs.length:=by have:=xP hi2;omega
  subst hi2;have htl:(qp p).take p.fs.length=qp p:=by rw [<-hpl,List.take_length]
  rw [htl] at hA ⊢;have hml:((qp p).map yD).length=p.fs.length*1:=by rw [List.length_map];omega
  refine xn 2 (m:=(qp p).map yD) rfl ⟨trivial,trivial,trivial,trivial,trivial,trivial,trivial⟩ ⟨GR hml,trivial,trivial⟩ ?_;rw [show yr (vO 2 ((qp p).map yD)) (zB 2 [(1,Bk.cells (zH p (.own 2 0 p.fs.length 1) A)),(2,Bk.data ((qp p).map yD))])=[(1,Bk.cells (zH p (.f (.sl 1 p.fs.length ((qp p).map yD))) A))] by
   show [(1,vO 2 ((qp p).map yD) (.cells (zH p (.own 2 0 p.fs.length 1) A)))]=_
   rw [G8]]
  refine kr 1 (fs:=Z6 p p.fs.length ((qp p).map yD) A) (congrArg (fun l=>some (Bk.cells l)) (OU ..)) ?_;refine qb ?_;intros;refine qf ⟨_,rfl,rfl,A,hA,?_⟩;rw [Xu,hpl];rfl
theorem r7{p:Pic}{A:List Bool}{i k:Nat}{a b:qc}(hi:i<8)(hk:k<8)(ha:qE 1000000 a)(hb:qE 1000000 b):DK 71 [Xu p A,.int i,zg a,.int k,zg b] fun d=>d=.bool (jT p.gap i a k b):=by
 refine qD qbs rfl xa fun Z0 lo=>?_;have n1:=z7 i a;have n2:=z7 k b;refine qb ?_;intros;refine qk rfl rfl (XR hi ha) ?_;rintro _ rfl;refine qk rfl rfl (XR hk hb) ?_;rintro _ rfl;refine qk rfl rfl (JI (vu ha) (vu hb) oM oM) ?_;rintro _ rfl;refine qb ?_;intros;exact qf ⟨_,rfl,rfl,rfl⟩
theorem nI{E:qq}{x i:Opd}{len esz:Nat}{kd:IntKind}{j:Int}{l:List FD}(hx:ro E x=some (.one (.fptr l)))(hi:ro E i=some (.one (.f (.c (.int kd j)))))(h0:0<=j)(h1:j<len):jg E (.aaddr len esz x i)=some (.one (.fptr (l.drop (j.toNat*esz)))):=by
 have e:xN j len=some j.toNat:=by
  obtain⟨n,rfl⟩:=Int.eq_ofNat_of_zero_le h0;have:n<len:=by omega
  show (match Nat.blt n len with|true=>some n|false=>none)=_
  rw [show Nat.blt n len=true by simpa using this];rfl
 simp only [jg,hx,hi,e]
theorem IK{p:Par}{E:qq}{S:Bx}{a:Opd}{l:List FD}{x:FD}(ha:ro E a=some (.one (.fptr l)))(hl:l[0]?=some x):wi p E S false 1 a=some (.one (.f x)):=by
 cases l with
 |nil=>simp at hl
 |cons y l=>
  simp at hl;subst hl;have e:xK (y::l) 0 1=some [y]:=by
   rw [yj (by simp)];simp
  simp only [wi,ha,YM,e];rfl
theorem OT(p:Pic)(n:Nat)(rows:List FD){A:List Bool}{y x:Nat}{b:Bool}(h:A[y*60+x]?=some b):((((Z6 p n rows A).drop 5).drop (y*60)).drop (x*1))[0]?=some (.c (.bool b)):=by
 have e:(Z6 p n rows A).drop 5=A.map bF:=rfl;rw [e,List.drop_drop,List.getElem?_drop,List.getElem?_map,show y*60+x*1+0=y*60+x by omega,h];rfl
theorem VE{all:List (List qc)}{i:Nat}{l:List qc}(h:all[i]?=some l):xK (all.map yD) (i*1) 1=some [yD l]:=by
 have:=XE (f:=fun l:List qc=>[yD l]) (e:=1) (fun _=>rfl) h;rw [<-List.map_eq_flatMap] at this;exact this
theorem GV{p:Pic}(hv:qx p=true){i:Nat}{q r:qc}(hr:r∈qS i q)(hx:0<=r.1)(hy:0<=r.2)(hn:kG p (qp p).flatten r.2.toNat r.1.toNat):(qp p).all (ZM p.gap (qS i q))=false:=by
 obtain⟨s,hs,_,_,hf⟩:=hn;obtain⟨l,hl,hsl⟩:=List.mem_flatten.1 hs;rw [show ((r.1.toNat:Nat):Int)=r.1 by omega,show ((r.2.toNat:Nat):Int)=r.2 by omega] at hf;have hd:x8 (qS i q) l<=p.gap:=(Xo (Xj i q) (wY hv l hl)).2 ⟨r,hr,s,hsl,by
  unfold xy at hf ⊢;simp only at hf;omega⟩
 rw [List.all_eq_false];exact⟨l,hl,by rw [ZM,decide_eq_true hd];decide⟩
theorem lB{p:Pic}(hv:qx p=true){i:Nat}{q:qc}(hin:∀r∈qS i q,(0<=r.1/\r.1<p.w)/\0<=r.2/\r.2<p.h)(hn:∀r∈qS i q,¬kG p (qp p).flatten r.2.toNat r.1.toNat):(qp p).all (ZM p.gap (qS i q))=true:=by
 rw [List.all_eq_true];intro l hl;by_cases hd:x8 (qS i q) l<=p.gap
 ·obtain⟨r,hr,s,hs,hf⟩:=(Xo (Xj i q) (wY hv l hl)).1 hd;have h1:=hin r hr;refine absurd ⟨s,List.mem_flatten.2 ⟨l,hl,hs⟩,?_,?_,?_⟩ (hn r hr)
  ·omega
  ·omega
  ·rw [show ((r.1.toNat:Nat):Int)=r.1 by omega,show ((r.2.toNat:Nat):Int)=r.2 by omega];unfold xy at hf ⊢;simp only;omega
 ·rw [ZM,decide_eq_false hd];rfl
theorem EX{p:Pic}{A:List Bool}{i:Nat}{q:qc}(hv:qx p=true)(hF:Y9 p)(hA:n9 p A)(hi:i<p.fs.length)(hq:qE 1000000 q):DK 73 [Xu p A,.int i,zg q] fun d=>d=.bool (ya p i q):=by
 refine qD qbr rfl xa fun Z0 lo=>?_;have hh:=(qT hv).2.2.1;simp only [yz,xD,xV] at hh;obtain⟨⟨⟨hw1,hw2⟩,hw3⟩,⟨hh1,hh2⟩,hh3⟩:=hh;rw [Int.tmod_eq_emod_of_nonneg (by omega)] at hw3 hh3;have hgap:2<=p.gap/\p.gap<=6:=by
  have:=(qT hv).2.2.2;simp only [jF,xD,xV] at this;exact this.1
 have hl8:=(qT hv).1;have hpl:(qp p).length=p.fs.length:=by simp [qp]
 have hds:=vu (i:=i) hq;have hdl:=z7 i q;have w1:IntKind.i64.wrap (p.w.tdiv 2)=p.w/2:=by rw [Int.tdiv_eq_ediv_of_nonneg (by omega),qo (by omega) (by omega)]
 have w2:IntKind.i64.wrap (p.h.tdiv 3)=p.h/3:=by rw [Int.tdiv_eq_ediv_of_nonneg (by omega),qo (by omega) (by omega)]
 have w3:IntKind.i64.wrap (p.w/2-2)=p.w/2-2:=qo oM oM;have w4:IntKind.i64.wrap (p.h/3-1)=p.h/3-1:=qo oM oM;have w5:IntKind.i64.wrap (3*p.gap)=3*p.gap:=qo oM oM;refine qb ?_;intros;refine qd rfl (fun ht=>?_) (fun ht=>?_)
 ·rw [xG,xG,xG,w1,w2,w3,w4] at ht;simp only [Bool.or_eq_true,xV] at ht;refine qb ?_;intros;refine qf ⟨_,rfl,rfl,?_⟩;have:kH p q=false:=by
   rw [Bool.eq_false_iff];intro h2;simp only [kH,xD,xV] at h2;omega
  rw [ya,this,Bool.false_and]
 ·rw [xG,xG,xG,w1,w2,w3,w4] at ht;simp only [Bool.or_eq_false_iff,decide_eq_false_iff_not] at ht;have hfh:kH p q=true:=by simp only [kH,xD,xV];omega
  have hin:=rC (p:=p) (i:=i) (q:=q) oM oM oM;obtain⟨l,hl⟩:∃l,(qp p)[i]?=some l:=⟨_,zge oM⟩;have hlf:l.length<=256:=by
   obtain⟨f,hf,rfl⟩:=List.mem_map.1 (zmg hl);exact hF f hf (zM hv f hf)
  have hls:=kL (vX hv l (zmg hl)).1;have hfit:ya p i q=((qp p).all (ZM p.gap (qS i q))&&decide (x8 (qS i q) l<=3*p.gap)):=by
   rw [ya,hfh,Bool.true_and,hl];rfl
  rw [hfit];have e3:=VE hl;refine qb ?_;intros;refine qk rfl rfl (XR (i:=i) oM hq) ?_;rintro _ rfl;refine qb ?_;intros;refine qm (fun m E S nk=>∃j:Nat,j+m=(qS i q).length/\(∀(k:Nat) r,k<j->(qS i q)[k]?=some r->¬kG p (qp p).flatten r.2.toNat r.1.toNat)/\E=[(0,Xu p A),(1,.int i),(7,qz (qS i q)),(45,qz (qS i q)),(46,.int (qS i q).length),(47,.int j)]/\S=[]/\nk=0)
   ⟨(qS i q).length,_,_,_,[],?wk,0,oM,fun k r hk=>oM,rfl,rfl,rfl⟩ ?_
  case wk=>exact ql
  rintro m E S nk ⟨j,hj,hok,rfl,rfl,rfl⟩;refine qb ?_;intros;refine qd rfl (fun hj2=>?_) (fun hj2=>?_)
  ·have hj2:j<(qS i q).length:=by have:=xL hj2;omega
   obtain⟨r,hr⟩:∃r,(qS i q)[j]?=some r:=⟨_,zge hj2⟩;have e1:=xi hr;have hrm:=zmg hr;have hri:=hin r hrm;obtain⟨b,hb,hbn⟩:=hA.at (y:=r.2.toNat) (x:=r.1.toNat) oM oM;have e2:=OT p (qp p).length ((qp p).map yD) hb;refine qb ?_;intros;refine zJ (nI rfl rfl oM oM) ?_;refine zJ (nI rfl rfl oM oM) ?_;refine jG (IK rfl e2) ?_;refine qb ?_;intros;refine qd rfl (fun hbt=>?_) (fun hbt=>?_)
   ·refine qb ?_;intros;refine qf ⟨_,rfl,rfl,?_⟩;rw [GV hv hrm hri.1.1 hri.2.1 (hbn.1 hbt),Bool.false_and]
   ·refine qb ?_;intros;refine⟨m-1,oM,_,_,_,[],?wk2,j+1,oM,fun k r' hk hr'=>?_,rfl,rfl,rfl⟩
    case wk2=>exact ql
    by_cases hkj:k=j
    ·subst hkj;rw [hr] at hr';obtain rfl:=zsi hr';exact fun h=>by rw [hbn.2 h] at hbt;cases hbt
    ·exact hok k r' oM hr'
  ·have hj2:j=(qS i q).length:=by have:=xP hj2;omega
   subst hj2;have hall:=lB hv hin fun r hr=>by
    obtain⟨k,hk⟩:=List.getElem?_of_mem hr;exact hok k r (zgs hk).1 hk
   rw [hall,Bool.true_and];refine qb ?_;intros;refine qk rfl rfl (JI hds hls oM oM) ?_;rintro _ rfl;refine qb ?_;intros;refine qf ⟨_,rfl,rfl,?_⟩;rw [w5]
end Go.Ag
