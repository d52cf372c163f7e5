/- -/
import Derived.Test.YtdlelodnhjacgaaGreatDoorAb31
import Derived.Test.YtdlelodnhjacgaaGreatDoorAb33
import Derived.Test.YtdlelodnhjacgaaGreatDoorAb37
set_option linter.unusedSimpArgs false
set_option linter.unusedVariables false
set_option maxRecDepth 8000
set_option maxHeartbeats 16000000
namespace Go.Ai
open Go.Ab Go.Proofs
theorem Qx{q:List Int}{i:Nat}(hi:i<=q.length)(hl:q.length<100000):DK 143 [x7 q,.int i] fun d=>d=.int (jZ q i):=by
 unfold jZ;refine xr ?_;intros;refine qX O (fun g=>?_) (fun g=>?_)
 ·rw [if_pos (by omega)];exact jJ
 ·rw [if_neg (by omega),show i-1=((i:Int)-1).toNat by omega];exact jJ
theorem UZ{l:List RowL}{q:List Int}{w i:Nat}(hl:l.length<100000)(hq:q.length<100000)(hi:i<q.length)(hr:∀r∈l,jE w r):DK 142 [KW l,x7 q,.int i] fun d=>∃ink part:Nat,d=.tup [.int ink,.int part]/\ink<=9999/\part<=26:=by
 have hf:=Qx (q:=q) (i:=i) oM hq;generalize jZ q i=r at hf;refine xr ?_;intros;refine qS O O hf ?_;intros;refine qN (fun m E S nk=>∃(k:Nat) (x:Int),k+m=l.length/\ -1<=x/\x<l.length/\E=[(0,KW l),(1,x7 q),(2,.int i),(8,.int r),(9,.int x),(10,.int k)]/\S=[]/\nk=0) (l.length) ⟨0, -1,oM,oM,oM,O,O,O⟩ ?_;rintro m E S nk ⟨k,x,hm,hx0,hx1,rfl,rfl,rfl⟩;refine qc ?_;intros;refine xT O (fun h1=>?_) (fun h1=>?_)
 ·refine qc ?_;intros;refine qh O (fun h2=>?_) (fun h2=>?_)
  ·refine qc ?_;intros;refine qh O (fun h3=>?_) (fun h3=>?_)
   ·refine qc ?_;intros;exact qG ⟨k+1,k,oM,oM,oM,O,O,O⟩
   ·refine qc ?_;intros;exact qG ⟨k+1,x,oM,oM,oM,O,O,O⟩
  refine qc ?_;intros;refine qh O (fun g1=>?_) (fun g1=>?_)
  ·refine qc ?_;intros;exact qb ⟨_,O,O,0,min i 26,by rw [DV.tup.injEq];simp only [List.cons.injEq,and_true];exact⟨rfl,by congr 4;omega⟩,by omega,by omega⟩
  ·refine qc ?_;intros;refine qN (fun m E S nk=>∃k n:Nat,k+m=i+1/\n<=k/\E=[(0,KW l),(1,x7 q),(2,.int i),(9,.int x),(11,.int n),(12,.int k)]/\S=[]/\nk=0) (i+1) ⟨0,0,oM,oM,O,O,O⟩ ?_;rintro m2 E S nk ⟨k2,n,hm2,hn,rfl,rfl,rfl⟩;refine qc ?_;intros;refine qh O (fun g2=>?_) (fun g2=>?_)
   ·refine qc ?_;intros;refine qS O O (Qx (q:=q) (i:=k2) oM hq) ?_;intros;refine qh O (fun g3=>?_) (fun g3=>?_)
    ·refine qc ?_;intros;exact qG ⟨k2+1,n+1,oM,oM,O,O,O⟩
    ·refine qc ?_;intros;exact qG ⟨k2+1,n,oM,oM,O,O,O⟩
   ·have hrx:=hr _ (qn (l:=l) (i:=x.toNat) oM);have h4:=hrx.2.2.2.1;have h5:=hrx.2.2.2.2;refine qc ?_;intros;exact qb ⟨_,O,O,(l.getD x.toNat default).ink.toNat,min n 26,by rw [DV.tup.injEq];simp only [List.cons.injEq,and_true];exact⟨by congr 4;omega,by congr 4;omega⟩,by omega,by omega⟩
 ·refine qc ?_;intros;refine qh O (fun g1=>?_) (fun g1=>?_)
  ·refine qc ?_;intros;exact qb ⟨_,O,O,0,min i 26,by rw [DV.tup.injEq];simp only [List.cons.injEq,and_true];exact⟨rfl,by congr 4;omega⟩,by omega,by omega⟩
  ·refine qc ?_;intros;refine qN (fun m E S nk=>∃k n:Nat,k+m=i+1/\n<=k/\E=[(0,KW l),(1,x7 q),(2,.int i),(9,.int x),(11,.int n),(12,.int k)]/\S=[]/\nk=0) (i+1) ⟨0,0,oM,oM,O,O,O⟩ ?_;rintro m2 E S nk ⟨k2,n,hm2,hn,rfl,rfl,rfl⟩;refine qc ?_;intros;refine qh O (fun g2=>?_) (fun g2=>?_)
   ·refine qc ?_;intros;refine qS O O (Qx (q:=q) (i:=k2) oM hq) ?_;intros;refine qh O (fun g3=>?_) (fun g3=>?_)
    ·refine qc ?_;intros;exact qG ⟨k2+1,n+1,oM,oM,O,O,O⟩
    ·refine qc ?_;intros;exact qG ⟨k2+1,n,oM,oM,O,O,O⟩
   ·have hrx:=hr _ (qn (l:=l) (i:=x.toNat) oM);have h4:=hrx.2.2.2.1;have h5:=hrx.2.2.2.2;refine qc ?_;intros;exact qb ⟨_,O,O,(l.getD x.toNat default).ink.toNat,min n 26,by rw [DV.tup.injEq];simp only [List.cons.injEq,and_true];exact⟨by congr 4;omega,by congr 4;omega⟩,by omega,by omega⟩
abbrev Dl(w h b:Int)(vs:List VolL):DV:=.agg [.f (FD.int w),.f (FD.int h),.f (FD.int b),.f (.sl 5 vs.length (vs.flatMap bF))]
theorem Hl{w h:Nat}{a b c:Int}{vs:List VolL}{v:Nat}(hv:v<=vs.length)(hvl:vs.length<=10)(hvo:∀v∈vs,VolOk w h v):DK 69 [Dl a b c vs,.int v] fun d=>∃ink:Nat,d=.int ink/\ink<=9999:=by
 refine xr ?_;intros;refine qN (fun m E S nk=>∃(i x:Nat),i+m=vs.length/\x<=9999/\E=[(1,.int v),(2,.one (.ptr 0 0)),(5,.int x),(6,.int i)]/\S=[(0,.cells [.f (FD.int a),.f (FD.int b),.f (FD.int c),.f (.sl 5 vs.length (vs.flatMap bF))])]/\nk=1) (vs.length) ⟨0,0,oM,oM,O,O,O⟩ ?_;rintro m E S nk ⟨i,x,hm,hx,rfl,rfl,rfl⟩;refine qc ?_;intros;refine xT O (fun h1=>?_) (fun h1=>?_)
 ·have hvo':=hvo _ (qn (l:=vs) (i:=i) oM);have hrl:=hvo'.rl;have hrr:=hvo'.rows;refine qc ?_;intros;refine qN (fun m2 E S nk=>∃(j x:Nat),j+m2=(vs.getD i default).rows.length/\x<=9999/\E=[(1,.int v),(2,.one (.ptr 0 0)),(5,.int x),(6,.int i),(7,.int j)]/\S=[(0,.cells [.f (FD.int a),.f (FD.int b),.f (FD.int c),.f (.sl 5 vs.length (vs.flatMap bF))])]/\nk=1) ((vs.getD i default).rows.length) ⟨0,x,oM,oM,O,O,O⟩ ?_;rintro m2 E S nk ⟨j,x,hm2,hx,rfl,rfl,rfl⟩;refine qc ?_;intros;refine qh O (fun h2=>?_) (fun h2=>?_)
  ·have hrx:=hrr _ (qn (l:=(vs.getD i default).rows) (i:=j) oM);have h4:=hrx.2.2.2.1;have h5:=hrx.2.2.2.2;obtain⟨y,hy⟩:∃y:Nat,((vs.getD i default).rows.getD j default).ink=y:=⟨((vs.getD i default).rows.getD j default).ink.toNat,oM⟩;refine qc ?_;intros;rw [hy];refine qc ?_;intros;refine qh O (fun h3=>?_) (fun h3=>?_)
   ·refine qc ?_;intros;rw [hy];refine qc ?_;intros;exact qG ⟨j+1,y,oM,oM,O,O,O⟩
   ·refine qc ?_;intros;exact qG ⟨j+1,x,oM,oM,O,O,O⟩
  ·refine qc ?_;intros;exact qG ⟨i+1,x,oM,oM,O,O,O⟩
 ·refine qc ?_;intros;exact qb ⟨_,O,O,x,O,oM⟩
theorem oU:∀k,k<26->1<=wI.getD k default/\wI.getD k default<=63:=by decide
theorem TD(n:Nat):ze n≠[]:=by
 have key:∀k,(List.range k).foldl (yb n) [60]≠[]:=by
  intro k;induction k with
  |zero=>simp
  |succ k ih=>
   rw [XY,eN,YN,List.foldl_nil];unfold yb;split
   ·simp
   ·exact ih
 exact key 5
theorem S6{n k:Nat}{back:Bool}(hk:k<=2):∀c∈jt n k back,1<=c/\c<=63:=by
 intro c hc;unfold jt at hc;rcases xu.1 hc with hc|hc
 ·exact kT c hc
 ·split at hc
  ·cases hc
  ·have:=oU (k-1) oM;simp only [zd,nO,or_false] at hc;rcases hc with rfl|rfl
   ·decide
   ·exact this
theorem Fb{n k:Nat}{back:Bool}:jt n k back≠[]:=fun h=>TD _ (List.append_eq_nil_iff.1 h).1
theorem OG{ink part:Nat}(hp:part<=26):∀c∈zM ink part,1<=c/\c<=63:=by
 intro c hc;unfold zM at hc;split at hc
 ·cases hc
 ·split at hc
  ·exact kT c hc
  ·have:=oU (part-1) oM;rcases xu.1 hc with hc|hc
   ·simp only [zd,nO,or_false] at hc;rcases hc with rfl|rfl
    ·decide
    ·exact this
   ·exact kT c hc
theorem Yl{w n k ink part:Nat}{back:Bool}(hw:24<=w):(zy w n k back ink part).length=w:=by
 have hP:=V5 n k back;have hI:=WZ ink part;unfold zy;rw [qE,qE,xN];omega
theorem J2{w n k ink part:Nat}{back:Bool}(hk:k<=2)(hp:part<=26):LineOk (zy w n k back ink part):=
 .app ((qA.pos (OG hp)).app .rep) Fb (.pos (S6 hk))
theorem PgOk.take{w h n:Nat}{p:qV}(hl:n<=p.length)(hh:p.length<=h)(hp:∀r∈p,r.length<=w/\LineOk r)(h1:1<=n)(h0:(p.getD (n-1) default).length≠0):PgOk w h (p.take n):=by
 refine⟨by rw [xS];omega,fun r hr=>hp r (nQ hr),fun hne e=>?_⟩;have hlt:(p.take n).length=n:=by rw [xS];omega
 rw [Cj,List.getElem_take] at e;have e2:p.getD (n-1) default=p[(p.take n).length-1]'oM:=by
  rw [qT,zge (by omega)];show p[n-1]=_;congr 1;omega
 rw [e2,e] at h0;exact h0 O
theorem Vn{p:qV}{n:Nat}{x:List Int}(h:p.head?=some x)(h1:1<=n):(p.take n).head?=some x:=by
 cases p with
 |nil=>cases h
 |cons y p=>
  obtain⟨k,rfl⟩:∃k,n=k+1:=⟨n-1,oM⟩;exact h
theorem cY{p:qV}{x y:List Int}(h:p.head?=some x):(p++[y]).head?=some x:=by
 cases p with
 |nil=>cases h
 |cons z p=>exact h
theorem Ja{p:qV}{x:List Int}(h:p.head?=some x):p.getD 0 default=x:=by
 cases p with
 |nil=>cases h
 |cons z p=>exact zsi h
theorem uY{l:List RowL}{h:Nat}{q:List Int}(hq:Jp l h q):∀i,i<=q.length->0<=jZ q i
 |0,_=>by unfold jZ;rw [if_pos rfl];exact Ky _
 |i+1,hi=>by
  have ih:=uY hq i oM;have:=(hq i oM).1;have e:jZ q (i+1)=q.getD i default:=by unfold jZ;rw [if_neg (by omega),bB]
  omega
abbrev Vi(p:qV):FD:=.sl 1 p.length (p.flatMap ja)
theorem Mr(p:qV):DV.one (.f (.sl 1 p.length ((xU p).map xn)))=.one (.f (Vi p)):=pQ p
theorem YQ{α:Type}{z:α->Bool}:∀{l:List α},(∀x∈l,z x=true)->w8 z l=[]
 |[],_=>rfl
 |x::l,h=>by
  rw [w8,YQ (fun y hy=>h y (Q7 _ hy))];simp only [h x QC,if_true]
theorem KQ{α:Type}{z:α->Bool}:∀{l m:List α},(∀x∈m,z x=true)->(∀h:l≠[],z (l.getLast h)=false)->w8 z (l++m)=l
 |[],m,hm,_=>by rw [Kv];exact YQ hm
 |[x],m,hm,hl=>by
  rw [vz,Kv,w8,YQ hm];have:=hl sM;simp only [List.getLast_singleton] at this;simp only [this,yz,if_false]
 |x::y::l,m,hm,hl=>by
  rw [vz,w8,KQ (l:=y::l) hm (fun h=>by have:=hl (by simp);rwa [List.getLast_cons h] at this)]
theorem Ev(r:List Int){w:Nat}(h:r.length<=w):((List.range w).map fun i=>(r[i]?).getD 0)=r++List.replicate (w-r.length) 0:=by
 refine vF fun i=>?_;rw [jH];by_cases hi:i<w
 ·rw [Kx hi,QA];by_cases h2:i<r.length
  ·rw [Qz h2,zge h2];rfl
  ·rw [Q3 (by omega),yJ (by omega),Zu,if_pos (by omega)];rfl
 ·rw [yJ (by simp;omega),yJ (by simp;omega)];rfl
theorem LineOk.trim_pad{r:List Int}(h:LineOk r)(n:Nat):xO (r++List.replicate n 0)=r:=by
 refine KQ (fun x hx=>?_) (fun hne=>?_)
 ·rw [(DM.1 hx).2];rfl
 ·have:=h.last hne;simpa [HX] using this
theorem oI{w h n m:Nat}(hn:n=2*w)(hm:m=3*h){p:qV}(hp:PgOk w h p):V6 n m (y8 n m p)=p:=by
 have hc:∀r∈p,∀c∈r,0<=c/\c<64:=fun r hr c hc=>by have:=(hp.ln r hr).2.cell c hc;omega
 have e2:n/2=w:=oM;have e3:m/3=h:=oM;have hT:(Xn n m (y8 n m p)).map xO=p++List.replicate (h-p.length) []:=by
  unfold Xn;rw [e2,e3,List.map_map];refine vF fun r=>?_;rw [jH];by_cases hr:r<h
  ·rw [Kx hr,QA];have key:((List.range w).map fun i=>zA (y8 n m p) r i 6)=(List.range w).map fun i=>match p[r]? with
    |some row=>(row[i]?).getD 0
    |none=>0:=Cm fun i hi=>DJ hc oM (by have:=jF.1 hi;omega)
   show some (xO ((List.range w).map fun i=>zA (y8 n m p) r i 6))=_
   rw [key];by_cases h2:r<p.length
   ·have h3:=hp.ln _ (sP h2);rw [Qz h2,zge h2];show some (xO ((List.range w).map fun i=>((p[r])[i]?).getD 0))=_;rw [Ev _ h3.1,h3.2.trim_pad]
   ·rw [Q3 (by omega),yJ (by omega),Zu,if_pos (by omega)];have:xO ((List.range w).map fun _=>(0:Int))=[]:=YQ fun x hx=>by
     obtain⟨_,_,rfl⟩:=j6.1 hx;rfl
    exact congrArg some this
  ·rw [yJ (by simp;omega),yJ (by have:=hp.len;simp;omega)];rfl
 unfold V6;rw [hT];refine KQ (fun x hx=>by rw [(DM.1 hx).2];rfl) (fun hne=>?_);have:=hp.last hne;cases hq:p.getLast hne with
 |nil=>exact absurd hq this
 |cons a b=>rfl
end Go.Ai
