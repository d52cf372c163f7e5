/- -/
import Derived.Test.YtandgamnamkkhaaGreatDoorAb32
set_option linter.unusedSimpArgs false
set_option maxHeartbeats 16000000
set_option linter.unusedVariables false
set_option maxRecDepth 8000
namespace Go.Ah
open Go.Ab Go.Proofs
structure Pic where
 w:Int
 h:Int
 gap:Int
 fs:List Ft
def yL(p:Pic):List DC:=[.f (.c (.int .i64 p.w)),.f (.c (.int .i64 p.h)),.f (.c (.int .i64 p.gap)),.f (.sl 3 p.fs.length (p.fs.flatMap w8))]
def yz(p:Pic):DV:=.agg (yL p)
theorem Jt{l:List Ft}{i:Nat}{x:Ft}(h:l[i]?=some x):qT (l.flatMap w8) (i*3) 3=some (w8 x):=zC (e:=3) (fun _=>rfl) h
theorem mO(l:List Ft):(l.flatMap w8).length=l.length*3:=zO (f:=w8) (e:=3) (fun _=>rfl) l
def yo(p:Pic):Bool:=(decide (4<=p.w)&&decide (p.w<=60)&&decide (p.w.tmod 2=0))&&(decide (3<=p.h)&&decide (p.h<=60)&&decide (p.h.tmod 3=0))
def jS(p:Pic):Bool:=(decide (2<=p.gap)&&decide (p.gap<=6))&&(decide (1<=p.fs.length)&&decide (p.fs.length<=8))
def Xl(w h:Int)(q:qd):Bool:=decide (q.1<w)&&decide (q.2<h)
def vZ(p:Pic)(f:Ft):Bool:=xB f&&f.pts.all (Xl p.w p.h)
def qJ(p:Pic):Bool:=(yo p&&jS p)&&p.fs.all (vZ p)
def Zr(p:Pic):Prop:=p.fs.length<1000/\∀f∈p.fs,f.pts.length<1000
theorem rF{a:Int}:(a !=0)=!decide (a=0):=by
 by_cases h:a=0
 ·simp [h]
 ·rw [decide_eq_false h];simpa using h
theorem pI{p:Pic}(h:(p.w<4\/60<p.w\/¬p.w.tmod 2=0\/p.h<3\/60<p.h\/¬p.h.tmod 3=0)):yo p=false:=by
 rw [Bool.eq_false_iff];intro h2;simp only [yo,xt,xF] at h2;omega
theorem j4{α:Type}{f:α->Bool}{l:List α}{i:Nat}{x:α}(hx:l[i]?=some x)(h:f x=false):l.all f=false:=by
 rw [List.all_eq_false];exact⟨x,zmg hx,by rw [h];decide⟩
theorem XL{α:Type}{f:α->Bool}{l:List α}(h:∀(j:Nat) x,j<l.length->l[j]?=some x->f x=true):l.all f=true:=by
 rw [List.all_eq_true];intro x hx;obtain⟨j,hj⟩:=List.getElem?_of_mem hx;exact h j x (zgs hj).1 hj
theorem bZ{p:Pic}(hF:Zr p):DK 102 [yz p] fun d=>d=.bool (qJ p):=by
 refine qI fun Z0 lo=>?_;refine qa ?_;intros;refine qb rfl (fun ht=>?_) (fun ht=>?_)
 ·rw [qZ,qZ,qZ,qZ,qZ] at ht;simp only [rF,Bool.or_eq_true,xF,Bool.not_eq_true',decide_eq_false_iff_not] at ht;refine qa ?_;intros;refine qc ⟨_,rfl,rfl,?_⟩;rw [qJ,pI (by omega)];rfl
 ·rw [qZ,qZ,qZ,qZ,qZ] at ht;simp only [rF,Bool.or_eq_false_iff,decide_eq_false_iff_not,Bool.not_eq_false',xF] at ht;have hh:yo p=true:=by simp only [yo,xt,xF];omega
  refine qa ?_;intros;refine qb rfl (fun ht2=>?_) (fun ht2=>?_)
  ·rw [qZ,qZ,qZ] at ht2;simp only [Bool.or_eq_true,xF] at ht2;have hg:jS p=false:=by
    rw [Bool.eq_false_iff];intro h2;simp only [jS,xt,xF] at h2;omega
   refine qa ?_;intros;refine qc ⟨_,rfl,rfl,?_⟩;rw [qJ,hg,Bool.and_false];rfl
  ·rw [qZ,qZ,qZ] at ht2;simp only [Bool.or_eq_false_iff,decide_eq_false_iff_not] at ht2;have hg:jS p=true:=by simp only [jS,xt,xF];omega
   have hv:qJ p=p.fs.all (vZ p):=by rw [qJ,hh,hg];rfl
   rw [hv];refine qa ?_;intros;refine qm (fun m E S nk=>∃i:Nat,i+m=p.fs.length/\(∀(j:Nat) f,j<i->p.fs[j]?=some f->vZ p f=true)/\E=[(1,.one (.ptr 0 0)),(58,.one (.f (.sl 3 p.fs.length (p.fs.flatMap w8)))),(59,.int p.fs.length),(60,.int i)]/\S=[(0,.cells (yL p))]/\nk=1)
    ⟨p.fs.length,_,_,_,[],?wk,0,oM,fun j q hj=>oM,rfl,rfl,rfl⟩ ?_
   case wk=>exact ql
   rintro m E S nk ⟨i,hi,hok,rfl,rfl,rfl⟩;refine qa ?_;intros;refine qb rfl (fun hi2=>?_) (fun hi2=>?_)
   ·have hi2:i<p.fs.length:=by have:=qG hi2;omega
    obtain⟨f,hf⟩:∃f,p.fs[i]?=some f:=⟨_,zge hi2⟩;have e1:=Jt hf;have hfl:=hF.2 f (zmg hf);refine qa ?_;intros;refine qj rfl rfl (c6 hfl) ?_;rintro _ rfl;refine qa ?_;intros;refine qb rfl (fun hv1=>?_) (fun hv1=>?_)
    ·have hv1:xB f=false:=by simpa using hv1
     refine qa ?_;intros;refine qc ⟨_,rfl,rfl,?_⟩;rw [j4 hf (by rw [vZ,hv1];rfl)]
    ·have hv1:xB f=true:=by simpa using hv1
     refine qa ?_;intros;refine qm (fun m E S nk=>∃j:Nat,j+m=f.pts.length/\(∀(k:Nat) q,k<j->f.pts[k]?=some q->Xl p.w p.h q=true)/\E=[(1,.one (.ptr 0 0)),(58,.one (.f (.sl 3 p.fs.length (p.fs.flatMap w8)))),(59,.int p.fs.length),(60,.int i),(68,qx f.pts),(69,.int f.pts.length),(70,.int j)]/\S=[(0,.cells (yL p))]/\nk=1)
      ⟨f.pts.length,_,_,_,[],?wk2,0,oM,fun j q hj=>oM,rfl,rfl,rfl⟩ ?_
     case wk2=>exact ql
     rintro m2 E S nk ⟨j,hj,hok2,rfl,rfl,rfl⟩;refine qa ?_;intros;refine qb rfl (fun hj2=>?_) (fun hj2=>?_)
     ·have hj2:j<f.pts.length:=by have:=qG hj2;omega
      obtain⟨q,hq⟩:∃q,f.pts[j]?=some q:=⟨_,zge hj2⟩;have e2:=qY hq;refine qa ?_;intros;refine qb rfl (fun hb=>?_) (fun hb=>?_)
      ·rw [qZ] at hb;simp only [Bool.or_eq_true,xF] at hb;have hb:Xl p.w p.h q=false:=by
        rw [Bool.eq_false_iff];intro h2;simp only [Xl,xt,xF] at h2;omega
       refine qa ?_;intros;refine qc ⟨_,rfl,rfl,?_⟩;rw [j4 hf (by rw [vZ,j4 hq hb,Bool.and_false])]
      ·rw [qZ] at hb;simp only [Bool.or_eq_false_iff,decide_eq_false_iff_not] at hb;have hb:Xl p.w p.h q=true:=by simp only [Xl,xt,xF];omega
       refine qa ?_;intros;refine⟨m2-1,oM,_,_,_,[],?wk3,j+1,oM,?hno,rfl,rfl,rfl⟩
       case hno=>
        intro k q' hk hq';by_cases hkj:k=j
        ·subst hkj;rw [hq] at hq';rw [<-zsi hq'];exact hb
        ·exact hok2 k q' oM hq'
       case wk3=>exact ql
     ·have hj2:j=f.pts.length:=by have:=qQ hj2;omega
      subst hj2;refine qa ?_;intros;refine⟨m-1,oM,_,_,_,[],?wk4,i+1,oM,?hno2,rfl,rfl,rfl⟩
      case hno2=>
       intro k f' hk hf';by_cases hki:k=i
       ·subst hki;rw [hf] at hf';rw [<-zsi hf',vZ,hv1,XL hok2];rfl
       ·exact hok k f' oM hf'
      case wk4=>exact ql
   ·have hi2:i=p.fs.length:=by have:=qQ hi2;omega
    subst hi2;refine qa ?_;intros;refine qc ⟨_,rfl,rfl,?_⟩;rw [XL hok]
def XY(w h:Int)(q:qd):Bool:=(decide (0<=q.1)&&decide (q.1<w))&&(decide (0<=q.2)&&decide (q.2<h))
theorem XX{w h:Int}{q:qd}(hb:q.1<0\/q.1>=w\/q.2<0\/q.2>=h):XY w h q=false:=by
 rw [Bool.eq_false_iff];intro h2;simp only [XY,xt,xF] at h2;omega
theorem i9{l:List qd}{w h:Int}(hn:l.length<1000000):DK 159 [qx l,.int w,.int h] fun d=>d=.bool (l.all (XY w h)):=by
 refine qI fun Z0 lo=>?_;refine qa ?_;intros;refine qm (fun m E S nk=>∃i:Nat,i+m=l.length/\(∀(j:Nat) q,j<i->l[j]?=some q->XY w h q=true)/\E=[(0,qx l),(1,.int w),(2,.int h),(7,.int i)]/\S=[]/\nk=0)
  ⟨l.length,_,_,_,[],?wk,0,oM,fun j q hj=>oM,rfl,rfl,rfl⟩ ?_
 case wk=>exact ql
 rintro m E S nk ⟨i,hi,hok,rfl,rfl,rfl⟩;refine qa ?_;intros;refine qb rfl (fun ht=>?_) (fun ht=>?_)
 ·have ht:i<l.length:=by have:=qG ht;omega
  obtain⟨q,hq⟩:∃q,l[i]?=some q:=⟨_,zge ht⟩;have e1:=qY hq;by_cases h1:q.1<0
  ·have b1:decide (q.1<0)=true:=decide_eq_true h1;refine xn ?_;intros;refine qb rfl (fun _=>?_) (fun ht=>by cases ht);refine xn ?_;intros;refine qc ⟨_,rfl,rfl,?_⟩;rw [j4 hq (XX (by omega))]
  ·have b1:decide (q.1<0)=false:=decide_eq_false h1;by_cases h2:q.1>=w
   ·have b2:decide (q.1>=w)=true:=decide_eq_true h2;refine xn ?_;intros;refine qb rfl (fun _=>?_) (fun ht=>by cases ht);refine xn ?_;intros;refine qc ⟨_,rfl,rfl,?_⟩;rw [j4 hq (XX (by omega))]
   ·have b2:decide (q.1>=w)=false:=decide_eq_false h2;by_cases h3:q.2<0
    ·have b3:decide (q.2<0)=true:=decide_eq_true h3;refine xn ?_;intros;refine qb rfl (fun _=>?_) (fun ht=>by cases ht);refine xn ?_;intros;refine qc ⟨_,rfl,rfl,?_⟩;rw [j4 hq (XX (by omega))]
    ·have b3:decide (q.2<0)=false:=decide_eq_false h3;by_cases h4:q.2>=h
     ·have b4:decide (q.2>=h)=true:=decide_eq_true h4;refine xn ?_;intros;refine qb rfl (fun _=>?_) (fun ht=>by cases ht);refine xn ?_;intros;refine qc ⟨_,rfl,rfl,?_⟩;rw [j4 hq (XX (by omega))]
     ·have b4:decide (q.2>=h)=false:=decide_eq_false h4;refine xn ?_;intros;refine qb rfl (fun ht=>by cases ht) (fun _=>?_);refine xn ?_;intros;refine⟨m-1,oM,_,_,_,[],?wk1,i+1,oM,?hno,rfl,rfl,rfl⟩
      case hno=>
       intro k q' hk hq';by_cases hki:k=i
       ·subst hki;rw [hq] at hq';rw [<-zsi hq'];simp only [XY,xt,xF];omega
       ·exact hok k q' oM hq'
      case wk1=>exact ql
 ·have ht:i=l.length:=by have:=qQ ht;omega
  subst ht;refine qa ?_;intros;refine qc ⟨_,rfl,rfl,?_⟩;rw [XL hok]
theorem Zi{f:Ft}{lo hi:qd}(h:∀q∈f.pts,xf lo hi q):∀p∈qN f,xf lo hi p:=by
 have hline:∀{a b p:qd},xf lo hi a->xf lo hi b->p∈xz a b->xf lo hi p:=by
  intro a b p ha hb hp;obtain⟨k,hk⟩:=List.getElem?_of_mem hp;have h1:=(zgs hk).1;rw [Jm] at h1;have hf:=kP a b;have h2:(k:Int)<=xg a b:=by omega
  rw [Yj a b h2] at hk;obtain rfl:=zsi hk;have h3:=bE a b h2;unfold xf at *;omega
 have hlines:∀{n:Nat} {p:qd},n<=f.pts.length->p∈x7 f.pts n->xf lo hi p:=by
  intro n p hn hp;simp only [x7,List.mem_flatMap,List.mem_range] at hp;obtain⟨i,hi,hp⟩:=hp;exact hline (h _ (kR oM)) (h _ (kR (jz oM))) hp
 intro p hp;unfold qN at hp;split at hp
 ·exact h p hp
 ·split at hp
  ·rw [xi] at hp;exact hlines (n:=f.pts.length-1) oM hp
  ·rw [xi,List.mem_append] at hp;rcases hp with hp|hp
   ·exact hlines (Nat.le_refl _) hp
   ·have:=(List.mem_filter.1 hp).2;rw [xt] at this;exact mL h this.2
theorem o9(a b:qd):b∈xz a b:=by
 have hf:=kP a b;have h:=Yj a b (k:=(xg a b).toNat) oM;rw [i5] at h;exact zmg h
theorem Vu{f:Ft}(hv:xB f=true){q:qd}(hq:q∈f.pts):q∈qN f:=by
 obtain⟨⟨hn1,hn2⟩,hin,hk⟩:=yS hv;obtain⟨i,hi⟩:=List.getElem?_of_mem hq;have hlt:=(zgs hi).1;have hsome:∀j,j<f.pts.length->f.pts[j]?=some (xW f.pts j):=fun j hj=>by rw [xW,zge hj];rfl
 unfold qN;split
 ·exact hq
 ·split
  ·rename_i h1 h2;have hl2:2<=f.pts.length:=by
    rw [zD,if_neg h1,if_pos h2] at hk;simp at hk;exact hk.1
   rw [xi,Vx];by_cases hl:i<f.pts.length-1
   ·exact⟨i,_,_,hl,hi,hsome _ oM,X1 _ _⟩
   ·obtain rfl:i=(f.pts.length-2)+1:=by omega
    exact⟨f.pts.length-2,_,_,oM,hsome _ oM,hi,o9 _ _⟩
  ·rw [xi,List.mem_append];exact .inl (WK.2 ⟨i,_,_,hi,hsome _ (jz hlt),X1 _ _⟩)
theorem uB{f:Ft}(hv:xB f=true)(w h:Int):(qN f).all (XY w h)=f.pts.all (Xl w h):=by
 obtain⟨_,hin,_⟩:=yS hv;rw [Bool.eq_iff_iff,List.all_eq_true,List.all_eq_true];constructor
 ·intro h1 q hq;have:=h1 q (Vu hv hq);simp only [XY,Xl,xt,xF] at *;omega
 ·intro h1 q hq;have:=Zi (lo:=(0,0)) (hi:=(w-1,h-1)) (fun q hq=>by
   have g1:=h1 q hq;have g2:=hin q hq;rw [xJ] at g2;simp only [Xl,xt,xF] at g1;unfold xf;simp only;omega) q hq
  unfold xf at this;simp only [XY,xt,xF] at *;omega
theorem Xn{f:Ft}(hv:xB f=true):∀p∈qN f,zm p=true:=by
 intro p hp;obtain⟨_,hin,_⟩:=yS hv;have:=Zi (lo:=(0,0)) (hi:=(59,59)) (fun q hq=>by
  have g2:=hin q hq;rw [xJ] at g2;unfold xf;simp only;omega) p hp
 unfold xf at this;rw [xJ];simp only at this;omega
theorem YO{f:Ft}(hv:xB f=true):(qN f).Nodup:=by
 obtain⟨⟨hn1,hn2⟩,hin,hk⟩:=yS hv;unfold qN;split
 ·rename_i h1;have hl:f.pts.length=1:=by
   rw [zD,if_pos h1] at hk;simp at hk;exact hk.1
  obtain⟨x,hx⟩:=List.length_eq_one_iff.1 hl;rw [hx];simp
 ·split
  ·exact (xv _).nodup
  ·exact (xv _).nodup
theorem Zh{f:Ft}(hv:xB f=true):(qN f).length<=3600:=by
 have:=wD (YO hv) fun x hx=>X4.2 (Xn hv x hx);rw [<-Js,Qr] at this;omega
theorem Vn{p:Pic}(hF:Zr p):DK 115 [yz p] fun d=>d=.bool (qJ p):=by
 refine qI fun Z0 lo=>?_;refine qa ?_;intros;refine qb rfl (fun ht=>?_) (fun ht=>?_)
 ·rw [qZ,qZ,qZ,qZ,qZ,qZ,qZ,qZ,qZ] at ht;simp only [rF,Bool.or_eq_true,xF,Bool.not_eq_true',decide_eq_false_iff_not] at ht;refine qa ?_;intros;refine qc ⟨_,rfl,rfl,?_⟩;have hb:(yo p&&jS p)=false:=by
   rw [Bool.eq_false_iff];intro h2;simp only [yo,jS,xt,xF] at h2;omega
  rw [qJ,hb];rfl
 ·rw [qZ,qZ,qZ,qZ,qZ,qZ,qZ,qZ,qZ] at ht;simp only [rF,Bool.or_eq_false_iff,decide_eq_false_iff_not,Bool.not_eq_false',xF] at ht;have hh:yo p=true:=by simp only [yo,xt,xF];omega
  have hg:jS p=true:=by simp only [jS,xt,xF];omega
  have hv:qJ p=p.fs.all (vZ p):=by rw [qJ,hh,hg];rfl
  rw [hv];refine qa ?_;intros;refine qm (fun m E S nk=>∃i:Nat,i+m=p.fs.length/\(∀(j:Nat) f,j<i->p.fs[j]?=some f->vZ p f=true)/\E=[(1,.one (.ptr 0 0)),(3,.int i)]/\S=[(0,.cells (yL p))]/\nk=1)
   ⟨p.fs.length,_,_,_,[],?wk,0,oM,fun j q hj=>oM,rfl,rfl,rfl⟩ ?_
  case wk=>exact ql
  rintro m E S nk ⟨i,hi,hok,rfl,rfl,rfl⟩;refine qa ?_;intros;refine qb rfl (fun hi2=>?_) (fun hi2=>?_)
  ·have hi2:i<p.fs.length:=by have:=qG hi2;omega
   obtain⟨f,hf⟩:∃f,p.fs[i]?=some f:=⟨_,zge hi2⟩;have e1:=Jt hf;have hfl:=hF.2 f (zmg hf);refine qa ?_;intros;refine qj rfl rfl (DO hfl) ?_;rintro _ rfl;cases hv1:xB f with
   |false=>
    refine qa ?_;intros;refine qb rfl (fun _=>?_) (fun ht=>by cases ht);refine qa ?_;intros;refine qc ⟨_,rfl,rfl,?_⟩;rw [j4 hf (by rw [vZ,hv1];rfl)]
   |true=>
    refine qa ?_;intros;refine qj rfl rfl (bX hv1) ?_;rintro _ rfl;refine qa ?_;intros;refine qj rfl rfl (i9 (by have:=Zh hv1;omega)) ?_;rintro _ rfl;rw [uB hv1];refine qa ?_;intros;refine qb rfl (fun hb=>?_) (fun hb=>?_)
    ·have hb:f.pts.all (Xl p.w p.h)=false:=by simpa using hb
     refine qa ?_;intros;refine qc ⟨_,rfl,rfl,?_⟩;rw [j4 hf (by rw [vZ,hb,Bool.and_false])]
    ·have hb:f.pts.all (Xl p.w p.h)=true:=by simpa using hb
     refine qa ?_;intros;refine⟨m-1,oM,_,_,_,[],?wk4,i+1,oM,?hno2,rfl,rfl,rfl⟩
     case hno2=>
      intro k f' hk hf';by_cases hki:k=i
      ·subst hki;rw [hf] at hf';rw [<-zsi hf',vZ,hv1,hb];rfl
      ·exact hok k f' oM hf'
     case wk4=>exact ql
  ·have hi2:i=p.fs.length:=by have:=qQ hi2;omega
   subst hi2;refine qa ?_;intros;refine qc ⟨_,rfl,rfl,?_⟩;rw [XL hok]
def qz(p:Pic):List (List qd):=p.fs.map qN
theorem oT{p:Pic}{i:Nat}{f:Ft}(h:p.fs[i]?=some f):(p.fs.take (i+1)).map qN=(p.fs.take i).map qN++[qN f]:=by
 rw [List.take_add_one,h];simp
theorem Yv{p:Pic}(hv:∀f∈p.fs,xB f=true)(hn:p.fs.length<1000):DK 116 [yz p] fun d=>d=wE (qz p):=by
 refine qI fun Z0 lo=>?_;refine qa ?_;intros;refine qm (fun m E S nk=>∃(i:Nat) (out:List (List qd)),i+m=p.fs.length/\out=(p.fs.take i).map qN/\E=[(1,.one (.ptr 0 0)),(3,.one (.own 1 0 out.length 1)),(4,.int i)]/\S=[(0,.cells (yL p)),(1,.data (out.map qV))]/\nk=2)
  ⟨p.fs.length,_,_,_,[],?wk,0,[],oM,rfl,rfl,rfl,rfl⟩ ?_
 case wk=>exact ql
 rintro m E S nk ⟨i,out,hi,ho,rfl,rfl,rfl⟩;refine qa ?_;intros;refine qb rfl (fun hi2=>?_) (fun hi2=>?_)
 ·have hi2:i<p.fs.length:=by have:=qG hi2;omega
  obtain⟨f,hf⟩:∃f,p.fs[i]?=some f:=⟨_,zge hi2⟩;have e1:=Jt hf;have hol:out.length=i:=by rw [ho,List.length_map,List.length_take];omega
  refine qa ?_;intros;refine qj rfl rfl (bX (hv f (zmg hf))) ?_;rintro _ rfl;refine qa ?_;intros;refine qy (m:=1) (q:=[qV (qN f)]) rfl rfl rfl (qp _ (by rw [List.length_map];omega)) ⟨rfl,rfl,_,rfl,rfl⟩ (by omega) (by omega) (by decide) rfl ?_;rw [show out.map qV++[qV (qN f)]=(out++[qN f]).map qV by simp,show out.length+1=(out++[qN f]).length by simp];refine qa ?_;intros;refine⟨m-1,by omega,_,_,_,[(1,3)],?wk1,i+1,out++[qN f],by omega,by rw [ho,oT hf],rfl,rfl,rfl⟩
  case wk1=>exact ql
 ·have hi2:i=p.fs.length:=by have:=qQ hi2;omega
  subst hi2;rw [List.take_length] at ho;have hol:(out.map qV).length=out.length*1:=by simp
  refine qa ?_;intros;refine qu (qf (k:=2) rfl (qw _)) (qf (k:=1) rfl (qw _)) ?_;refine qH 1 rfl qD qD ?_;refine qc ⟨_,rfl,rfl,?_⟩;rw [qz,<-ho];rfl
def V6(p:Pic)(i:Nat)(L:List FD):Prop:=L.length=p.fs.length/\∀(j:Nat) f,j<i->p.fs[j]?=some f->L[j]?=some (qV (qN f))
theorem V6.all{p:Pic}{L:List FD}(h:V6 p p.fs.length L):L=(qz p).map qV:=by
 refine List.ext_getElem? fun j=>?_;by_cases hj:j<p.fs.length
 ·rw [h.2 j _ hj (zge hj)];simp [qz,zge hj]
 ·rw [List.getElem?_eq_none (by rw [h.1];omega),List.getElem?_eq_none (by simp [qz];omega)]
theorem V6.step{p:Pic}{L:List FD}{i:Nat}{f:Ft}(h:V6 p i L)(hf:p.fs[i]?=some f):V6 p (i+1) (L.set i (qV (qN f))):=by
 have hi:=(zgs hf).1;refine⟨by rw [List.length_set];exact h.1,fun j g hj hg=>?_⟩;rw [List.getElem?_set];by_cases hij:i=j
 ·subst hij;rw [hf] at hg;obtain rfl:=zsi hg;rw [if_pos rfl,if_pos (by rw [h.1];exact hi)]
 ·rw [if_neg hij];exact h.2 j g oM hg
def Qj(r:List Int):FD:=.sl 1 r.length (r.map iF)
def KF(R:List (List Int)):DV:=.one (.f (.sl 1 R.length (R.map Qj)))
theorem CT{cs:List (List Int)}{i:Nat}{c:List Int}(h:cs[i]?=some c):qT (cs.map Qj) (i*1) 1=some [Qj c]:=by
 have hi:i<cs.length:=(zgs h).1;rw [zw (by simp;omega)];rw [Nat.mul_one,List.drop_eq_getElem_cons (by simpa using hi)];have:cs[i]=c:=(zgs h).2;simp [this]
def YL(l:List (List qd)):List (List Int):=l.map fun a=>l.map fun b=>xC a b
def Wi(p:Pic):List (List Int):=if qJ p=true then YL (qz p) else []
theorem xr{p:Pic}(h:qJ p=true):(1<=p.fs.length/\p.fs.length<=8)/\(∀f∈p.fs,vZ p f=true)/\yo p=true/\jS p=true:=by
 simp only [qJ,xt,List.all_eq_true] at h;obtain⟨⟨h1,h2⟩,h3⟩:=h;refine⟨?_,h3,h1,h2⟩;simp only [jS,xt,xF] at h2;exact h2.2
theorem yb{p:Pic}(h:qJ p=true):∀f∈p.fs,xB f=true:=fun f hf=>by
 have:=(xr h).2.1 f hf;rw [vZ,xt] at this;exact this.1
theorem wZ{p:Pic}(h:qJ p=true):∀l∈qz p,(∀q∈l,zm q=true)/\l.length<=3600:=fun l hl=>by
 obtain⟨f,hf,rfl⟩:=List.mem_map.1 hl;exact⟨Xn (yb h f hf),Zh (yb h f hf)⟩
theorem wl{l:List qd}(h:∀q∈l,zm q=true):ki l:=fun q hq=>by
 have:=h q hq;rw [xJ] at this;unfold qB;omega
theorem gV{p:Pic}(hF:Zr p):DK 117 [yz p] fun d=>d=KF (Wi p):=by
 refine qI fun Z0 lo=>?_;refine qa ?_;intros;refine qj rfl rfl (Vn hF) ?_;rintro _ rfl;refine qa ?_;intros;refine qb rfl (fun hv=>?_) (fun hv=>?_)
 ·have hv:¬qJ p=true:=by simpa using hv
  refine qa ?_;intros;refine Vl 2 1 rfl ?_;refine qc ⟨_,rfl,rfl,?_⟩;rw [Wi,if_neg hv];rfl
 ·have hv:qJ p=true:=by simpa using hv
  have hT:Wi p=YL (qz p):=by rw [Wi,if_pos hv]
  have hsm:=wZ hv;have hpl:(qz p).length=p.fs.length:=by simp [qz]
  have hl8:=(xr hv).1;generalize hl:qz p=l at *;refine qa ?_;intros;refine qj rfl rfl (Yv (yb hv) oM) ?_;rintro _ rfl;rw [hl];refine qa ?_;intros;refine qm (fun m E S nk=>∃(i:Nat) (R:List (List Int)),i+m=l.length/\R=(l.take i).map (fun a=>l.map fun b=>xC a b)/\E=[(3,.one (.own 0 0 R.length 1)),(4,wE l),(5,.int i)]/\S=[(0,.data (R.map Qj))]/\nk=1)
   ⟨l.length,_,_,_,[(0,1)],?wk,0,[],oM,rfl,rfl,rfl,rfl⟩ ?_
  case wk=>exact ql
  rintro m E S nk ⟨i,R,hi,hR,rfl,rfl,rfl⟩;refine qa ?_;intros;refine qb rfl (fun hi2=>?_) (fun hi2=>?_)
  ·have hi2:i<l.length:=by have:=qG hi2;omega
   obtain⟨a,ha⟩:∃r,l[i]?=some r:=⟨_,zge hi2⟩;have e1:=kH ha;have hRl:R.length=i:=by rw [hR,List.length_map,List.length_take];omega
   refine qa ?_;intros;refine qm (fun m E S nk=>∃(k:Nat) (r:List Int),k+m=l.length/\r=(l.take k).map (xC a)/\E=[(3,.one (.own 0 0 R.length 1)),(4,wE l),(5,.int i),(6,.one (.own 1 0 r.length 1)),(7,.int k)]/\S=[(0,.data (R.map Qj)),(1,.data (r.map iF))]/\nk=2)
    ⟨l.length,_,_,_,[],?wk2,0,[],oM,rfl,rfl,rfl,rfl⟩ ?_
   case wk2=>exact ql
   rintro m2 E S nk ⟨k,r,hk,hr,rfl,rfl,rfl⟩;refine qa ?_;intros;refine qb rfl (fun hk2=>?_) (fun hk2=>?_)
   ·have hk2:k<l.length:=by have:=qG hk2;omega
    obtain⟨b,hb⟩:∃r,l[k]?=some r:=⟨_,zge hk2⟩;have e2:=kH hb;have hrl:r.length=k:=by rw [hr,List.length_map,List.length_take];omega
    have hsa:=hsm a (zmg ha);have hsb:=hsm b (zmg hb);refine qa ?_;intros;refine qj rfl rfl (ka (wl hsa.1) (wl hsb.1) oM oM) ?_;rintro _ rfl;refine qa ?_;intros;refine qy (m:=1) (q:=[iF (xC a b)]) rfl rfl rfl (qp _ (by rw [List.length_map];omega)) ⟨rfl,rfl,_,rfl,rfl⟩ (by omega) (by omega) (by decide) rfl ?_;rw [show r.map iF++[iF (xC a b)]=(r++[xC a b]).map iF by simp,show r.length+1=(r++[xC a b]).length by simp];refine qa ?_;intros;refine⟨m2-1,by omega,_,_,_,[(1,3)],?wk3,k+1,r++[xC a b],by omega,by rw [List.take_add_one,hb,hr];simp,rfl,rfl,rfl⟩
    case wk3=>exact ql
   ·have hk2:k=l.length:=by have:=qQ hk2;omega
    subst hk2;have hrl:(r.map iF).length=r.length*1:=by simp
    rw [List.take_length] at hr;refine qu (qf (k:=3) rfl (qf (k:=4) rfl (qf (k:=5) rfl (qf (k:=6) rfl (qw _))))) (qf (k:=0) rfl (qf (k:=1) rfl (qw _))) ?_;refine qH 1 rfl qD qD ?_;refine qa ?_;intros;refine qy (m:=1) (q:=[Qj r]) rfl rfl rfl (qp _ (by rw [List.length_map];omega)) ⟨rfl,rfl,_,rfl,rfl⟩ (by omega) (by omega) (by decide) rfl ?_;rw [show R.map Qj++[Qj r]=(R++[r]).map Qj by simp,show R.length+1=(R++[r]).length by simp];refine qa ?_;intros;refine⟨m-1,by omega,_,_,_,[(0,3)],?wk4,i+1,R++[r],by omega,by rw [List.take_add_one,ha,hR,hr];simp,rfl,rfl,rfl⟩
    case wk4=>exact ql
  ·have hi2:i=l.length:=by have:=qQ hi2;omega
   subst hi2;rw [List.take_length] at hR;have hRl:(R.map Qj).length=R.length*1:=by simp
   refine qa ?_;intros;refine qu (qf (k:=2) rfl (qw _)) (qf (k:=0) rfl (qw _)) ?_;refine qH 0 rfl qD qD ?_;refine qc ⟨_,rfl,rfl,?_⟩;rw [hT,YL,<-hR];rfl
open Classical in
noncomputable def ZQ (g:Int) (l:List qd):Bool:=decide (∃cs,ClS g (qt l) cs/\cs.length=1)
open Classical in
theorem A8{g:Int}{l:List qd}{cs:List (List qd)}(h:ClS g (qt l) cs):ZQ g l=decide (cs.length=1):=by
 unfold ZQ;by_cases h1:cs.length=1
 ·rw [decide_eq_true h1];exact decide_eq_true ⟨cs,h,h1⟩
 ·rw [decide_eq_false h1];exact decide_eq_false fun⟨cs',h',h2⟩=>h1 (by rw [h.uniq h'];exact h2)
def V9(g:Int)(l:List (List qd))(i:Nat):Prop:=(∃a,l[i]?=some a/\ZQ g a=false)/\∀(j:Nat) b,j<i->l[j]?=some b->ZQ g b=true
def Kn(g:Int)(l:List (List qd))(i k:Nat):Prop:=(∃a b,i<k/\l[i]?=some a/\l[k]?=some b/\xC a b<=g)/\∀(i' k':Nat) a b,i'<k'->(i'<i\/(i'=i/\k'<k))->l[i']?=some a->l[k']?=some b->¬xC a b<=g
def Vz(g:Int)(l:List (List qd)):Prop:=∀a∈l,ZQ g a=true
def rL(g:Int)(l:List (List qd)):Prop:=∀(i k:Nat) a b,i<k->l[i]?=some a->l[k]?=some b->¬xC a b<=g
abbrev BQ:=Int × Int × Int
inductive Chk (p:Pic):BQ->Prop
 |arg (h:¬qJ p=true):Chk p (0,0,1)
 |bad1 (i:Nat) (h:qJ p=true) (hb:V9 p.gap (qz p) i):Chk p ((i:Int),(i:Int),130)
 |bad2 (i k:Nat) (h:qJ p=true) (hg:Vz p.gap (qz p)) (hb:Kn p.gap (qz p) i k):Chk p ((i:Int),(k:Int),140)
 |ok (h:qJ p=true) (hg:Vz p.gap (qz p)) (hb:rL p.gap (qz p)):Chk p (0,0,0)
theorem V9.not{g:Int}{l:List (List qd)}{i:Nat}(h:V9 g l i)(hg:Vz g l):False:=by
 obtain⟨⟨a,ha,hb⟩,_⟩:=h;rw [hg a (zmg ha)] at hb;cases hb
theorem Kn.not{g:Int}{l:List (List qd)}{i k:Nat}(h:Kn g l i k)(hg:rL g l):False:=by
 obtain⟨⟨a,b,h1,h2,h3,h4⟩,_⟩:=h;exact hg i k a b h1 h2 h3 h4
theorem V9.uniq{g:Int}{l:List (List qd)}{i j:Nat}(h:V9 g l i)(h':V9 g l j):i=j:=by
 obtain⟨⟨a,ha,hb⟩,h2⟩:=h;obtain⟨⟨a',ha',hb'⟩,h2'⟩:=h';rcases Nat.lt_trichotomy i j with hl|hl|hl
 ·have:=h2' i a hl ha;rw [hb] at this;cases this
 ·exact hl
 ·have:=h2 j a' hl ha';rw [hb'] at this;cases this
theorem Kn.uniq{g:Int}{l:List (List qd)}{i k i' k':Nat}(h:Kn g l i k)(h':Kn g l i' k'):i=i'/\k=k':=by
 obtain⟨⟨a,b,g1,g2,g3,g4⟩,h2⟩:=h;obtain⟨⟨a',b',g1',g2',g3',g4'⟩,h2'⟩:=h';have n1:¬(i<i'\/(i=i'/\k<k')):=fun hl=>h2' i k a b g1 hl g2 g3 g4;have n2:¬(i'<i\/(i'=i/\k'<k)):=fun hl=>h2 i' k' a' b' g1' hl g2' g3' g4';omega
theorem Chk.uniq{p:Pic}{r r':BQ}(h:Chk p r)(h':Chk p r'):r=r':=by
 cases h with
 |arg h=>cases h' with
  |arg=>rfl
  |bad1 i h'=>exact absurd h' h
  |bad2 i k h'=>exact absurd h' h
  |ok h'=>exact absurd h' h
 |bad1 i h hb=>cases h' with
  |arg h'=>exact absurd h h'
  |bad1 j _ hb'=>rw [hb.uniq hb']
  |bad2 j k _ hg=>exact (hb.not hg).elim
  |ok _ hg=>exact (hb.not hg).elim
 |bad2 i k h hg hb=>cases h' with
  |arg h'=>exact absurd h h'
  |bad1 j _ hb'=>exact (hb'.not hg).elim
  |bad2 j m _ _ hb'=>obtain⟨rfl,rfl⟩:=hb.uniq hb';rfl
  |ok _ _ hb'=>exact (hb.not hb').elim
 |ok h hg hb=>cases h' with
  |arg h'=>exact absurd h h'
  |bad1 j _ hb'=>exact (hb'.not hg).elim
  |bad2 j m _ _ hb'=>exact (hb'.not hb).elim
  |ok=>rfl
def oR(r:BQ):DV:=.agg [.f (.c (.int .i64 r.1)),.f (.c (.int .i64 r.2.1)),.f (.c (.int .i64 r.2.2))]
theorem NB{l:List (List qd)}{i:Nat}{a:List qd}(h:l[i]?=some a):(YL l)[i]?=some (l.map (xC a)):=by
 simp [YL,h]
theorem D1{p:Pic}(hF:Zr p):DK 80 [yz p] fun d=>∃r,Chk p r/\d=oR r:=by
 refine qI fun Z0 lo=>?_;refine qa ?_;intros;refine qj rfl rfl (Vn hF) ?_;rintro _ rfl;refine qa ?_;intros;refine qb rfl (fun hv=>?_) (fun hv=>?_)
 ·have hv:¬qJ p=true:=by simpa using hv
  refine qa ?_;intros;exact qc ⟨_,rfl,rfl,_,.arg hv,rfl⟩
 ·have hv:qJ p=true:=by simpa using hv
  have hT:Wi p=YL (qz p):=by rw [Wi,if_pos hv]
  have hsm:=wZ hv;have hpl:(qz p).length=p.fs.length:=by simp [qz]
  have hl8:=(xr hv).1;generalize hl:qz p=l at *;refine qa ?_;intros;refine qj rfl rfl (Yv (yb hv) oM) ?_;rintro _ rfl;rw [hl];refine qa ?_;intros;refine qj rfl rfl (gV hF) ?_;rintro _ rfl;rw [hT];refine qa ?_;intros;refine qm (fun m E S nk=>∃i:Nat,i+m=l.length/\(∀(j:Nat) b,j<i->l[j]?=some b->ZQ p.gap b=true)/\E=[(1,.one (.ptr 0 0)),(2,.one (.ptr 1 0)),(3,wE l),(4,KF (YL l)),(5,.int i)]/\S=[(0,.cells (yL p)),(1,.cells [.f (.c (.int .i64 0)),.f (.c (.int .i64 0)),.f (.c (.int .i64 0))])]/\nk=2)
   ⟨l.length,_,_,_,[],?wk,0,oM,fun j b hj=>oM,rfl,rfl,rfl⟩ ?_
  case wk=>exact ql
  rintro m E S nk ⟨i,hi,hok,rfl,rfl,rfl⟩;refine qa ?_;intros;refine qb rfl (fun hi2=>?_) (fun hi2=>?_)
  ·have hi2:i<l.length:=by have:=qG hi2;omega
   obtain⟨a,ha⟩:∃r,l[i]?=some r:=⟨_,zge hi2⟩;have e1:=kH ha;have hsa:=hsm a (zmg ha);refine qa ?_;intros;refine qj rfl rfl (lA (wl hsa.1) oM) ?_;rintro _ ⟨cs,rfl,hcs⟩;have hc1:=A8 hcs;refine qa ?_;intros;refine qb rfl (fun hb=>?_) (fun hb=>?_)
   ·have hb:¬(cs.length:Int)=1:=JM hb;refine qa ?_;intros;exact qc ⟨_,rfl,rfl,_,.bad1 i hv (by rw [hl];exact⟨⟨a,ha,by rw [hc1];exact decide_eq_false (by omega)⟩,hok⟩),rfl⟩
   ·have hb:(cs.length:Int)=1:=YD hb;refine qa ?_;intros;refine⟨m-1,oM,_,_,_,[],?wk1,i+1,oM,?hno,rfl,rfl,rfl⟩
    case hno=>
     intro j b hj hbj;by_cases hji:j=i
     ·subst hji;rw [ha] at hbj;rw [<-zsi hbj,hc1];exact decide_eq_true oM
     ·exact hok j b oM hbj
    case wk1=>exact ql
  ·have hi2:i=l.length:=by have:=qQ hi2;omega
   subst hi2;have hg1:Vz p.gap (qz p):=fun a ha=>by
    rw [hl] at ha;obtain⟨j,hj⟩:=List.getElem?_of_mem ha;exact hok j a (zgs hj).1 hj
   refine qa ?_;intros;refine qm (fun m E S nk=>∃i:Nat,i+m=l.length/\(∀(i' k':Nat) a b,i'<k'->i'<i->l[i']?=some a->l[k']?=some b->¬xC a b<=p.gap)/\E=[(1,.one (.ptr 0 0)),(2,.one (.ptr 1 0)),(3,wE l),(4,KF (YL l)),(6,.int i)]/\S=[(0,.cells (yL p)),(1,.cells [.f (.c (.int .i64 0)),.f (.c (.int .i64 0)),.f (.c (.int .i64 0))])]/\nk=2)
    ⟨l.length,_,_,_,[],?wk2,0,oM,fun i' k' a b _ h=>oM,rfl,rfl,rfl⟩ ?_
   case wk2=>exact ql
   rintro m2 E S nk ⟨i,hi3,hok2,rfl,rfl,rfl⟩;refine qa ?_;intros;refine qb rfl (fun hi4=>?_) (fun hi4=>?_)
   ·have hi4:i<l.length:=by have:=qG hi4;omega
    obtain⟨a,ha⟩:∃r,l[i]?=some r:=⟨_,zge hi4⟩;have e1:=CT (NB ha);refine qa ?_;intros;refine qm (fun m E S nk=>∃k:Nat,k+m=l.length/\i<k/\(∀(k':Nat) b,i<k'->k'<k->l[k']?=some b->¬xC a b<=p.gap)/\E=[(1,.one (.ptr 0 0)),(2,.one (.ptr 1 0)),(3,wE l),(4,KF (YL l)),(6,.int i),(7,.int k)]/\S=[(0,.cells (yL p)),(1,.cells [.f (.c (.int .i64 0)),.f (.c (.int .i64 0)),.f (.c (.int .i64 0))])]/\nk=2)
     ⟨l.length-(i+1),_,_,_,[],?wk3,i+1,oM,oM,fun k' b _ h=>oM,rfl,rfl,rfl⟩ ?_
    case wk3=>exact ql
    rintro m3 E S nk ⟨k,hk,hik,hok3,rfl,rfl,rfl⟩;refine qa ?_;intros;refine qb rfl (fun hk2=>?_) (fun hk2=>?_)
    ·have hk2:k<l.length:=by have:=qG hk2;omega
     obtain⟨b,hb⟩:∃r,l[k]?=some r:=⟨_,zge hk2⟩;have e2:=cW (show (l.map (xC a))[k]?=some (xC a b) by simp [hb]);have hml:(l.map (xC a)).length=l.length:=List.length_map _;have htl:(YL l).length=l.length:=by simp [YL]
     have hi5:i<(YL l).length:=by omega
     refine qa ?_;intros;refine qb rfl (fun hd=>?_) (fun hd=>?_)
     ·have hd:=qG hd;refine qa ?_;intros;refine qc ⟨_,rfl,rfl,_,.bad2 i k hv hg1 ?_,rfl⟩;rw [hl];refine⟨⟨a,b,hik,ha,hb,hd⟩,fun i' k' a' b' h1 h2 h3 h4=>?_⟩;rcases h2 with h2|⟨rfl,h2⟩
      ·exact hok2 i' k' a' b' h1 h2 h3 h4
      ·rw [ha] at h3;rw [<-zsi h3];exact hok3 k' b' h1 h2 h4
     ·have hd:=qQ hd;refine qa ?_;intros;refine⟨m3-1,oM,_,_,_,[],?wk4,k+1,oM,oM,?hno2,rfl,rfl,rfl⟩
      case hno2=>
       intro k' b' h1 h2 h3;by_cases hkk:k'=k
       ·subst hkk;rw [hb] at h3;rw [<-zsi h3];exact hd
       ·exact hok3 k' b' h1 oM h3
      case wk4=>exact ql
    ·have hk2:k=l.length:=by have:=qQ hk2;omega
     refine qa ?_;intros;refine⟨m2-1,oM,_,_,_,[],?wk5,i+1,oM,?hno3,rfl,rfl,rfl⟩
     case hno3=>
      intro i' k' a' b' h1 h2 h3 h4;by_cases hii:i'=i
      ·subst hii;rw [ha] at h3;rw [<-zsi h3];exact hok3 k' b' h1 (by have:=(zgs h4).1;omega) h4
      ·exact hok2 i' k' a' b' h1 oM h3 h4
     case wk5=>exact ql
   ·have hi4:i=l.length:=by have:=qQ hi4;omega
    subst hi4;refine qa ?_;intros;refine qc ⟨_,rfl,rfl,_,.ok hv hg1 ?_,rfl⟩;rw [hl];exact fun i k a b h1 h2 h3=>hok2 i k a b h1 (zgs h2).1 h2 h3
def cS(p:Pic)(l:List (List qd))(a b c:Int)(rec:Bk):Bx:=[(0,.cells (yL p)),(1,.cells [.f (.c (.int .i64 a))]),(2,.cells [.f (.c (.int .i64 b))]),(3,.cells [.f (.c (.int .i64 c))]),(4,.cells [.f (.sl 1 l.length (l.map qV))]),(5,.cells [.f (.c (.int .i64 l.length))]),(6,rec)]
def ZD(st:LoopState)(j:Option Code)(fid:FuncId)(sg bd:Code):Bk:=.mp (.lp st j fid mU.n [1,2,3,4,5] [34,35] sg bd) [.ptr 0 0,.ptr 1 0,.ptr 2 0,.ptr 3 0,.ptr 4 0]
theorem M0 {Z0:Nat->Prop} {lo anc:Nat} {β0:qq} {H1:Hp} {pc:Pic} {l:List (List qd)} {i k:Nat} {a b:List qd} (ha:l[i]?=some a) (hb:l[k]?=some b) (hsm:∀c∈l,(∀q∈c,zm q=true)/\c.length<=256)
 {fid:FuncId} {sg bd:Code} (hsg:xe Tryz.prog 7 mU.n sg=some (.seq (.ops f8 0 true) (.ops f7 0 true))) (hbd:xe Tryz.prog 7 mU.n bd=some pN)
 {base rs:Nat} {Q:qo->Bx->Nat->Prop} {r:List SOper} {A:List Nat} {E:qo} {S:Bx} {nk:Nat} {id:Nat} {dst:Option Nat} {aid:Option Nat} {ws:List Nat} {keep:Bool} {x y z:Opd}
 (hnk:nk=7) (hS:zV (cS pc l 0 0 0 (ZD .ready none fid sg bd)) S)
 (hx:ro E x=some (.one (.yl 6))) (hvs:Xb E [y,z]=some [.int i,.int k]) (hT:ZB E=true)
 (h1:xC a b<=pc.gap->DPW (parK Z0 lo anc β0 H1) base 0 Q r [] A (qX E dst (.bool false)) (cS pc l i k 140 (ZD .done (some .ret) fid sg bd)) 7)
 (h2:¬xC a b<=pc.gap->DPW (parK Z0 lo anc β0 H1) base 0 Q r [] A (qX E dst (.bool true)) (cS pc l 0 0 0 (ZD .ready none fid sg bd)) 7):
 DPW (parK Z0 lo anc β0 H1) base rs Q (⟨id,dst,.cv x [y,z],none,aid,ws,keep⟩::r) [] A E S nk:=by
 subst hnk;have h6:lk S 6=some (ZD .ready none fid sg bd):=hS 6 _ rfl;refine GA (R:=fun d S' nk'=>(xC a b<=pc.gap/\d=.bool false/\zV (cS pc l i k 140 (ZD .done (some .ret) fid sg bd)) S'/\nk'=7)\/(¬xC a b<=pc.gap/\d=.bool true/\zV (cS pc l 0 0 0 (ZD .ready none fid sg bd)) S'/\nk'=7)) hx hvs h6 rfl rfl hT hsg hbd (fun ρ Z β H=>?_) ?_
 ·have mixp:((parK Z0 lo anc β0 H1).round ρ Z 7 β H).P.follows .mixedOrders=true:=wq;refine qu (E0:=[(34,.int i),(35,.int k),(1,.one (.ptr 0 0)),(2,.one (.ptr 1 0)),(3,.one (.ptr 2 0)),(4,.one (.ptr 3 0)),(5,.one (.ptr 4 0))]) (S0:=cS pc l 0 0 0 (ZD .ready none fid sg bd)) (qf rfl (qf rfl (qf rfl (qf rfl (qf rfl (qf rfl (qf rfl (qw _)))))))) hS ?_;have e1:=kH ha;have e2:=kH hb;have hi:=(zgs ha).1;have hk:=(zgs hb).1;have hsa:=hsm a (zmg ha);have hsb:=hsm b (zmg hb);refine qa ?_;intros;refine⟨rfl,_,_,_,_,_,_,_,_,_,rfl,rfl,?_⟩;refine qa ?_;intros;refine qj rfl rfl (Yy (wl hsa.1) (wl hsb.1) oM oM) ?_;rintro _ rfl;refine qa ?_;intros;refine qb rfl (fun hd=>?_) (fun hd=>?_)
  ·have hd:=qG hd;refine qa ?_;intros;refine qc ?_;exact⟨_,_,_,_,_,_,_,_,_,rfl,.inl ⟨hd,rfl,qf rfl (qf rfl (qf rfl (qf rfl (qf rfl (qf rfl (qf rfl (qw _))))))),rfl⟩⟩
  ·have hd:=qQ hd;refine qa ?_;intros;exact⟨_,_,_,_,_,_,_,_,_,rfl,.inr ⟨hd,rfl,qf rfl (qf rfl (qf rfl (qf rfl (qf rfl (qf rfl (qf rfl (qw _))))))),rfl⟩⟩
 ·rintro _ S' _ (⟨hd,rfl,hs,rfl⟩|⟨hd,rfl,hs,rfl⟩)
  ·exact zW (zj _) hs (h1 hd)
  ·exact zW (zj _) hs (h2 hd)
theorem BU {pc:Pic} {l:List (List qd)} (hsm:∀c∈l,(∀q∈c,zm q=true)/\c.length<=256) (hn:l.length<1000)
 {fid:FuncId} {sg bd:Code} (hsg:xe Tryz.prog 7 mU.n sg=some (.seq (.ops f8 0 true) (.ops f7 0 true))) (hbd:xe Tryz.prog 7 mU.n bd=some pN):
 Zd 149 [.one (.yl 6),.one (.ptr 5 0)] (cS pc l 0 0 0 (ZD .ready none fid sg bd)) 7 fun _ S' nk'=>
  (rL pc.gap l/\S'=cS pc l 0 0 0 (ZD .ready none fid sg bd)/\nk'=7)\/(∃i k:Nat,Kn pc.gap l i k/\S'=cS pc l i k 140 (ZD .done (some .ret) fid sg bd)/\nk'=7):=by
 refine w9 (pC 149).2 rfl fun Z β H lo=>?_;refine qa ?_;intros;refine qm (fun m E S nk=>∃i:Nat,i+m=l.length/\(∀(i' k':Nat) a b,i'<k'->i'<i->l[i']?=some a->l[k']?=some b->¬xC a b<=pc.gap)/\E=[(0,.one (.yl 6)),(1,.one (.ptr 5 0)),(5,.int l.length),(6,.int i)]/\S=cS pc l 0 0 0 (ZD .ready none fid sg bd)/\nk=7)
  ⟨l.length,_,_,_,[],?wk,0,oM,fun i' k' a b _ h=>oM,rfl,rfl,rfl⟩ ?_
 case wk=>exact ql
 rintro m E S nk ⟨i,hi,hok,rfl,rfl,rfl⟩;refine qa ?_;intros;refine qb rfl (fun ht=>?_) (fun ht=>?_)
 ·have ht:i<l.length:=by have:=qG ht;omega
  obtain⟨a,ha⟩:∃r,l[i]?=some r:=⟨_,zge ht⟩;refine qa ?_;intros;refine qm (fun m E S nk=>∃k:Nat,k+m=l.length/\i<k/\(∀(k':Nat) b,i<k'->k'<k->l[k']?=some b->¬xC a b<=pc.gap)/\E=[(0,.one (.yl 6)),(1,.one (.ptr 5 0)),(3,.int i),(4,.int k),(5,.int l.length),(6,.int i)]/\S=cS pc l 0 0 0 (ZD .ready none fid sg bd)/\nk=7)
   ⟨l.length-(i+1),_,_,_,[],?wk2,i+1,oM,oM,fun k' b _ h=>oM,rfl,rfl,rfl⟩ ?_
  case wk2=>exact ql
  rintro m2 E S nk ⟨k,hk,hik,hok2,rfl,rfl,rfl⟩;refine qa ?_;intros;refine qb rfl (fun ht2=>?_) (fun ht2=>?_)
  ·have ht2:k<l.length:=by have:=qG ht2;omega
   obtain⟨b,hb⟩:∃r,l[k]?=some r:=⟨_,zge ht2⟩;refine qa ?_;intros;refine M0 (i:=i) (k:=k) ha hb hsm hsg hbd rfl (zj _) rfl rfl rfl (fun hd=>?_) (fun hd=>?_)
   ·refine qa ?_;intros;refine qb rfl (fun _=>?_) (fun h=>by cases h);refine qc ⟨_,rfl,rfl,_,zj _,.inr ⟨i,k,⟨⟨a,b,hik,ha,hb,hd⟩,fun i' k' a' b' h1 h2 h3 h4=>?_⟩,rfl,rfl⟩⟩;rcases h2 with h2|⟨rfl,h2⟩
    ·exact hok i' k' a' b' h1 h2 h3 h4
    ·rw [ha] at h3;rw [<-zsi h3];exact hok2 k' b' h1 h2 h4
   ·refine qa ?_;intros;refine qb rfl (fun h=>by cases h) (fun _=>?_);refine qa ?_;intros;refine⟨m2-1,oM,_,_,_,[],?wk3,k+1,oM,oM,?hno,rfl,rfl,rfl⟩
    case hno=>
     intro k' b' h1 h2 h3;by_cases hkk:k'=k
     ·subst hkk;rw [hb] at h3;rw [<-zsi h3];exact hd
     ·exact hok2 k' b' h1 oM h3
    case wk3=>exact ql
  ·have ht2:k=l.length:=by have:=qQ ht2;omega
   refine qa ?_;intros;refine⟨m-1,oM,_,_,_,[],?wk4,i+1,oM,?hno3,rfl,rfl,rfl⟩
   case hno3=>
    intro i' k' a' b' h1 h2 h3 h4;by_cases hii:i'=i
    ·subst hii;rw [ha] at h3;rw [<-zsi h3];exact hok2 k' b' h1 (by have:=(zgs h4).1;omega) h4
    ·exact hok i' k' a' b' h1 oM h3 h4
   case wk4=>exact ql
 ·have ht:i=l.length:=by have:=qQ ht;omega
  subst ht;refine qa ?_;intros;exact⟨_,rfl,rfl,_,zj _,.inl ⟨fun i k a b h1 h2 h3=>hok i k a b h1 (zgs h2).1 h2 h3,rfl,rfl⟩⟩
theorem DF{n:Int}:BS 105 [.int n] fun d S nk=>d=.one (.fn 149 [(0,0)])/\S=[(0,.cells [.f (.c (.int .i64 n))])]/\nk=1:=by
 refine ZK (pC 105).2 rfl jm fun Z0 lo=>?_;refine qa ?_;intros;exact qc ⟨_,rfl,rfl,_,zj _,rfl,rfl,rfl⟩
theorem p5{p:Pic}(hv:∀f∈p.fs,xB f=true)(hn:p.fs.length<1000):DK 103 [yz p] fun d=>d=wE (qz p):=by
 refine qI fun Z0 lo=>?_;refine qa ?_;intros;refine pR [.c .nils] rfl rfl ⟨rfl,rfl,trivial⟩ rfl (by decide) (Nat.le_refl _) oM oM ?_;refine qa ?_;intros;refine qm (fun m E S nk=>∃(i:Nat) (L:List FD),i+m=p.fs.length/\V6 p i L/\E=[(1,.one (.ptr 0 0)),(3,.one (.own 1 0 p.fs.length 1)),(11,.int p.fs.length),(12,.int i)]/\S=[(0,.cells (yL p)),(1,.data L)]/\nk=2)
  ⟨p.fs.length,_,_,_,[],?wk,0,yF [.c .nils] p.fs.length,oM,⟨?hl,fun j f hj=>oM⟩,rfl,rfl,rfl⟩ ?_
 case wk=>exact ql
 case hl=>rw [Qn];simp
 rintro m E S nk ⟨i,L,hi,hL,rfl,rfl,rfl⟩;refine qa ?_;intros;refine qb rfl (fun hi2=>?_) (fun hi2=>?_)
 ·have hi2:i<p.fs.length:=by have:=qG hi2;omega
  obtain⟨f,hf⟩:∃f,p.fs[i]?=some f:=⟨_,zge hi2⟩;have e1:=Jt hf;have hLl:=hL.1;refine qa ?_;intros;refine qj rfl rfl (gW (hv f (zmg hf))) ?_;rintro _ rfl;refine qa ?_;intros;have hle:i+1<=(Bk.data L).len:=by simp only [Bk.len];omega
  refine vq rfl rfl rfl rfl rfl hle rfl ?_;refine zE ?_;refine qa ?_;intros;refine⟨m-1,oM,_,_,_,[],?wk1,i+1,L.set i (qV (qN f)),oM,hL.step hf,rfl,rfl,rfl⟩
  case wk1=>exact ql
 ·have hi2:i=p.fs.length:=by have:=qQ hi2;omega
  subst hi2;have hLl:L.length=p.fs.length*1:=by rw [hL.1];omega
  refine qa ?_;intros;refine qu (qf (k:=2) rfl (qw _)) (qf (k:=1) rfl (qw _)) ?_;refine qH 1 rfl qD qD ?_;refine qc ⟨_,rfl,rfl,?_⟩;rw [hL.all,show p.fs.length=(qz p).length by simp [qz]];rfl
theorem DB{p:Par}{n:Nat}{Q:Exit->qo->Bx->Nat->Prop}{E:qo}{S:Bx}{nk:Nat}{s:SC}(h:DPS p n s Q E ((nk,.data [])::S) (nk+1)):DPS p n s Q E S nk:=.mk fun Z β H F hS hE=>
 h.run Z _ H F (QU hS) (hE.mono (xd.refl Z H) (hS.ble .nil))
structure Grow (g:Int) (rest:List qd) (x:qd) (c:List qd) (R:xk):Prop where
 inc:x∈c
 nd:c.Nodup
 conn:∀y∈c,Conn g rest x y
 holds:wN R (minus rest c)
def V7(g:Int)(rest c:List qd)(i:Nat):Prop:=∀(k:Nat) (q:qd),k<i->c[k]?=some q->∀y∈rest,xg q y<=g->y∈c
theorem Grow.len{g:Int}{rest c:List qd}{x:qd}{R:xk}(h:Grow g rest x c R):c.length<=rest.length:=wD h.nd fun y hy=>(h.conn y hy).mem
theorem Grow.take{g:Int}{rest c:List qd}{x q:qd}{R:xk}{dy:Int}(h:Grow g rest x c R)(hr:rest.Nodup)(hq:q∈c)(h1: -g<=dy)(h2:dy<=g):
 Grow g rest x (c++yJ R (q.2+dy) (q.1-g) (q.1+g)) (lft R (q.2+dy) (q.1-g) (q.1+g))/\((minus rest (c++yJ R (q.2+dy) (q.1-g) (q.1+g))).length:Int)=(minus rest c).length-(yJ R (q.2+dy) (q.1-g) (q.1+g)).length/\
  ∀y∈rest,xg q y<=g->y.2=q.2+dy->y∈c++yJ R (q.2+dy) (q.1-g) (q.1+g):=by
 obtain⟨t1,t2,t3,t4⟩:=h.holds.take (List.Pairwise.filter _ hr) (q.2+dy) (q.1-g) (q.1+g);generalize yJ R (q.2+dy) (q.1-g) (q.1+g)=T at *;refine⟨⟨List.mem_append_left _ h.inc,?_,fun y hy=>?_,?_⟩,?_,fun y hy hf hd=>?_⟩
 ·rw [List.nodup_append];refine⟨h.nd,t2,fun a ha b hb e=>?_⟩;subst e;exact (yX.1 ((t3 a).1 hb).1).2 ha
 ·rcases List.mem_append.1 hy with hy|hy
  ·exact h.conn y hy
  ·obtain⟨h3,h4,h5,h6⟩:=(t3 y).1 hy;exact .step (h.conn q hq) (yX.1 h3).1 ((K7 q y g).2 ⟨h5,h6,oM,oM⟩)
 ·rw [<-a8];exact t1
 ·rw [<-a8];omega
 ·by_cases hc:y∈c
  ·exact List.mem_append_left _ hc
  ·have:=(K7 q y g).1 hf;exact List.mem_append_right _ ((t3 y).2 ⟨yX.2 ⟨hy,hc⟩,hd,this.1,this.2.1⟩)
theorem pZ{l:List qd}{gap:Int}(hs:∀p∈l,qB 1000000 p)(hn:l.length<100000):DK 104 [qx l,.int gap] fun d=>∃cs,d=wE cs/\ClS (min (max gap 0) 2000) (qt l) cs:=by
 refine zy Df rfl jm fun Z0 lo=>?_;have hsl:(qt l).length<100000:=by
  have:=wD (xv l).nodup (fun x hx=>xi.1 hx);omega
 have hss:∀p∈qt l,qB 1000000 p:=fun x hx=>hs x (xi.1 hx);have hP:=xv l;have fin:DPS (Par.base Tryz.prog 7 (H00 1) Z0 lo) Kb.n (.seq (.ops gC 0 true) (.seq (.seq (.ops gB 0 true) (.block 0 (.loop K8))) (.seq (.ops VY 0 true) (.seq (.ops VX 0 true) (.seq (.ops VW 0 true) (.seq (.seq (.ops VV 0 true) (.block 2 (.loop gD))) (.seq (.ops VU 0 true) .ret))))))) (Y5 (Par.base Tryz.prog 7 (H00 1) Z0 lo) Kb.res fun d=>∃cs,d=wE cs/\ClS (min (max gap 0) 2000) (qt l) cs)
  [(1,.int gap),(4,.one (.f (.c .nils))),(5,qx (qt l))] [] 0:=by
  generalize qt l=P at *;refine yB ?_;refine yq wq (fun base=>?_);refine C8 ?_;refine qa ?_;intros;refine wi [] (n0:=3) (E0:=[(1,.int gap),(4,.one (.f (.c .nils))),(5,qx P),(6,.one (.ptr 1 0)),(7,.one (.ptr 2 0)),(27,qx P),(28,.int P.length),(29,.int 0)]) (S0:=S3 [] P.length) ⟨xH,oD rfl rfl rfl oM,rfl,rfl⟩ ?_;refine EG hP oM fun R0 hR0=>?_;refine qa ?_;intros;refine QX 11 1 rfl ?_;obtain⟨g,hg⟩:∃g,min (max gap 0) 2000=g:=⟨_,rfl⟩;have hg0:0<=g:=by omega
  have hg1:g<=2000:=by omega
  rw [hg];obtain⟨N,hN⟩:∃N,P.length=N:=⟨_,rfl⟩;refine qm (fun m E S nk=>∃(j:Nat) (rest:List qd) (out:List (List qd)) (R:xk),j+m=N/\qS rest/\(∀x∈rest,x∈P.drop j)/\wN R rest/\out.length+rest.length<=N/\(∀cs,ClS g rest cs->ClS g P (out++cs))/\E=[(1,.int g),(7,.one (.ptr 2 0)),(10,.one (.fn 146 [(1,0),(2,0)])),(11,.one (.own 3 0 out.length 1)),(49,qx P),(50,.int N),(51,.int j)]/\S=S4 R rest.length (out.map qV)/\nk=4) ⟨N,_,_,_,[],?wk,0,P,[],R0,by omega,hP,fun x hx=>by simpa using hx,hR0,by simp;omega,fun cs h=>h,rfl,rfl,rfl⟩ ?_
  case wk=>rw [<-hN];exact⟨xH,dP rfl rfl rfl rfl (by omega),rfl,rfl⟩
  rintro m E S nk ⟨j,rest,out,R,hjm,hro,hsub,hR,hout,hcl,rfl,rfl,rfl⟩;have hrP:∀x∈rest,x∈P:=fun x hx=>List.mem_of_mem_drop (hsub x hx);have hol:(out.map qV).length=out.length*1:=by simp
  refine qa ?_;intros;refine qb rfl (fun ht=>?_) (fun ht=>?_)
  ·simp at ht;obtain⟨x,hx⟩:∃x,P[j]?=some x:=⟨_,zge oM⟩;have e1:=qY hx;refine DB ?_;have hdr:P.drop j=x::P.drop (j+1):=by
    rw [List.drop_eq_getElem_cons (by omega),(zgs hx).2]
   obtain⟨t1,t2,t3,t4⟩:=hR.take hro.nodup x.2 x.1 x.1;have tx:∀y∈yJ R x.2 x.1 x.1,y=x:=fun y hy=>by
    obtain⟨_,h1,h2,h3⟩:=(t3 y).1 hy;exact Prod.ext oM h1
   refine qa ?_;intros;refine zW (E0:=[(1,.int g),(7,.one (.ptr 2 0)),(10,.one (.fn 146 [(1,0),(2,0)])),(11,.one (.own 3 0 out.length 1)),(49,qx P),(50,.int N),(51,.int j),(55,.one (.fn 146 [(1,0),(2,0)])),(57,.int x.2),(59,.int x.1),(61,.int x.1)]) (S0:=SS R rest.length (out.map qV) [] x.1 x.2)
    (qf (k:=1) rfl (qf (k:=7) rfl (qf (k:=10) rfl (qf (k:=11) rfl (qf (k:=49) rfl (qf (k:=50) rfl (qf (k:=51) rfl (qf (k:=55) rfl (qf (k:=57) rfl (qf (k:=59) rfl (qf (k:=61) rfl (qw _))))))))))))
    (qf (k:=0) rfl (qf (k:=1) rfl (qf (k:=2) rfl (qf (k:=3) rfl (qf (k:=4) rfl (qf (k:=5) rfl (qw _))))))) ?_
   refine AH rfl FZ rfl rfl rfl (nC (R:=R) (left:=rest.length) (y:=x.2) (low:=x.1) (high:=x.1) (A:=out.map qV) (B:=[]) (a:=x.1) (b:=x.2) hR.1.ok oM oM _ _ _ _ _) ?_;rintro _ _ _ ⟨rfl,rfl,rfl⟩;by_cases hxr:x∈rest
   ·have hT:yJ R x.2 x.1 x.1=[x]:=by
     rcases only t2 tx with h|h
     ·have:=(t3 x).2 ⟨hxr,rfl,oM,oM⟩;rw [h] at this;simp at this
     ·exact h
    rw [hT] at t1 t4 ⊢;obtain⟨r,rfl⟩:∃r,rest=x::r:=by
     cases rest with
     |nil=>simp at hxr
     |cons a r=>
      refine⟨r,?_⟩;by_cases hax:a=x
      ·rw [hax]
      ·have ha:=hsub a (by simp);rw [hdr] at ha;rcases List.mem_cons.1 ha with h|h
       ·exact absurd h hax
       ·have hb1:qO x a=true:=by
         have h5:qS (P.drop j):=List.Pairwise.sublist (List.drop_sublist j P) hP;rw [hdr,qS,List.pairwise_cons] at h5;exact h5.1 a h
        have hb2:qO a x=true:=by
         rcases List.mem_cons.1 hxr with h6|h6
         ·exact absurd h6.symm hax
         ·rw [qS,List.pairwise_cons] at hro;exact hro.1 x h6
        exact absurd (vB hb1 hb2) jY
    have hrn:=hro.nodup;have hL1:(((x::r).length:Nat):Int)-(([x].length:Nat):Int)=((minus (x::r) [x]).length:Nat):=by omega
    rw [hL1];generalize hlf:lft R x.2 x.1 x.1=R1 at t1 ⊢;clear hlf;obtain⟨M,hM⟩:∃M,(x::r).length=M:=⟨_,rfl⟩;have hM2:M=r.length+1:=by rw [<-hM];simp
    refine qa ?_;intros;refine qb rfl (fun h=>by simp at h) (fun _=>?_);refine qa ?_;intros;refine qm (fun m E S nk=>∃(i:Nat) (c:List qd) (R:xk),Grow g (x::r) x c R/\V7 g (x::r) c i/\i<=c.length/\m=M-i/\E=[(1,.int g),(7,.one (.ptr 2 0)),(10,.one (.fn 146 [(1,0),(2,0)])),(11,.one (.own 3 0 out.length 1)),(14,.one (.own 4 0 c.length 2)),(15,.int i),(49,qx P),(50,.int N),(51,.int j)]/\S=S5 R (minus (x::r) c).length (out.map qV) (c.flatMap qh)/\nk=5) ⟨M,_,_,_,[(4,7)],?wk1,0,[x],R1,⟨by simp,by simp,fun y hy=>?hy,t1⟩,fun k q h=>(by omega),by omega,by omega,rfl,rfl,rfl⟩ ?_
    case wk1=>exact⟨xH,M4 rfl rfl rfl rfl rfl oM,rfl,rfl⟩
    case hy=>simp at hy;subst hy;exact .base (by simp)
    rintro m2 E S nk ⟨i,c,R,hG,hD,hic,hm2,rfl,rfl,rfl⟩;have hcM:=hG.len;rw [hM] at hcM;have hcP:∀y∈c,y∈P:=fun y hy=>hrP y (hG.conn y hy).mem;have hcf:=qL c;have hpos:0<c.length:=List.length_pos_of_mem hG.inc;have hms:minus (x::r) (qt c)=minus (x::r) c:=by unfold minus;congr 1;funext z;simp [xi]
    have hmr:(minus (x::r) c).length<=r.length:=X0 hG.inc;simp only [List.length_cons] at hout;have step:(∀q∈c,∀y∈(x::r),xg q y<=g->y∈c)->∀cs,ClS g (minus (x::r) c) cs->ClS g P (out++[qt c]++cs):=fun hclo cs hcs=>by
     rw [List.append_assoc];refine hcl _ (.cons (xv c) (fun y=>xi.trans (WH hG.inc hG.conn hclo y)) ?_);rw [hms];exact hcs
    have hdrop:∀y∈minus (x::r) c,y∈P.drop (j+1):=fun y hy=>by
     obtain⟨h1,h2⟩:=yX.1 hy;have h3:=hsub y h1;rw [hdr] at h3;rcases List.mem_cons.1 h3 with h|h
     ·subst h;exact absurd hG.inc h2
     ·exact h
    by_cases hi:i<c.length
    ·have g1:decide ((i:Int)<c.length)=true:=by simpa using hi
     by_cases hl:0<(minus (x::r) c).length
     ·have g2:decide (((minus (x::r) c).length:Int)>0)=true:=by simpa using hl
      refine xn ?_;intros;refine qb rfl (fun _=>?_) (fun h=>by cases h);obtain⟨q,hq⟩:∃q,c[i]?=some q:=⟨_,zge hi⟩;have hqc:q∈c:=zmg hq;obtain⟨q1,q2,q3,q4⟩:=hss q (hcP q hqc);have e2:qT (c.flatMap qh) (Int.toNat ((i:Nat):Int)*2) 2=some (qh q):=qY hq;refine qa ?_;intros;rw [show IntKind.i64.wrap (0-g)= -g by rw [qg (by omega) (by omega)];omega];refine qm (fun k E S nk=>∃(dy:Int) (c' ext:List qd) (R:xk), -g<=dy/\dy<=g+1/\k=(g+1-dy).toNat/\c'=c++ext/\Grow g (x::r) x c' R/\(∀y∈(x::r),xg q y<=g->y.2<q.2+dy->y∈c')/\E=[(1,.int g),(7,.one (.ptr 2 0)),(10,.one (.fn 146 [(1,0),(2,0)])),(11,.one (.own 3 0 out.length 1)),(14,.one (.own 4 0 c'.length 2)),(15,.int i),(16,.one (.ptr 5 0)),(17,.int dy),(49,qx P),(50,.int N),(51,.int j)]/\S=SS R (minus (x::r) c').length (out.map qV) (c'.flatMap qh) q.1 q.2/\nk=6) ⟨(g+1- -g).toNat,_,_,_,[],?wk3, -g,c,[],R,by omega,by omega,rfl,by simp,hG,fun y hy hf h=>?h0,rfl,rfl,rfl⟩ ?_
      case wk3=>exact⟨xH,oC rfl rfl rfl rfl rfl rfl oM,rfl,rfl⟩
      case h0=>have:=(K7 q y g).1 hf;omega
      rintro k E S nk ⟨dy,c',ext,R',hd1,hd2,hk,hce,hG',hnear,rfl,rfl,rfl⟩;have hcM':=hG'.len;rw [hM] at hcM';have hcl':c'.length=c.length+ext.length:=by rw [hce];simp
      have hqc':q∈c':=by rw [hce];exact List.mem_append_left _ hqc
      have hcf':=qL c';refine qa ?_;intros;refine qb rfl (fun ht2=>?_) (fun ht2=>?_)
      ·simp at ht2;obtain⟨k1,k2,k3⟩:=hG'.take hrn hqc' hd1 ht2;have hmr':(minus (x::r) c').length<=r.length:=X0 hG'.inc;have w1:IntKind.i64.wrap (q.2+dy)=q.2+dy:=qg oM oM;have w2:IntKind.i64.wrap (q.1-g)=q.1-g:=qg oM oM;have w3:IntKind.i64.wrap (q.1+g)=q.1+g:=qg oM oM;refine qa ?_;intros;rw [w1,w2,w3];refine AH rfl FZ rfl rfl rfl (nC (R:=R') (left:=(minus (x::r) c').length) (y:=q.2+dy) (low:=q.1-g) (high:=q.1+g) (A:=out.map qV) (B:=c'.flatMap qh) (a:=q.1) (b:=q.2) hG'.holds.1.ok oM oM _ _ _ _ _) ?_;rintro _ _ _ ⟨rfl,rfl,rfl⟩;generalize yJ R' (q.2+dy) (q.1-g) (q.1+g)=T at *;generalize lft R' (q.2+dy) (q.1-g) (q.1+g)=R2 at *;have hTM:=k1.len;rw [hM,List.length_append] at hTM;have hTf:=qL T;refine qa ?_;intros;refine qy (q:=T.flatMap qh) rfl rfl rfl (qp _ hcf') ⟨rfl,rfl,_,rfl,qp _ hTf⟩ oM oM (by decide) rfl ?_;refine qa ?_;intros;refine⟨(g+1-(dy+1)).toNat,by omega,_,_,_,[(4,8)],?wk4,dy+1,c'++T,ext++T,R2,by omega,by omega,rfl,by rw [hce,List.append_assoc],k1,fun y hy hf h=>?hn,rfl,rfl,rfl⟩
       case wk4=>rw [k2,List.length_append,List.flatMap_append];exact⟨xH,oC rfl rfl rfl rfl rfl rfl (by omega),rfl,rfl⟩
       case hn=>
        by_cases h5:y.2<q.2+dy
        ·exact List.mem_append_left _ (hnear y hy hf h5)
        ·exact k3 y hy hf oM
      ·simp at ht2;refine qa ?_;intros;refine⟨M-(i+1),oM,_,_,_,[],?wk5,i+1,c',R',hG',fun k z hk hz y hy hf=>?hdn,oM,rfl,rfl,rfl,rfl⟩
       case wk5=>exact⟨xH,M4 rfl rfl rfl rfl rfl oM,rfl,rfl⟩
       case hdn=>
        by_cases hki:k=i
        ·subst hki;rw [hce,List.getElem?_append_left hi,hq] at hz;obtain rfl:=zsi hz;have:=(K7 q y g).1 hf;exact hnear y hy hf oM
        ·rw [hce,List.getElem?_append_left (by omega)] at hz;rw [hce];exact List.mem_append_left _ (hD k z oM hz y hy hf)
     ·have g2:decide (((minus (x::r) c).length:Int)>0)=false:=by simpa using hl
      have hm0:minus (x::r) c=[]:=List.eq_nil_of_length_eq_zero oM;have hclo:∀q∈c,∀y∈(x::r),xg q y<=g->y∈c:=fun q _ y hy _=>Classical.byContradiction fun h=>by
       have:=yX.2 ⟨hy,h⟩;rw [hm0] at this;simp at this
      refine xn ?_;intros;refine qb rfl (fun h=>by cases h) (fun _=>?_);refine ya ?_;refine qu (qf (k:=1) rfl (qf (k:=7) rfl (qf (k:=10) rfl (qf (k:=11) rfl (qf (k:=14) rfl (qf (k:=49) rfl (qf (k:=50) rfl (qf (k:=51) rfl (qw _))))))))) (zj _) ?_;refine cB hpos hG.nd oM oM ?_;refine qa ?_;intros;refine⟨m-1,by omega,_,_,_,[(3,6)],?wka,j+1,minus (x::r) c,out++[qt c],R,by omega,hro.minus _,hdrop,hG.holds,by simp;omega,step hclo,rfl,rfl,rfl⟩
      case wka=>rw [List.length_append];exact⟨xH,dP rfl rfl rfl rfl (by omega),rfl,rfl⟩
    ·have g1:decide ((i:Int)<c.length)=false:=by simpa using hi
     have hclo:∀q∈c,∀y∈(x::r),xg q y<=g->y∈c:=fun q hq y hy hf=>by
      obtain⟨k,hk⟩:=List.getElem?_of_mem hq;exact hD k q (by have:=(zgs hk).1;omega) hk y hy hf
     refine xn ?_;intros;refine qb rfl (fun h=>by cases h) (fun _=>?_);refine ya ?_;refine qu (qf (k:=1) rfl (qf (k:=7) rfl (qf (k:=10) rfl (qf (k:=11) rfl (qf (k:=14) rfl (qf (k:=49) rfl (qf (k:=50) rfl (qf (k:=51) rfl (qw _))))))))) (zj _) ?_;refine cB hpos hG.nd oM oM ?_;refine qa ?_;intros;refine⟨m-1,by omega,_,_,_,[(3,6)],?wkb,j+1,minus (x::r) c,out++[qt c],R,by omega,hro.minus _,hdrop,hG.holds,by simp;omega,step hclo,rfl,rfl,rfl⟩
     case wkb=>rw [List.length_append];exact⟨xH,dP rfl rfl rfl rfl (by omega),rfl,rfl⟩
   ·have hT:yJ R x.2 x.1 x.1=[]:=by
     rcases only t2 tx with h|h
     ·exact h
     ·have:=(t3 x).1 (by rw [h];simp);exact absurd this.1 hxr
    rw [hT] at t1 ⊢;rw [tU] at t1;generalize hlf:lft R x.2 x.1 x.1=R1 at t1 ⊢;clear hlf;refine qa ?_;intros;refine qb rfl (fun _=>?_) (fun h=>by simp at h);refine ya ?_;refine qa ?_;intros;refine⟨m-1,oM,_,_,_,[],?wkc,j+1,rest,out,R1,oM,hro,fun y hy=>?hy2,t1,hout,hcl,rfl,rfl,rfl⟩
    case wkc=>exact⟨xH,dP rfl rfl rfl rfl oM,rfl,rfl⟩
    case hy2=>
     have h3:=hsub y hy;rw [hdr] at h3;rcases List.mem_cons.1 h3 with h|h
     ·subst h;exact absurd hy hxr
     ·exact h
  ·simp at ht;have hr0:rest=[]:=by
    cases rest with
    |nil=>rfl
    |cons a r=>
     have:=hsub a (by simp);rw [List.drop_of_length_le (by omega)] at this;simp at this
   subst hr0;refine qu (qf (k:=11) rfl (qw _)) (qf (k:=3) rfl (qw _)) ?_;refine qH 3 rfl qD qD ?_;refine qa ?_;intros;refine qc ⟨_,rfl,rfl,out,rfl,?_⟩;have:=hcl [] .nil;simpa using this
 have mid:0<l.length->DPS (Par.base Tryz.prog 7 (H00 1) Z0 lo) Kb.n (.seq (.ops u6 0 true) (.seq (.ops u5 0 true) (.seq (.ops gC 0 true) (.seq (.seq (.ops gB 0 true) (.block 0 (.loop K8))) (.seq (.ops VY 0 true) (.seq (.ops VX 0 true) (.seq (.ops VW 0 true) (.seq (.seq (.ops VV 0 true) (.block 2 (.loop gD))) (.seq (.ops VU 0 true) .ret))))))))) (Y5 (Par.base Tryz.prog 7 (H00 1) Z0 lo) Kb.res fun d=>∃cs,d=wE cs/\ClS (min (max gap 0) 2000) (qt l) cs)
  [(1,.int gap),(4,.one (.f (.c .nils))),(5,.one (.own 0 0 l.length 2))] [(0,.data (l.flatMap qh))] 1:=by
  intro hpos;refine qa ?_;intros;refine ko rfl rfl rfl (nD (k:=0) (l:=l) rfl hpos oM _ _ _ _ _) ?_;rintro _ _ _ ⟨rfl,rfl,l',hperm,hsort,rfl⟩;have hll:=hperm.length_eq;have hco:=pP (l:=l') hsort oM oM;have hso:qt l'=qt l:=qS.ext (xv _) (xv _) fun p=>by rw [xi,xi,hperm.mem_iff]
  rw [hll,hso] at hco;refine qa ?_;intros;refine ko rfl rfl rfl (hco _ _ _ _ _) ?_;rintro _ _ _ ⟨rfl,rfl,rest,rfl⟩;refine xT rfl ?_;refine zE ?_;refine qu (qf (k:=1) rfl (qf (k:=4) rfl (qf (k:=5) rfl (qw _)))) (qf (k:=0) rfl (qw _)) ?_;refine bW 0 ((qt l).length*2) rfl ?_;have hfl:=qL (qt l);rw [List.take_append_of_le_length (by omega),List.take_of_length_le (by omega)];refine qH 0 rfl qD qD ?_;refine wi [] (n0:=0) (E0:=[(1,.int gap),(4,.one (.f (.c .nils))),(5,qx (qt l))]) (S0:=[]) ⟨xH,trivial,rfl,rfl⟩ ?_;exact fin
 refine qa ?_;intros;refine ZI rfl rfl (DH oM) ?_;rintro _ _ _ ⟨k,hk,rfl,rfl,rfl⟩;refine xT rfl ?_;refine zE ?_;by_cases h0:l=[]
 ·subst h0;refine yB ?_;refine LM 5 rfl ?_;refine qa ?_;intros;refine qj rfl rfl LO ?_;rintro _ rfl;refine qa ?_;intros;refine qj rfl rfl pY ?_;rintro _ rfl;refine xT rfl ?_;refine zE ?_;refine wi [] (n0:=0) (E0:=[(1,.int gap),(4,.one (.f (.c .nils))),(5,qx (qt []))]) (S0:=[]) ⟨xH,trivial,rfl,rfl⟩ ?_;exact fin
 ·have hpos:0<l.length:=List.length_pos_iff.2 h0;rcases hk with rfl|rfl
  ·refine wi [] (n0:=1) (E0:=[(1,.int gap),(4,.one (.f (.c .nils))),(5,.one (.own 0 0 l.length 2))]) (S0:=[(0,.data (l.flatMap qh))]) ⟨xH,⟨rfl,rfl,rfl,trivial⟩,rfl,rfl⟩ ?_;exact mid hpos
  ·refine wi [(0,1)] (n0:=1) (E0:=[(1,.int gap),(4,.one (.f (.c .nils))),(5,.one (.own 0 0 l.length 2))]) (S0:=[(0,.data (l.flatMap qh))]) ⟨xH,⟨rfl,rfl,rfl,trivial⟩,rfl,rfl⟩ ?_;exact mid hpos
end Go.Ah
