/- -/
import Derived.Test.YtbfbplnghpdmhaaGreatDoorAb17
set_option linter.unusedSimpArgs false
set_option maxHeartbeats 16000000
set_option linter.unusedVariables false
namespace Go.Ag
open Go.Ab Go.Proofs
theorem HG{L:List qc}{n:Nat}(hl:jO L)(hn:L.length<100)(hnl:n<=L.length):fI 107 [qz L,.int n] fun d S nk=>d=.one (.own 0 0 (zZ L n).length 2)/\S=[(0,.data ((zZ L n).flatMap qh))]/\nk=1:=by
 refine QF uR rfl qX fun Z0 lo=>?_;refine qb ?_;intros;refine ql (fun m E S nk=>∃i:Nat,i+m=n/\E=[(0,qz L),(1,.int n),(5,.one (.own 0 0 (zZ L i).length 2)),(6,.int i)]/\S=[(0,.data ((zZ L i).flatMap qh))]/\nk=1)
  ⟨n,_,_,_,[],?wk,0,oM,rfl,rfl,rfl⟩ ?_
 case wk=>exact qm
 rintro m E S nk ⟨i,hi,rfl,rfl,rfl⟩;refine qb ?_;intros;refine qe rfl (fun ht=>?_) (fun ht=>?_)
 ·have ht:i<n:=by have:=xC ht;omega
  have ha:L[i]?=some (xH L i):=by rw [xH,zge (by omega)];rfl
  have hb:L[yQ L i]?=some (xH L (yQ L i)):=by rw [xH,zge (wG (by omega))];rfl
  have hsa:=hl _ (zmg ha);have hsb:=hl _ (zmg hb);have h1:=XV hl i oM;have h2:=wM hsa hsb;have hfl:=xb (zZ L i);have hf2:=xb (xR (xH L i) (xH L (yQ L i)));refine qb ?_;intros;refine qk rfl rfl (m7 oM oM ha hb) ?_;rintro _ rfl;refine qb ?_;intros;refine qk rfl rfl (rO hsa hsb) ?_;rintro _ rfl;refine qV (m:=(xR (xH L i) (xH L (yQ L i))).length) (q:=(xR (xH L i) (xH L (yQ L i))).flatMap qh) rfl rfl rfl (qH _ hfl) ⟨rfl,rfl,rfl⟩ oM oM (by decide) rfl ?_;rw [<-List.flatMap_append,<-List.length_append,<-Yx];refine qb ?_;intros;refine⟨m-1,oM,_,_,_,[(0,3)],?wk1,i+1,oM,rfl,rfl,rfl⟩
  case wk1=>exact qm
 ·have ht:i=n:=by have:=xK ht;omega
  subst ht;have hfl:=xb (zZ L i);refine qb ?_;intros;exact qf ⟨_,rfl,rfl,_,zH _,rfl,rfl,rfl⟩
theorem tH{a b p:qc}(ha:zO a=true)(hb:zO b=true)(h:p∈xR a b):zO p=true:=by
 obtain⟨k,hk⟩:=List.getElem?_of_mem h;have h1:=(zgs hk).1;rw [WC] at h1;have hf:=QD a b;have h2:(k:Int)<=xz a b:=by omega
 rw [Jp a b h2] at hk;obtain rfl:=zsi hk;have h3:=eJ a b h2;rw [zx] at *;omega
theorem K7{L:List qc}(hL:∀p∈L,zO p=true){n:Nat}(hn:n<=L.length){p:qc}(h:p∈zZ L n):zO p=true:=by
 simp only [zZ,List.mem_flatMap,List.mem_range] at h;obtain⟨i,hi,hp⟩:=h;exact tH (hL _ (QI oM)) (hL _ (QI (wG oM))) hp
theorem RO{t:Int}{k:Nat}{p:qc}(ht:t=k)(hk:k<4)(hp:qC 1000 p):DK 108 [.int t,zd p] fun d=>d=.bool (j3 t p):=by rw [ht];exact qau hk hp
theorem eZ{f:Ft}(hv:x8 f=true):DK 78 [eP f] fun d=>d=qz (xe f):=by
 obtain⟨⟨hn1,hn2⟩,hin,hk⟩:=jm hv;have hsm:jO f.pts:=fun p hp=>Zj (hin p hp);refine qD qa0 rfl qX fun Z0 lo=>?_;by_cases h1:f.kind=1
 ·have b1:(f.kind==1)=true:=by simpa using h1
  refine qU ?_;intros;refine qe rfl (fun _=>?_) (fun ht=>by cases ht);refine qU ?_;intros;refine qf ⟨_,rfl,rfl,?_⟩;rw [xe,if_pos h1];rfl
 ·have b1:(f.kind==1)=false:=by simpa using h1
  by_cases h2:f.kind=2
  ·have b2:(f.kind==2)=true:=by simpa using h2
   have hw:IntKind.i64.wrap ((f.pts.length:Int)-1)=((f.pts.length-1:Nat):Int):=by rw [qq (by omega) (by omega)];omega
   have hll:=XV hsm (f.pts.length-1) oM;refine qU ?_;intros;refine qe rfl (fun ht=>by cases ht) (fun _=>?_);refine qU ?_;intros;refine qe rfl (fun _=>?_) (fun ht=>by cases ht);refine qU ?_;intros;rw [hw];refine qk rfl rfl (RS hsm oM oM) ?_;rintro _ rfl;refine qk rfl rfl (Vc (fun p hp=>K7 hin oM hp) oM) ?_;rintro _ rfl;refine qU ?_;intros;refine qf ⟨_,rfl,rfl,?_⟩;rw [xe,if_neg h1,if_pos h2];rfl
  ·have b2:(f.kind==2)=false:=by simpa using h2
   obtain⟨k,hk4,hft⟩:∃k:Nat,k<4/\f.tex=k:=by
    rw [yr,if_neg h1,if_neg h2] at hk;by_cases h3:f.kind=3
    ·rw [if_pos h3] at hk;simp at hk;exact⟨f.tex.toNat,oM,oM⟩
    ·rw [if_neg h3] at hk;cases hk
   have hll:=XV hsm f.pts.length oM;refine qU ?_;intros;refine qe rfl (fun ht=>by cases ht) (fun _=>?_);refine qU ?_;intros;refine qe rfl (fun ht=>by cases ht) (fun _=>?_);refine qU ?_;intros;refine jr rfl rfl (HG hsm oM oM) ?_;rintro _ _ _ ⟨rfl,rfl,rfl⟩;refine zJ rfl ?_;refine qb ?_;intros;refine ql (fun m E S nk=>∃(y:Nat) (out:List qc),y+m=60/\out=zZ f.pts f.pts.length++(je y).filter (fun p=>j3 f.tex p&&vN f.pts p)/\E=[(1,.one (.ptr 0 0)),(3,.one (.own 1 0 out.length 2)),(4,.int y)]/\S=[(0,.cells [.f (.c (.int .i64 f.kind)),.f (.c (.int .i64 f.tex)),.f (.sl 2 f.pts.length (f.pts.flatMap qh))]),(1,.data (out.flatMap qh))]/\nk=2)
    ⟨60,_,_,_,[],?wk2,0,zZ f.pts f.pts.length,rfl,by simp [je],rfl,rfl,rfl⟩ ?_
   case wk2=>exact qm
   rintro m E S nk ⟨y,out,hy,ho,rfl,rfl,rfl⟩;refine qb ?_;intros;refine qe rfl (fun hy2=>?_) (fun hy2=>?_)
   ·have hy2:y<60:=by have:=xC hy2;omega
    refine qb ?_;intros;refine ql (fun m E S nk=>∃(x:Nat) (out:List qc),x+m=60/\out=zZ f.pts f.pts.length++(je y++wo y x).filter (fun p=>j3 f.tex p&&vN f.pts p)/\E=[(1,.one (.ptr 0 0)),(3,.one (.own 1 0 out.length 2)),(4,.int y),(5,.int x)]/\S=[(0,.cells [.f (.c (.int .i64 f.kind)),.f (.c (.int .i64 f.tex)),.f (.sl 2 f.pts.length (f.pts.flatMap qh))]),(1,.data (out.flatMap qh))]/\nk=2)
     ⟨60,_,_,_,[],?wk3,0,out,rfl,by rw [ho];simp [wo],rfl,rfl,rfl⟩ ?_
    case wk3=>exact qm
    rintro m2 E S nk ⟨x,out2,hx,ho2,rfl,rfl,rfl⟩;refine qb ?_;intros;refine qe rfl (fun hx2=>?_) (fun hx2=>?_)
    ·have hx2:x<60:=by have:=xC hx2;omega
     have hxs:qC 1000 ((x:Int),(y:Int)):=by unfold qC;simp only;omega
     have hle:out2.length<=100000:=by
      have h1:((je y++wo y x).filter (fun p=>j3 f.tex p&&vN f.pts p)).length<=(je y++wo y x).length:=List.length_filter_le _ _;have h2:(je y++wo y x).length=60*y+x:=by rw [List.length_append,XY,Vt]
      rw [ho2,List.length_append];omega
     have hfl:=xb out2;have hstep:zZ f.pts f.pts.length++(je y++wo y (x+1)).filter (fun p=>j3 f.tex p&&vN f.pts p)=out2++(if (j3 f.tex ((x:Int),(y:Int))&&vN f.pts ((x:Int),(y:Int)))=true then [((x:Int),(y:Int))] else []):=by
      rw [Yb,<-List.append_assoc,List.filter_append,<-List.append_assoc,<-ho2];congr 1;rw [List.filter_cons,List.filter_nil]
     refine qb ?_;intros;refine qk rfl rfl (RO hft hk4 hxs) ?_;rintro _ rfl;cases hb:j3 f.tex ((x:Int),(y:Int)) with
     |false=>
      rw [hb,Bool.false_and,if_neg (by decide),List.append_nil] at hstep;refine qb ?_;intros;refine qe rfl (fun ht=>by cases ht) (fun _=>?_);refine qb ?_;intros;refine⟨m2-1,oM,_,_,_,[],?wk4,x+1,out2,oM,hstep.symm,rfl,rfl,rfl⟩
      case wk4=>exact qm
     |true=>
      rw [hb,Bool.true_and] at hstep;refine qb ?_;intros;refine qk rfl rfl (DY (p:=((x:Int),(y:Int))) hsm hxs oM) ?_;rintro _ rfl;refine qb ?_;intros;refine qe rfl (fun hi2=>?_) (fun hi2=>?_)
      ·have hi2:vN f.pts ((x:Int),(y:Int))=true:=by simpa using hi2
       rw [hi2,if_pos rfl] at hstep;refine qb ?_;intros;refine qV (m:=1) (q:=qh ((x:Int),(y:Int))) rfl rfl rfl (qH _ hfl) ⟨rfl,rfl,_,rfl,rfl⟩ oM oM (by decide) rfl ?_;rw [show out2.flatMap qh++qh ((x:Int),(y:Int))=(out2++[((x:Int),(y:Int))]).flatMap qh by simp,show out2.length+1=(out2++[((x:Int),(y:Int))]).length by simp];refine qb ?_;intros;refine⟨m2-1,oM,_,_,_,[(1,4)],?wk6,x+1,out2++[((x:Int),(y:Int))],oM,hstep.symm,rfl,rfl,rfl⟩
       case wk6=>exact qm
      ·have hi2:vN f.pts ((x:Int),(y:Int))=false:=by simpa using hi2
       rw [hi2,if_neg (by decide),List.append_nil] at hstep;refine qb ?_;intros;refine⟨m2-1,oM,_,_,_,[],?wk7,x+1,out2,oM,hstep.symm,rfl,rfl,rfl⟩
       case wk7=>exact qm
    ·have hx2:x=60:=by have:=xK hx2;omega
     subst hx2;refine qb ?_;intros;refine⟨m-1,by omega,_,_,_,[],?wk5,y+1,out2,by omega,by rw [Zk];exact ho2,rfl,rfl,rfl⟩
     case wk5=>exact qm
   ·have hy2:y=60:=by have:=xK hy2;omega
    subst hy2;have hfl:=xb out;have hout:out=KO f.pts++yy f:=ho;have hin2:∀p∈out,zO p=true:=fun p hp=>by
     rw [hout,List.mem_append] at hp;rcases hp with hp|hp
     ·exact K7 hin (Nat.le_refl _) hp
     ·exact Yl.1 (List.mem_filter.1 hp).1
    have hol:out.length<1000000:=by
     have h1:((je 60).filter (fun p=>j3 f.tex p&&vN f.pts p)).length<=(je 60).length:=List.length_filter_le _ _;rw [XY] at h1;rw [ho,List.length_append];omega
    refine qb ?_;intros;refine yJ (E0:=[(54,.one (.own 1 0 out.length 2))]) (S0:=[(1,.data (out.flatMap qh))]) (qd rfl (qu _)) (qd rfl (qu _)) ?_;refine Qb 1 rfl qO qO ?_;refine qk (ds:=[qz out]) rfl rfl (Vc hin2 hol) ?_;rintro _ rfl;refine qb ?_;intros;refine qf ⟨_,rfl,rfl,?_⟩;rw [xe,if_neg h1,if_neg h2,<-hout];rfl
structure Pic where
 w:Int
 h:Int
 gap:Int
 fs:List Ft
def yj(p:Pic):List DC:=[.f (.c (.int .i64 p.w)),.f (.c (.int .i64 p.h)),.f (.c (.int .i64 p.gap)),.f (.sl 3 p.fs.length (p.fs.flatMap zu))]
def yi(p:Pic):DV:=.agg (yj p)
theorem ZO{l:List Ft}{i:Nat}{x:Ft}(h:l[i]?=some x):xN (l.flatMap zu) (i*3) 3=some (zu x):=Qt (e:=3) (fun _=>rfl) h
theorem KA(l:List Ft):(l.flatMap zu).length=l.length*3:=K9 (f:=zu) (e:=3) (fun _=>rfl) l
def yb(p:Pic):Bool:=(decide (4<=p.w)&&decide (p.w<=60)&&decide (p.w.tmod 2=0))&&(decide (3<=p.h)&&decide (p.h<=60)&&decide (p.h.tmod 3=0))
def jV(p:Pic):Bool:=(decide (2<=p.gap)&&decide (p.gap<=6))&&(decide (1<=p.fs.length)&&decide (p.fs.length<=8))
def X5(w h:Int)(q:qc):Bool:=decide (q.1<w)&&decide (q.2<h)
def QZ(p:Pic)(f:Ft):Bool:=x8 f&&f.pts.all (X5 p.w p.h)
def qx(p:Pic):Bool:=(yb p&&jV p)&&p.fs.all (QZ p)
def Qq(p:Pic):Prop:=p.fs.length<1000/\∀f∈p.fs,f.pts.length<1000
theorem uY{a:Int}:(a !=0)=!decide (a=0):=by
 by_cases h:a=0
 ·simp [h]
 ·rw [decide_eq_false h];simpa using h
theorem tN{p:Pic}(h:(p.w<4\/60<p.w\/¬p.w.tmod 2=0\/p.h<3\/60<p.h\/¬p.h.tmod 3=0)):yb p=false:=by
 rw [Bool.eq_false_iff];intro h2;simp only [yb,xr,xQ] at h2;omega
theorem kD{α:Type}{f:α->Bool}{l:List α}{i:Nat}{x:α}(hx:l[i]?=some x)(h:f x=false):l.all f=false:=by
 rw [List.all_eq_false];exact⟨x,zmg hx,by rw [h];decide⟩
theorem ZY{α:Type}{f:α->Bool}{l:List α}(h:∀(j:Nat) x,j<l.length->l[j]?=some x->f x=true):l.all f=true:=by
 rw [List.all_eq_true];intro x hx;obtain⟨j,hj⟩:=List.getElem?_of_mem hx;exact h j x (zgs hj).1 hj
theorem W1{p:Pic}(hF:Qq p):DK 57 [yi p] fun d=>d=.bool (qx p):=by
 refine qD qbk rfl qX fun Z0 lo=>?_;refine qb ?_;intros;refine qe rfl (fun ht=>?_) (fun ht=>?_)
 ·rw [xJ,xJ,xJ,xJ,xJ] at ht;simp only [uY,Bool.or_eq_true,xQ,Bool.not_eq_true',decide_eq_false_iff_not] at ht;refine qb ?_;intros;refine qf ⟨_,rfl,rfl,?_⟩;rw [qx,tN (by omega)];rfl
 ·rw [xJ,xJ,xJ,xJ,xJ] at ht;simp only [uY,Bool.or_eq_false_iff,decide_eq_false_iff_not,Bool.not_eq_false',xQ] at ht;have hh:yb p=true:=by simp only [yb,xr,xQ];omega
  refine qb ?_;intros;refine qe rfl (fun ht2=>?_) (fun ht2=>?_)
  ·rw [xJ,xJ,xJ] at ht2;simp only [Bool.or_eq_true,xQ] at ht2;have hg:jV p=false:=by
    rw [Bool.eq_false_iff];intro h2;simp only [jV,xr,xQ] at h2;omega
   refine qb ?_;intros;refine qf ⟨_,rfl,rfl,?_⟩;rw [qx,hg,Bool.and_false];rfl
  ·rw [xJ,xJ,xJ] at ht2;simp only [Bool.or_eq_false_iff,decide_eq_false_iff_not] at ht2;have hg:jV p=true:=by simp only [jV,xr,xQ];omega
   have hv:qx p=p.fs.all (QZ p):=by rw [qx,hh,hg];rfl
   rw [hv];refine qb ?_;intros;refine ql (fun m E S nk=>∃i:Nat,i+m=p.fs.length/\(∀(j:Nat) f,j<i->p.fs[j]?=some f->QZ p f=true)/\E=[(1,.one (.ptr 0 0)),(58,.one (.f (.sl 3 p.fs.length (p.fs.flatMap zu)))),(59,.int p.fs.length),(60,.int i)]/\S=[(0,.cells (yj p))]/\nk=1)
    ⟨p.fs.length,_,_,_,[],?wk,0,oM,fun j q hj=>oM,rfl,rfl,rfl⟩ ?_
   case wk=>exact qm
   rintro m E S nk ⟨i,hi,hok,rfl,rfl,rfl⟩;refine qb ?_;intros;refine qe rfl (fun hi2=>?_) (fun hi2=>?_)
   ·have hi2:i<p.fs.length:=by have:=xC hi2;omega
    obtain⟨f,hf⟩:∃f,p.fs[i]?=some f:=⟨_,zge hi2⟩;have e1:=ZO hf;have hfl:=hF.2 f (zmg hf);refine qb ?_;intros;refine qk rfl rfl (KL hfl) ?_;rintro _ rfl;refine qb ?_;intros;refine qe rfl (fun hv1=>?_) (fun hv1=>?_)
    ·have hv1:x8 f=false:=by simpa using hv1
     refine qb ?_;intros;refine qf ⟨_,rfl,rfl,?_⟩;rw [kD hf (by rw [QZ,hv1];rfl)]
    ·have hv1:x8 f=true:=by simpa using hv1
     refine qb ?_;intros;refine ql (fun m E S nk=>∃j:Nat,j+m=f.pts.length/\(∀(k:Nat) q,k<j->f.pts[k]?=some q->X5 p.w p.h q=true)/\E=[(1,.one (.ptr 0 0)),(58,.one (.f (.sl 3 p.fs.length (p.fs.flatMap zu)))),(59,.int p.fs.length),(60,.int i),(68,qz f.pts),(69,.int f.pts.length),(70,.int j)]/\S=[(0,.cells (yj p))]/\nk=1)
      ⟨f.pts.length,_,_,_,[],?wk2,0,oM,fun j q hj=>oM,rfl,rfl,rfl⟩ ?_
     case wk2=>exact qm
     rintro m2 E S nk ⟨j,hj,hok2,rfl,rfl,rfl⟩;refine qb ?_;intros;refine qe rfl (fun hj2=>?_) (fun hj2=>?_)
     ·have hj2:j<f.pts.length:=by have:=xC hj2;omega
      obtain⟨q,hq⟩:∃q,f.pts[j]?=some q:=⟨_,zge hj2⟩;have e2:=xd hq;refine qb ?_;intros;refine qe rfl (fun hb=>?_) (fun hb=>?_)
      ·rw [xJ] at hb;simp only [Bool.or_eq_true,xQ] at hb;have hb:X5 p.w p.h q=false:=by
        rw [Bool.eq_false_iff];intro h2;simp only [X5,xr,xQ] at h2;omega
       refine qb ?_;intros;refine qf ⟨_,rfl,rfl,?_⟩;rw [kD hf (by rw [QZ,kD hq hb,Bool.and_false])]
      ·rw [xJ] at hb;simp only [Bool.or_eq_false_iff,decide_eq_false_iff_not] at hb;have hb:X5 p.w p.h q=true:=by simp only [X5,xr,xQ];omega
       refine qb ?_;intros;refine⟨m2-1,oM,_,_,_,[],?wk3,j+1,oM,?hno,rfl,rfl,rfl⟩
       case hno=>
        intro k q' hk hq';by_cases hkj:k=j
        ·subst hkj;rw [hq] at hq';rw [<-zsi hq'];exact hb
        ·exact hok2 k q' oM hq'
       case wk3=>exact qm
     ·have hj2:j=f.pts.length:=by have:=xK hj2;omega
      subst hj2;refine qb ?_;intros;refine⟨m-1,oM,_,_,_,[],?wk4,i+1,oM,?hno2,rfl,rfl,rfl⟩
      case hno2=>
       intro k f' hk hf';by_cases hki:k=i
       ·subst hki;rw [hf] at hf';rw [<-zsi hf',QZ,hv1,ZY hok2];rfl
       ·exact hok k f' oM hf'
      case wk4=>exact qm
   ·have hi2:i=p.fs.length:=by have:=xK hi2;omega
    subst hi2;refine qb ?_;intros;refine qf ⟨_,rfl,rfl,?_⟩;rw [ZY hok]
def Ye(w h:Int)(q:qc):Bool:=(decide (0<=q.1)&&decide (q.1<w))&&(decide (0<=q.2)&&decide (q.2<h))
theorem Yd{w h:Int}{q:qc}(hb:q.1<0\/q.1>=w\/q.2<0\/q.2>=h):Ye w h q=false:=by
 rw [Bool.eq_false_iff];intro h2;simp only [Ye,xr,xQ] at h2;omega
theorem oL{l:List qc}{w h:Int}(hn:l.length<1000000):DK 77 [qz l,.int w,.int h] fun d=>d=.bool (l.all (Ye w h)):=by
 refine qD qa1 rfl qX fun Z0 lo=>?_;refine qb ?_;intros;refine ql (fun m E S nk=>∃i:Nat,i+m=l.length/\(∀(j:Nat) q,j<i->l[j]?=some q->Ye w h q=true)/\E=[(0,qz l),(1,.int w),(2,.int h),(7,.int i)]/\S=[]/\nk=0)
  ⟨l.length,_,_,_,[],?wk,0,oM,fun j q hj=>oM,rfl,rfl,rfl⟩ ?_
 case wk=>exact qm
 rintro m E S nk ⟨i,hi,hok,rfl,rfl,rfl⟩;refine qb ?_;intros;refine qe rfl (fun ht=>?_) (fun ht=>?_)
 ·have ht:i<l.length:=by have:=xC ht;omega
  obtain⟨q,hq⟩:∃q,l[i]?=some q:=⟨_,zge ht⟩;have e1:=xd hq;by_cases h1:q.1<0
  ·have b1:decide (q.1<0)=true:=decide_eq_true h1;refine qU ?_;intros;refine qe rfl (fun _=>?_) (fun ht=>by cases ht);refine qU ?_;intros;refine qf ⟨_,rfl,rfl,?_⟩;rw [kD hq (Yd (by omega))]
  ·have b1:decide (q.1<0)=false:=decide_eq_false h1;by_cases h2:q.1>=w
   ·have b2:decide (q.1>=w)=true:=decide_eq_true h2;refine qU ?_;intros;refine qe rfl (fun _=>?_) (fun ht=>by cases ht);refine qU ?_;intros;refine qf ⟨_,rfl,rfl,?_⟩;rw [kD hq (Yd (by omega))]
   ·have b2:decide (q.1>=w)=false:=decide_eq_false h2;by_cases h3:q.2<0
    ·have b3:decide (q.2<0)=true:=decide_eq_true h3;refine qU ?_;intros;refine qe rfl (fun _=>?_) (fun ht=>by cases ht);refine qU ?_;intros;refine qf ⟨_,rfl,rfl,?_⟩;rw [kD hq (Yd (by omega))]
    ·have b3:decide (q.2<0)=false:=decide_eq_false h3;by_cases h4:q.2>=h
     ·have b4:decide (q.2>=h)=true:=decide_eq_true h4;refine qU ?_;intros;refine qe rfl (fun _=>?_) (fun ht=>by cases ht);refine qU ?_;intros;refine qf ⟨_,rfl,rfl,?_⟩;rw [kD hq (Yd (by omega))]
     ·have b4:decide (q.2>=h)=false:=decide_eq_false h4;refine qU ?_;intros;refine qe rfl (fun ht=>by cases ht) (fun _=>?_);refine qU ?_;intros;refine⟨m-1,oM,_,_,_,[],?wk1,i+1,oM,?hno,rfl,rfl,rfl⟩
      case hno=>
       intro k q' hk hq';by_cases hki:k=i
       ·subst hki;rw [hq] at hq';rw [<-zsi hq'];simp only [Ye,xr,xQ];omega
       ·exact hok k q' oM hq'
      case wk1=>exact qm
 ·have ht:i=l.length:=by have:=xK ht;omega
  subst ht;refine qb ?_;intros;refine qf ⟨_,rfl,rfl,?_⟩;rw [ZY hok]
theorem XD{f:Ft}{lo hi:qc}(h:∀q∈f.pts,xL lo hi q):∀p∈xe f,xL lo hi p:=by
 have hline:∀{a b p:qc},xL lo hi a->xL lo hi b->p∈xR a b->xL lo hi p:=by
  intro a b p ha hb hp;obtain⟨k,hk⟩:=List.getElem?_of_mem hp;have h1:=(zgs hk).1;rw [WC] at h1;have hf:=QD a b;have h2:(k:Int)<=xz a b:=by omega
  rw [Jp a b h2] at hk;obtain rfl:=zsi hk;have h3:=eJ a b h2;unfold xL at *;omega
 have hlines:∀{n:Nat} {p:qc},n<=f.pts.length->p∈zZ f.pts n->xL lo hi p:=by
  intro n p hn hp;simp only [zZ,List.mem_flatMap,List.mem_range] at hp;obtain⟨i,hi,hp⟩:=hp;exact hline (h _ (QI oM)) (h _ (QI (wG oM))) hp
 intro p hp;unfold xe at hp;split at hp
 ·exact h p hp
 ·split at hp
  ·rw [qP] at hp;exact hlines (n:=f.pts.length-1) oM hp
  ·rw [qP,List.mem_append] at hp;rcases hp with hp|hp
   ·exact hlines (Nat.le_refl _) hp
   ·have:=(List.mem_filter.1 hp).2;rw [xr] at this;exact pW h this.2
theorem tG(a b:qc):b∈xR a b:=by
 have hf:=QD a b;have h:=Jp a b (k:=(xz a b).toNat) oM;rw [oE] at h;exact zmg h
theorem bX{f:Ft}(hv:x8 f=true){q:qc}(hq:q∈f.pts):q∈xe f:=by
 obtain⟨⟨hn1,hn2⟩,hin,hk⟩:=jm hv;obtain⟨i,hi⟩:=List.getElem?_of_mem hq;have hlt:=(zgs hi).1;have hsome:∀j,j<f.pts.length->f.pts[j]?=some (xH f.pts j):=fun j hj=>by rw [xH,zge hj];rfl
 unfold xe;split
 ·exact hq
 ·split
  ·rename_i h1 h2;have hl2:2<=f.pts.length:=by
    rw [yr,if_neg h1,if_pos h2] at hk;simp at hk;exact hk.1
   rw [qP,b6];by_cases hl:i<f.pts.length-1
   ·exact⟨i,_,_,hl,hi,hsome _ oM,Yh _ _⟩
   ·obtain rfl:i=(f.pts.length-2)+1:=by omega
    exact⟨f.pts.length-2,_,_,oM,hsome _ oM,hi,tG _ _⟩
  ·rw [qP,List.mem_append];exact .inl (Ve.2 ⟨i,_,_,hi,hsome _ (wG hlt),Yh _ _⟩)
theorem CM{f:Ft}(hv:x8 f=true)(w h:Int):(xe f).all (Ye w h)=f.pts.all (X5 w h):=by
 obtain⟨_,hin,_⟩:=jm hv;rw [Bool.eq_iff_iff,List.all_eq_true,List.all_eq_true];constructor
 ·intro h1 q hq;have:=h1 q (bX hv hq);simp only [Ye,X5,xr,xQ] at *;omega
 ·intro h1 q hq;have:=XD (lo:=(0,0)) (hi:=(w-1,h-1)) (fun q hq=>by
   have g1:=h1 q hq;have g2:=hin q hq;rw [zx] at g2;simp only [X5,xr,xQ] at g1;unfold xL;simp only;omega) q hq
  unfold xL at this;simp only [Ye,xr,xQ] at *;omega
theorem ZE{f:Ft}(hv:x8 f=true):∀p∈xe f,zO p=true:=by
 intro p hp;obtain⟨_,hin,_⟩:=jm hv;have:=XD (lo:=(0,0)) (hi:=(59,59)) (fun q hq=>by
  have g2:=hin q hq;rw [zx] at g2;unfold xL;simp only;omega) p hp
 unfold xL at this;rw [zx];simp only at this;omega
theorem JQ{f:Ft}(hv:x8 f=true):(xe f).Nodup:=by
 obtain⟨⟨hn1,hn2⟩,hin,hk⟩:=jm hv;unfold xe;split
 ·rename_i h1;have hl:f.pts.length=1:=by
   rw [yr,if_pos h1] at hk;simp at hk;exact hk.1
  obtain⟨x,hx⟩:=List.length_eq_one_iff.1 hl;rw [hx];simp
 ·split
  ·exact (xi _).nodup
  ·exact (xi _).nodup
theorem XC{f:Ft}(hv:x8 f=true):(xe f).length<=3600:=by
 have:=wC (JQ hv) fun x hx=>Yl.2 (ZE hv x hx);rw [<-WH,XY] at this;omega
theorem bQ{p:Pic}(hF:Qq p):DK 45 [yi p] fun d=>d=.bool (qx p):=by
 refine qD qbu rfl qX fun Z0 lo=>?_;refine qb ?_;intros;refine qe rfl (fun ht=>?_) (fun ht=>?_)
 ·rw [xJ,xJ,xJ,xJ,xJ,xJ,xJ,xJ,xJ] at ht;simp only [uY,Bool.or_eq_true,xQ,Bool.not_eq_true',decide_eq_false_iff_not] at ht;refine qb ?_;intros;refine qf ⟨_,rfl,rfl,?_⟩;have hb:(yb p&&jV p)=false:=by
   rw [Bool.eq_false_iff];intro h2;simp only [yb,jV,xr,xQ] at h2;omega
  rw [qx,hb];rfl
 ·rw [xJ,xJ,xJ,xJ,xJ,xJ,xJ,xJ,xJ] at ht;simp only [uY,Bool.or_eq_false_iff,decide_eq_false_iff_not,Bool.not_eq_false',xQ] at ht;have hh:yb p=true:=by simp only [yb,xr,xQ];omega
  have hg:jV p=true:=by simp only [jV,xr,xQ];omega
  have hv:qx p=p.fs.all (QZ p):=by rw [qx,hh,hg];rfl
  rw [hv];refine qb ?_;intros;refine ql (fun m E S nk=>∃i:Nat,i+m=p.fs.length/\(∀(j:Nat) f,j<i->p.fs[j]?=some f->QZ p f=true)/\E=[(1,.one (.ptr 0 0)),(3,.int i)]/\S=[(0,.cells (yj p))]/\nk=1)
   ⟨p.fs.length,_,_,_,[],?wk,0,oM,fun j q hj=>oM,rfl,rfl,rfl⟩ ?_
  case wk=>exact qm
  rintro m E S nk ⟨i,hi,hok,rfl,rfl,rfl⟩;refine qb ?_;intros;refine qe rfl (fun hi2=>?_) (fun hi2=>?_)
  ·have hi2:i<p.fs.length:=by have:=xC hi2;omega
   obtain⟨f,hf⟩:∃f,p.fs[i]?=some f:=⟨_,zge hi2⟩;have e1:=ZO hf;have hfl:=hF.2 f (zmg hf);refine qb ?_;intros;refine qk rfl rfl (HM hfl) ?_;rintro _ rfl;cases hv1:x8 f with
   |false=>
    refine qb ?_;intros;refine qe rfl (fun _=>?_) (fun ht=>by cases ht);refine qb ?_;intros;refine qf ⟨_,rfl,rfl,?_⟩;rw [kD hf (by rw [QZ,hv1];rfl)]
   |true=>
    refine qb ?_;intros;refine qk rfl rfl (eZ hv1) ?_;rintro _ rfl;refine qb ?_;intros;refine qk rfl rfl (oL (by have:=XC hv1;omega)) ?_;rintro _ rfl;rw [CM hv1];refine qb ?_;intros;refine qe rfl (fun hb=>?_) (fun hb=>?_)
    ·have hb:f.pts.all (X5 p.w p.h)=false:=by simpa using hb
     refine qb ?_;intros;refine qf ⟨_,rfl,rfl,?_⟩;rw [kD hf (by rw [QZ,hb,Bool.and_false])]
    ·have hb:f.pts.all (X5 p.w p.h)=true:=by simpa using hb
     refine qb ?_;intros;refine⟨m-1,oM,_,_,_,[],?wk4,i+1,oM,?hno2,rfl,rfl,rfl⟩
     case hno2=>
      intro k f' hk hf';by_cases hki:k=i
      ·subst hki;rw [hf] at hf';rw [<-zsi hf',QZ,hv1,hb];rfl
      ·exact hok k f' oM hf'
     case wk4=>exact qm
  ·have hi2:i=p.fs.length:=by have:=xK hi2;omega
   subst hi2;refine qb ?_;intros;refine qf ⟨_,rfl,rfl,?_⟩;rw [ZY hok]
def qo(p:Pic):List (List qc):=p.fs.map xe
theorem sY{p:Pic}{i:Nat}{f:Ft}(h:p.fs[i]?=some f):(p.fs.take (i+1)).map xe=(p.fs.take i).map xe++[xe f]:=by
 rw [List.take_add_one,h];simp
theorem Zl{p:Pic}(hv:∀f∈p.fs,x8 f=true)(hn:p.fs.length<1000):DK 46 [yi p] fun d=>d=yn (qo p):=by
 refine qD qbt rfl qX fun Z0 lo=>?_;refine qb ?_;intros;refine ql (fun m E S nk=>∃(i:Nat) (out:List (List qc)),i+m=p.fs.length/\out=(p.fs.take i).map xe/\E=[(1,.one (.ptr 0 0)),(3,.one (.own 1 0 out.length 1)),(4,.int i)]/\S=[(0,.cells (yj p)),(1,.data (out.map qM))]/\nk=2)
  ⟨p.fs.length,_,_,_,[],?wk,0,[],oM,rfl,rfl,rfl,rfl⟩ ?_
 case wk=>exact qm
 rintro m E S nk ⟨i,out,hi,ho,rfl,rfl,rfl⟩;refine qb ?_;intros;refine qe rfl (fun hi2=>?_) (fun hi2=>?_)
 ·have hi2:i<p.fs.length:=by have:=xC hi2;omega
  obtain⟨f,hf⟩:∃f,p.fs[i]?=some f:=⟨_,zge hi2⟩;have e1:=ZO hf;have hol:out.length=i:=by rw [ho,List.length_map,List.length_take];omega
  refine qb ?_;intros;refine qk rfl rfl (eZ (hv f (zmg hf))) ?_;rintro _ rfl;refine qb ?_;intros;refine qV (m:=1) (q:=[qM (xe f)]) rfl rfl rfl (qH _ (by rw [List.length_map];omega)) ⟨rfl,rfl,_,rfl,rfl⟩ (by omega) (by omega) (by decide) rfl ?_;rw [show out.map qM++[qM (xe f)]=(out++[xe f]).map qM by simp,show out.length+1=(out++[xe f]).length by simp];refine qb ?_;intros;refine⟨m-1,by omega,_,_,_,[(1,3)],?wk1,i+1,out++[xe f],by omega,by rw [ho,sY hf],rfl,rfl,rfl⟩
  case wk1=>exact qm
 ·have hi2:i=p.fs.length:=by have:=xK hi2;omega
  subst hi2;rw [List.take_length] at ho;have hol:(out.map qM).length=out.length*1:=by simp
  refine qb ?_;intros;refine qr (qd (k:=2) rfl (qu _)) (qd (k:=1) rfl (qu _)) ?_;refine xt 1 rfl qO qO ?_;refine qf ⟨_,rfl,rfl,?_⟩;rw [qo,<-ho];rfl
def dE(p:Pic)(i:Nat)(L:List FD):Prop:=L.length=p.fs.length/\∀(j:Nat) f,j<i->p.fs[j]?=some f->L[j]?=some (qM (xe f))
theorem dE.all{p:Pic}{L:List FD}(h:dE p p.fs.length L):L=(qo p).map qM:=by
 refine List.ext_getElem? fun j=>?_;by_cases hj:j<p.fs.length
 ·rw [h.2 j _ hj (zge hj)];simp [qo,zge hj]
 ·rw [List.getElem?_eq_none (by rw [h.1];omega),List.getElem?_eq_none (by simp [qo];omega)]
theorem dE.step{p:Pic}{L:List FD}{i:Nat}{f:Ft}(h:dE p i L)(hf:p.fs[i]?=some f):dE p (i+1) (L.set i (qM (xe f))):=by
 have hi:=(zgs hf).1;refine⟨by rw [List.length_set];exact h.1,fun j g hj hg=>?_⟩;rw [List.getElem?_set];by_cases hij:i=j
 ·subst hij;rw [hf] at hg;obtain rfl:=zsi hg;rw [if_pos rfl,if_pos (by rw [h.1];exact hi)]
 ·rw [if_neg hij];exact h.2 j g oM hg
def XE(r:List Int):FD:=.sl 1 r.length (r.map iF)
def fO(R:List (List Int)):DV:=.one (.f (.sl 1 R.length (R.map XE)))
theorem F9{cs:List (List Int)}{i:Nat}{c:List Int}(h:cs[i]?=some c):xN (cs.map XE) (i*1) 1=some [XE c]:=by
 have hi:i<cs.length:=(zgs h).1;rw [yE (by simp;omega)];rw [Nat.mul_one,List.drop_eq_getElem_cons (by simpa using hi)];have:cs[i]=c:=(zgs h).2;simp [this]
def JN(l:List (List qc)):List (List Int):=l.map fun a=>l.map fun b=>xZ a b
def KK(p:Pic):List (List Int):=if qx p=true then JN (qo p) else []
theorem qL{p:Pic}(h:qx p=true):(1<=p.fs.length/\p.fs.length<=8)/\(∀f∈p.fs,QZ p f=true)/\yb p=true/\jV p=true:=by
 simp only [qx,xr,List.all_eq_true] at h;obtain⟨⟨h1,h2⟩,h3⟩:=h;refine⟨?_,h3,h1,h2⟩;simp only [jV,xr,xQ] at h2;exact h2.2
theorem zL{p:Pic}(h:qx p=true):∀f∈p.fs,x8 f=true:=fun f hf=>by
 have:=(qL h).2.1 f hf;rw [QZ,xr] at this;exact this.1
theorem vY{p:Pic}(h:qx p=true):∀l∈qo p,(∀q∈l,zO q=true)/\l.length<=3600:=fun l hl=>by
 obtain⟨f,hf,rfl⟩:=List.mem_map.1 hl;exact⟨ZE (zL h f hf),XC (zL h f hf)⟩
theorem kM{l:List qc}(h:∀q∈l,zO q=true):Qc l:=fun q hq=>by
 have:=h q hq;rw [zx] at this;unfold qC;omega
theorem m9{p:Pic}(hF:Qq p):DK 47 [yi p] fun d=>d=fO (KK p):=by
 refine qD qbs rfl qX fun Z0 lo=>?_;refine qb ?_;intros;refine qk rfl rfl (bQ hF) ?_;rintro _ rfl;refine qb ?_;intros;refine qe rfl (fun hv=>?_) (fun hv=>?_)
 ·have hv:¬qx p=true:=by simpa using hv
  refine qb ?_;intros;refine bP 2 1 rfl ?_;refine qf ⟨_,rfl,rfl,?_⟩;rw [KK,if_neg hv];rfl
 ·have hv:qx p=true:=by simpa using hv
  have hT:KK p=JN (qo p):=by rw [KK,if_pos hv]
  have hsm:=vY hv;have hpl:(qo p).length=p.fs.length:=by simp [qo]
  have hl8:=(qL hv).1;generalize hl:qo p=l at *;refine qb ?_;intros;refine qk rfl rfl (Zl (zL hv) oM) ?_;rintro _ rfl;rw [hl];refine qb ?_;intros;refine ql (fun m E S nk=>∃(i:Nat) (R:List (List Int)),i+m=l.length/\R=(l.take i).map (fun a=>l.map fun b=>xZ a b)/\E=[(3,.one (.own 0 0 R.length 1)),(4,yn l),(5,.int i)]/\S=[(0,.data (R.map XE))]/\nk=1)
   ⟨l.length,_,_,_,[(0,1)],?wk,0,[],oM,rfl,rfl,rfl,rfl⟩ ?_
  case wk=>exact qm
  rintro m E S nk ⟨i,R,hi,hR,rfl,rfl,rfl⟩;refine qb ?_;intros;refine qe rfl (fun hi2=>?_) (fun hi2=>?_)
  ·have hi2:i<l.length:=by have:=xC hi2;omega
   obtain⟨a,ha⟩:∃r,l[i]?=some r:=⟨_,zge hi2⟩;have e1:=j7 ha;have hRl:R.length=i:=by rw [hR,List.length_map,List.length_take];omega
   refine qb ?_;intros;refine ql (fun m E S nk=>∃(k:Nat) (r:List Int),k+m=l.length/\r=(l.take k).map (xZ a)/\E=[(3,.one (.own 0 0 R.length 1)),(4,yn l),(5,.int i),(6,.one (.own 1 0 r.length 1)),(7,.int k)]/\S=[(0,.data (R.map XE)),(1,.data (r.map iF))]/\nk=2)
    ⟨l.length,_,_,_,[],?wk2,0,[],oM,rfl,rfl,rfl,rfl⟩ ?_
   case wk2=>exact qm
   rintro m2 E S nk ⟨k,r,hk,hr,rfl,rfl,rfl⟩;refine qb ?_;intros;refine qe rfl (fun hk2=>?_) (fun hk2=>?_)
   ·have hk2:k<l.length:=by have:=xC hk2;omega
    obtain⟨b,hb⟩:∃r,l[k]?=some r:=⟨_,zge hk2⟩;have e2:=j7 hb;have hrl:r.length=k:=by rw [hr,List.length_map,List.length_take];omega
    have hsa:=hsm a (zmg ha);have hsb:=hsm b (zmg hb);refine qb ?_;intros;refine qk rfl rfl (kA (kM hsa.1) (kM hsb.1) oM oM) ?_;rintro _ rfl;refine qb ?_;intros;refine qV (m:=1) (q:=[iF (xZ a b)]) rfl rfl rfl (qH _ (by rw [List.length_map];omega)) ⟨rfl,rfl,_,rfl,rfl⟩ (by omega) (by omega) (by decide) rfl ?_;rw [show r.map iF++[iF (xZ a b)]=(r++[xZ a b]).map iF by simp,show r.length+1=(r++[xZ a b]).length by simp];refine qb ?_;intros;refine⟨m2-1,by omega,_,_,_,[(1,3)],?wk3,k+1,r++[xZ a b],by omega,by rw [List.take_add_one,hb,hr];simp,rfl,rfl,rfl⟩
    case wk3=>exact qm
   ·have hk2:k=l.length:=by have:=xK hk2;omega
    subst hk2;have hrl:(r.map iF).length=r.length*1:=by simp
    rw [List.take_length] at hr;refine qr (qd (k:=3) rfl (qd (k:=4) rfl (qd (k:=5) rfl (qd (k:=6) rfl (qu _))))) (qd (k:=0) rfl (qd (k:=1) rfl (qu _))) ?_;refine xt 1 rfl qO qO ?_;refine qb ?_;intros;refine qV (m:=1) (q:=[XE r]) rfl rfl rfl (qH _ (by rw [List.length_map];omega)) ⟨rfl,rfl,_,rfl,rfl⟩ (by omega) (by omega) (by decide) rfl ?_;rw [show R.map XE++[XE r]=(R++[r]).map XE by simp,show R.length+1=(R++[r]).length by simp];refine qb ?_;intros;refine⟨m-1,by omega,_,_,_,[(0,3)],?wk4,i+1,R++[r],by omega,by rw [List.take_add_one,ha,hR,hr];simp,rfl,rfl,rfl⟩
    case wk4=>exact qm
  ·have hi2:i=l.length:=by have:=xK hi2;omega
   subst hi2;rw [List.take_length] at hR;have hRl:(R.map XE).length=R.length*1:=by simp
   refine qb ?_;intros;refine qr (qd (k:=2) rfl (qu _)) (qd (k:=0) rfl (qu _)) ?_;refine xt 0 rfl qO qO ?_;refine qf ⟨_,rfl,rfl,?_⟩;rw [hT,JN,<-hR];rfl
open Classical in
noncomputable def Xa (g:Int) (l:List qc):Bool:=decide (∃cs,ClS g (qt l) cs/\cs.length=1)
open Classical in
theorem EC{g:Int}{l:List qc}{cs:List (List qc)}(h:ClS g (qt l) cs):Xa g l=decide (cs.length=1):=by
 unfold Xa;by_cases h1:cs.length=1
 ·rw [decide_eq_true h1];exact decide_eq_true ⟨cs,h,h1⟩
 ·rw [decide_eq_false h1];exact decide_eq_false fun⟨cs',h',h2⟩=>h1 (by rw [h.uniq h'];exact h2)
def dG(g:Int)(l:List (List qc))(i:Nat):Prop:=(∃a,l[i]?=some a/\Xa g a=false)/\∀(j:Nat) b,j<i->l[j]?=some b->Xa g b=true
def VU(g:Int)(l:List (List qc))(i k:Nat):Prop:=(∃a b,i<k/\l[i]?=some a/\l[k]?=some b/\xZ a b<=g)/\∀(i' k':Nat) a b,i'<k'->(i'<i\/(i'=i/\k'<k))->l[i']?=some a->l[k']?=some b->¬xZ a b<=g
def jY(g:Int)(l:List (List qc)):Prop:=∀a∈l,Xa g a=true
def jX(g:Int)(l:List (List qc)):Prop:=∀(i k:Nat) a b,i<k->l[i]?=some a->l[k]?=some b->¬xZ a b<=g
abbrev fF:=Int × Int × Int
inductive Chk (p:Pic):fF->Prop
 |arg (h:¬qx p=true):Chk p (0,0,1)
 |bad1 (i:Nat) (h:qx p=true) (hb:dG p.gap (qo p) i):Chk p ((i:Int),(i:Int),130)
 |bad2 (i k:Nat) (h:qx p=true) (hg:jY p.gap (qo p)) (hb:VU p.gap (qo p) i k):Chk p ((i:Int),(k:Int),140)
 |ok (h:qx p=true) (hg:jY p.gap (qo p)) (hb:jX p.gap (qo p)):Chk p (0,0,0)
theorem dG.not{g:Int}{l:List (List qc)}{i:Nat}(h:dG g l i)(hg:jY g l):False:=by
 obtain⟨⟨a,ha,hb⟩,_⟩:=h;rw [hg a (zmg ha)] at hb;cases hb
theorem VU.not{g:Int}{l:List (List qc)}{i k:Nat}(h:VU g l i k)(hg:jX g l):False:=by
 obtain⟨⟨a,b,h1,h2,h3,h4⟩,_⟩:=h;exact hg i k a b h1 h2 h3 h4
theorem dG.uniq{g:Int}{l:List (List qc)}{i j:Nat}(h:dG g l i)(h':dG g l j):i=j:=by
 obtain⟨⟨a,ha,hb⟩,h2⟩:=h;obtain⟨⟨a',ha',hb'⟩,h2'⟩:=h';rcases Nat.lt_trichotomy i j with hl|hl|hl
 ·have:=h2' i a hl ha;rw [hb] at this;cases this
 ·exact hl
 ·have:=h2 j a' hl ha';rw [hb'] at this;cases this
theorem VU.uniq{g:Int}{l:List (List qc)}{i k i' k':Nat}(h:VU g l i k)(h':VU g l i' k'):i=i'/\k=k':=by
 obtain⟨⟨a,b,g1,g2,g3,g4⟩,h2⟩:=h;obtain⟨⟨a',b',g1',g2',g3',g4'⟩,h2'⟩:=h';have n1:¬(i<i'\/(i=i'/\k<k')):=fun hl=>h2' i k a b g1 hl g2 g3 g4;have n2:¬(i'<i\/(i'=i/\k'<k)):=fun hl=>h2 i' k' a' b' g1' hl g2' g3' g4';omega
theorem Chk.uniq{p:Pic}{r r':fF}(h:Chk p r)(h':Chk p r'):r=r':=by
 cases h with
 |arg h=>cases h' with
  |arg=>rfl
  |bad1 i h'=>exact absurd h' h
  |bad2 i k h'=>exact absurd h' h
  |ok h'=>exact absurd h' h
 |bad1 i h hb=>cases h' with
  |arg h'=>exact absurd h h'
  |bad1 j _ hb'=>rw [hb.uniq hb']
  |bad2 j k _ hg=>exact (hb.not hg).elim
  |ok _ hg=>exact (hb.not hg).elim
 |bad2 i k h hg hb=>cases h' with
  |arg h'=>exact absurd h h'
  |bad1 j _ hb'=>exact (hb'.not hg).elim
  |bad2 j m _ _ hb'=>obtain⟨rfl,rfl⟩:=hb.uniq hb';rfl
  |ok _ _ hb'=>exact (hb.not hb').elim
 |ok h hg hb=>cases h' with
  |arg h'=>exact absurd h h'
  |bad1 j _ hb'=>exact (hb'.not hg).elim
  |bad2 j m _ _ hb'=>exact (hb'.not hb).elim
  |ok=>rfl
def sV(r:fF):DV:=.agg [.f (.c (.int .i64 r.1)),.f (.c (.int .i64 r.2.1)),.f (.c (.int .i64 r.2.2))]
theorem TK{l:List (List qc)}{i:Nat}{a:List qc}(h:l[i]?=some a):(JN l)[i]?=some (l.map (xZ a)):=by
 simp [JN,h]
theorem nA{p:Pic}(hF:Qq p):DK 16 [yi p] fun d=>∃r,Chk p r/\d=sV r:=by
 refine qD qbO rfl qX fun Z0 lo=>?_;refine qb ?_;intros;refine qk rfl rfl (bQ hF) ?_;rintro _ rfl;refine qb ?_;intros;refine qe rfl (fun hv=>?_) (fun hv=>?_)
 ·have hv:¬qx p=true:=by simpa using hv
  refine qb ?_;intros;exact qf ⟨_,rfl,rfl,_,.arg hv,rfl⟩
 ·have hv:qx p=true:=by simpa using hv
  have hT:KK p=JN (qo p):=by rw [KK,if_pos hv]
  have hsm:=vY hv;have hpl:(qo p).length=p.fs.length:=by simp [qo]
  have hl8:=(qL hv).1;generalize hl:qo p=l at *;refine qb ?_;intros;refine qk rfl rfl (Zl (zL hv) oM) ?_;rintro _ rfl;rw [hl];refine qb ?_;intros;refine qk rfl rfl (m9 hF) ?_;rintro _ rfl;rw [hT];refine qb ?_;intros;refine ql (fun m E S nk=>∃i:Nat,i+m=l.length/\(∀(j:Nat) b,j<i->l[j]?=some b->Xa p.gap b=true)/\E=[(1,.one (.ptr 0 0)),(2,.one (.ptr 1 0)),(3,yn l),(4,fO (JN l)),(5,.int i)]/\S=[(0,.cells (yj p)),(1,.cells [.f (.c (.int .i64 0)),.f (.c (.int .i64 0)),.f (.c (.int .i64 0))])]/\nk=2)
   ⟨l.length,_,_,_,[],?wk,0,oM,fun j b hj=>oM,rfl,rfl,rfl⟩ ?_
  case wk=>exact qm
  rintro m E S nk ⟨i,hi,hok,rfl,rfl,rfl⟩;refine qb ?_;intros;refine qe rfl (fun hi2=>?_) (fun hi2=>?_)
  ·have hi2:i<l.length:=by have:=xC hi2;omega
   obtain⟨a,ha⟩:∃r,l[i]?=some r:=⟨_,zge hi2⟩;have e1:=j7 ha;have hsa:=hsm a (zmg ha);refine qb ?_;intros;refine qk rfl rfl (oN (kM hsa.1) oM) ?_;rintro _ ⟨cs,rfl,hcs⟩;have hc1:=EC hcs;refine qb ?_;intros;refine qe rfl (fun hb=>?_) (fun hb=>?_)
   ·have hb:¬(cs.length:Int)=1:=Ka hb;refine qb ?_;intros;exact qf ⟨_,rfl,rfl,_,.bad1 i hv (by rw [hl];exact⟨⟨a,ha,by rw [hc1];exact decide_eq_false (by omega)⟩,hok⟩),rfl⟩
   ·have hb:(cs.length:Int)=1:=JE hb;refine qb ?_;intros;refine⟨m-1,oM,_,_,_,[],?wk1,i+1,oM,?hno,rfl,rfl,rfl⟩
    case hno=>
     intro j b hj hbj;by_cases hji:j=i
     ·subst hji;rw [ha] at hbj;rw [<-zsi hbj,hc1];exact decide_eq_true oM
     ·exact hok j b oM hbj
    case wk1=>exact qm
  ·have hi2:i=l.length:=by have:=xK hi2;omega
   subst hi2;have hg1:jY p.gap (qo p):=fun a ha=>by
    rw [hl] at ha;obtain⟨j,hj⟩:=List.getElem?_of_mem ha;exact hok j a (zgs hj).1 hj
   refine qb ?_;intros;refine ql (fun m E S nk=>∃i:Nat,i+m=l.length/\(∀(i' k':Nat) a b,i'<k'->i'<i->l[i']?=some a->l[k']?=some b->¬xZ a b<=p.gap)/\E=[(1,.one (.ptr 0 0)),(2,.one (.ptr 1 0)),(3,yn l),(4,fO (JN l)),(6,.int i)]/\S=[(0,.cells (yj p)),(1,.cells [.f (.c (.int .i64 0)),.f (.c (.int .i64 0)),.f (.c (.int .i64 0))])]/\nk=2)
    ⟨l.length,_,_,_,[],?wk2,0,oM,fun i' k' a b _ h=>oM,rfl,rfl,rfl⟩ ?_
   case wk2=>exact qm
   rintro m2 E S nk ⟨i,hi3,hok2,rfl,rfl,rfl⟩;refine qb ?_;intros;refine qe rfl (fun hi4=>?_) (fun hi4=>?_)
   ·have hi4:i<l.length:=by have:=xC hi4;omega
    obtain⟨a,ha⟩:∃r,l[i]?=some r:=⟨_,zge hi4⟩;have e1:=F9 (TK ha);refine qb ?_;intros;refine ql (fun m E S nk=>∃k:Nat,k+m=l.length/\i<k/\(∀(k':Nat) b,i<k'->k'<k->l[k']?=some b->¬xZ a b<=p.gap)/\E=[(1,.one (.ptr 0 0)),(2,.one (.ptr 1 0)),(3,yn l),(4,fO (JN l)),(6,.int i),(7,.int k)]/\S=[(0,.cells (yj p)),(1,.cells [.f (.c (.int .i64 0)),.f (.c (.int .i64 0)),.f (.c (.int .i64 0))])]/\nk=2)
     ⟨l.length-(i+1),_,_,_,[],?wk3,i+1,oM,oM,fun k' b _ h=>oM,rfl,rfl,rfl⟩ ?_
    case wk3=>exact qm
    rintro m3 E S nk ⟨k,hk,hik,hok3,rfl,rfl,rfl⟩;refine qb ?_;intros;refine qe rfl (fun hk2=>?_) (fun hk2=>?_)
    ·have hk2:k<l.length:=by have:=xC hk2;omega
     obtain⟨b,hb⟩:∃r,l[k]?=some r:=⟨_,zge hk2⟩;have e2:=fS (show (l.map (xZ a))[k]?=some (xZ a b) by simp [hb]);have hml:(l.map (xZ a)).length=l.length:=List.length_map _;have htl:(JN l).length=l.length:=by simp [JN]
     have hi5:i<(JN l).length:=by omega
     refine qb ?_;intros;refine qe rfl (fun hd=>?_) (fun hd=>?_)
     ·have hd:=xC hd;refine qb ?_;intros;refine qf ⟨_,rfl,rfl,_,.bad2 i k hv hg1 ?_,rfl⟩;rw [hl];refine⟨⟨a,b,hik,ha,hb,hd⟩,fun i' k' a' b' h1 h2 h3 h4=>?_⟩;rcases h2 with h2|⟨rfl,h2⟩
      ·exact hok2 i' k' a' b' h1 h2 h3 h4
      ·rw [ha] at h3;rw [<-zsi h3];exact hok3 k' b' h1 h2 h4
     ·have hd:=xK hd;refine qb ?_;intros;refine⟨m3-1,oM,_,_,_,[],?wk4,k+1,oM,oM,?hno2,rfl,rfl,rfl⟩
      case hno2=>
       intro k' b' h1 h2 h3;by_cases hkk:k'=k
       ·subst hkk;rw [hb] at h3;rw [<-zsi h3];exact hd
       ·exact hok3 k' b' h1 oM h3
      case wk4=>exact qm
    ·have hk2:k=l.length:=by have:=xK hk2;omega
     refine qb ?_;intros;refine⟨m2-1,oM,_,_,_,[],?wk5,i+1,oM,?hno3,rfl,rfl,rfl⟩
     case hno3=>
      intro i' k' a' b' h1 h2 h3 h4;by_cases hii:i'=i
      ·subst hii;rw [ha] at h3;rw [<-zsi h3];exact hok3 k' b' h1 (by have:=(zgs h4).1;omega) h4
      ·exact hok2 i' k' a' b' h1 oM h3 h4
     case wk5=>exact qm
   ·have hi4:i=l.length:=by have:=xK hi4;omega
    subst hi4;refine qb ?_;intros;refine qf ⟨_,rfl,rfl,_,.ok hv hg1 ?_,rfl⟩;rw [hl];exact fun i k a b h1 h2 h3=>hok2 i k a b h1 (zgs h2).1 h2 h3
def cS(p:Pic)(l:List (List qc))(a b c:Int)(rec:Bk):Bx:=[(0,.cells (yj p)),(1,.cells [.f (.c (.int .i64 a))]),(2,.cells [.f (.c (.int .i64 b))]),(3,.cells [.f (.c (.int .i64 c))]),(4,.cells [.f (.sl 1 l.length (l.map qM))]),(5,.cells [.f (.c (.int .i64 l.length))]),(6,rec)]
def YQ(st:LoopState)(j:Option Code)(fid:FuncId)(sg bd:Code):Bk:=.mp (.lp st j fid eU.n [1,2,3,4,5] [34,35] sg bd) [.ptr 0 0,.ptr 1 0,.ptr 2 0,.ptr 3 0,.ptr 4 0]
theorem TB {Z0:Nat->Prop} {lo anc:Nat} {β0:qw} {H1:Hp} {pc:Pic} {l:List (List qc)} {i k:Nat} {a b:List qc} (ha:l[i]?=some a) (hb:l[k]?=some b) (hsm:∀c∈l,(∀q∈c,zO q=true)/\c.length<=256)
 {fid:FuncId} {sg bd:Code} (hsg:xS Tryz.prog 1 eU.n sg=some (.seq (.ops mD 0) (.ops mC 0))) (hbd:xS Tryz.prog 1 eU.n bd=some tV)
 {base rs:Nat} {Q:qp->Bx->Nat->Prop} {r:List SOper} {A:List Nat} {E:qp} {S:Bx} {nk:Nat} {id:Nat} {dst:Option Nat} {aid:Option Nat} {ws:List Nat} {keep:Bool} {x y z:Opd}
 (hnk:nk=7) (hS:yC (cS pc l 0 0 0 (YQ .ready none fid sg bd)) S)
 (hx:ro E x=some (.one (.yl 6))) (hvs:Zc E [y,z]=some [.int i,.int k]) (hT:YO E=true)
 (h1:xZ a b<=pc.gap->DPW (parK Z0 lo anc β0 H1) base 0 Q r [] A (xn E dst (.bool false)) (cS pc l i k 140 (YQ .done (some .ret) fid sg bd)) 7)
 (h2:¬xZ a b<=pc.gap->DPW (parK Z0 lo anc β0 H1) base 0 Q r [] A (xn E dst (.bool true)) (cS pc l 0 0 0 (YQ .ready none fid sg bd)) 7):
 DPW (parK Z0 lo anc β0 H1) base rs Q (⟨id,dst,.cv x [y,z],none,aid,ws,keep⟩::r) [] A E S nk:=by
 subst hnk;have h6:lk S 6=some (YQ .ready none fid sg bd):=hS 6 _ rfl;refine MI (R:=fun d S' nk'=>(xZ a b<=pc.gap/\d=.bool false/\yC (cS pc l i k 140 (YQ .done (some .ret) fid sg bd)) S'/\nk'=7)\/(¬xZ a b<=pc.gap/\d=.bool true/\yC (cS pc l 0 0 0 (YQ .ready none fid sg bd)) S'/\nk'=7)) hx hvs h6 rfl rfl hT hsg hbd (fun ρ Z β H=>?_) ?_
 ·have mixp:((parK Z0 lo anc β0 H1).round ρ Z 7 β H).P.follows .mixedOrders=true:=wi;refine qr (E0:=[(34,.int i),(35,.int k),(1,.one (.ptr 0 0)),(2,.one (.ptr 1 0)),(3,.one (.ptr 2 0)),(4,.one (.ptr 3 0)),(5,.one (.ptr 4 0))]) (S0:=cS pc l 0 0 0 (YQ .ready none fid sg bd)) (qd rfl (qd rfl (qd rfl (qd rfl (qd rfl (qd rfl (qd rfl (qu _)))))))) hS ?_;have e1:=j7 ha;have e2:=j7 hb;have hi:=(zgs ha).1;have hk:=(zgs hb).1;have hsa:=hsm a (zmg ha);have hsb:=hsm b (zmg hb);refine qb ?_;intros;refine⟨rfl,_,_,_,_,_,_,_,_,_,rfl,rfl,?_⟩;refine qb ?_;intros;refine qk rfl rfl (Jz (kM hsa.1) (kM hsb.1) oM oM) ?_;rintro _ rfl;refine qb ?_;intros;refine qe rfl (fun hd=>?_) (fun hd=>?_)
  ·have hd:=xC hd;refine qb ?_;intros;refine qf ?_;exact⟨_,_,_,_,_,_,_,_,_,rfl,.inl ⟨hd,rfl,qd rfl (qd rfl (qd rfl (qd rfl (qd rfl (qd rfl (qd rfl (qu _))))))),rfl⟩⟩
  ·have hd:=xK hd;refine qb ?_;intros;exact⟨_,_,_,_,_,_,_,_,_,rfl,.inr ⟨hd,rfl,qd rfl (qd rfl (qd rfl (qd rfl (qd rfl (qd rfl (qd rfl (qu _))))))),rfl⟩⟩
 ·rintro _ S' _ (⟨hd,rfl,hs,rfl⟩|⟨hd,rfl,hs,rfl⟩)
  ·exact yJ (zH _) hs (h1 hd)
  ·exact yJ (zH _) hs (h2 hd)
theorem EW {pc:Pic} {l:List (List qc)} (hsm:∀c∈l,(∀q∈c,zO q=true)/\c.length<=256) (hn:l.length<1000)
 {fid:FuncId} {sg bd:Code} (hsg:xS Tryz.prog 1 eU.n sg=some (.seq (.ops mD 0) (.ops mC 0))) (hbd:xS Tryz.prog 1 eU.n bd=some tV):
 Z4 90 [.one (.yl 6),.one (.ptr 5 0)] (cS pc l 0 0 0 (YQ .ready none fid sg bd)) 7 fun _ S' nk'=>
  (jX pc.gap l/\S'=cS pc l 0 0 0 (YQ .ready none fid sg bd)/\nk'=7)\/(∃i k:Nat,VU pc.gap l i k/\S'=cS pc l i k 140 (YQ .done (some .ret) fid sg bd)/\nk'=7):=by
 refine va qaP rfl fun Z β H lo=>?_;refine qb ?_;intros;refine ql (fun m E S nk=>∃i:Nat,i+m=l.length/\(∀(i' k':Nat) a b,i'<k'->i'<i->l[i']?=some a->l[k']?=some b->¬xZ a b<=pc.gap)/\E=[(0,.one (.yl 6)),(1,.one (.ptr 5 0)),(5,.int l.length),(6,.int i)]/\S=cS pc l 0 0 0 (YQ .ready none fid sg bd)/\nk=7)
  ⟨l.length,_,_,_,[],?wk,0,oM,fun i' k' a b _ h=>oM,rfl,rfl,rfl⟩ ?_
 case wk=>exact qm
 rintro m E S nk ⟨i,hi,hok,rfl,rfl,rfl⟩;refine qb ?_;intros;refine qe rfl (fun ht=>?_) (fun ht=>?_)
 ·have ht:i<l.length:=by have:=xC ht;omega
  obtain⟨a,ha⟩:∃r,l[i]?=some r:=⟨_,zge ht⟩;refine qb ?_;intros;refine ql (fun m E S nk=>∃k:Nat,k+m=l.length/\i<k/\(∀(k':Nat) b,i<k'->k'<k->l[k']?=some b->¬xZ a b<=pc.gap)/\E=[(0,.one (.yl 6)),(1,.one (.ptr 5 0)),(3,.int i),(4,.int k),(5,.int l.length),(6,.int i)]/\S=cS pc l 0 0 0 (YQ .ready none fid sg bd)/\nk=7)
   ⟨l.length-(i+1),_,_,_,[],?wk2,i+1,oM,oM,fun k' b _ h=>oM,rfl,rfl,rfl⟩ ?_
  case wk2=>exact qm
  rintro m2 E S nk ⟨k,hk,hik,hok2,rfl,rfl,rfl⟩;refine qb ?_;intros;refine qe rfl (fun ht2=>?_) (fun ht2=>?_)
  ·have ht2:k<l.length:=by have:=xC ht2;omega
   obtain⟨b,hb⟩:∃r,l[k]?=some r:=⟨_,zge ht2⟩;refine qb ?_;intros;refine TB (i:=i) (k:=k) ha hb hsm hsg hbd rfl (zH _) rfl rfl rfl (fun hd=>?_) (fun hd=>?_)
   ·refine qb ?_;intros;refine qe rfl (fun _=>?_) (fun h=>by cases h);refine qf ⟨_,rfl,rfl,_,zH _,.inr ⟨i,k,⟨⟨a,b,hik,ha,hb,hd⟩,fun i' k' a' b' h1 h2 h3 h4=>?_⟩,rfl,rfl⟩⟩;rcases h2 with h2|⟨rfl,h2⟩
    ·exact hok i' k' a' b' h1 h2 h3 h4
    ·rw [ha] at h3;rw [<-zsi h3];exact hok2 k' b' h1 h2 h4
   ·refine qb ?_;intros;refine qe rfl (fun h=>by cases h) (fun _=>?_);refine qb ?_;intros;refine⟨m2-1,oM,_,_,_,[],?wk3,k+1,oM,oM,?hno,rfl,rfl,rfl⟩
    case hno=>
     intro k' b' h1 h2 h3;by_cases hkk:k'=k
     ·subst hkk;rw [hb] at h3;rw [<-zsi h3];exact hd
     ·exact hok2 k' b' h1 oM h3
    case wk3=>exact qm
  ·have ht2:k=l.length:=by have:=xK ht2;omega
   refine qb ?_;intros;refine⟨m-1,oM,_,_,_,[],?wk4,i+1,oM,?hno3,rfl,rfl,rfl⟩
   case hno3=>
    intro i' k' a' b' h1 h2 h3 h4;by_cases hii:i'=i
    ·subst hii;rw [ha] at h3;rw [<-zsi h3];exact hok2 k' b' h1 (by have:=(zgs h4).1;omega) h4
    ·exact hok i' k' a' b' h1 oM h3 h4
   case wk4=>exact qm
 ·have ht:i=l.length:=by have:=xK ht;omega
  subst ht;refine qb ?_;intros;exact⟨_,rfl,rfl,_,zH _,.inl ⟨fun i k a b h1 h2 h3=>hok i k a b h1 (zgs h2).1 h2 h3,rfl,rfl⟩⟩
theorem HF{n:Int}:fI 59 [.int n] fun d S nk=>d=.one (.fn 90 [(0,0)])/\S=[(0,.cells [.f (.c (.int .i64 n))])]/\nk=1:=by
 refine QF qbi rfl qX fun Z0 lo=>?_;refine qb ?_;intros;exact qf ⟨_,rfl,rfl,_,zH _,rfl,rfl,rfl⟩
theorem uM{p:Pic}(hv:∀f∈p.fs,x8 f=true)(hn:p.fs.length<1000):DK 58 [yi p] fun d=>d=yn (qo p):=by
 refine qD qbj rfl qX fun Z0 lo=>?_;refine qb ?_;intros;refine MJ [.c .nils] rfl rfl ⟨rfl,rfl,trivial⟩ rfl (by decide) (Nat.le_refl _) oM oM ?_;refine qb ?_;intros;refine ql (fun m E S nk=>∃(i:Nat) (L:List FD),i+m=p.fs.length/\dE p i L/\E=[(1,.one (.ptr 0 0)),(3,.one (.own 1 0 p.fs.length 1)),(11,.int p.fs.length),(12,.int i)]/\S=[(0,.cells (yj p)),(1,.data L)]/\nk=2)
  ⟨p.fs.length,_,_,_,[],?wk,0,yY [.c .nils] p.fs.length,oM,⟨?hl,fun j f hj=>oM⟩,rfl,rfl,rfl⟩ ?_
 case wk=>exact qm
 case hl=>rw [kU];simp
 rintro m E S nk ⟨i,L,hi,hL,rfl,rfl,rfl⟩;refine qb ?_;intros;refine qe rfl (fun hi2=>?_) (fun hi2=>?_)
 ·have hi2:i<p.fs.length:=by have:=xC hi2;omega
  obtain⟨f,hf⟩:∃f,p.fs[i]?=some f:=⟨_,zge hi2⟩;have e1:=ZO hf;have hLl:=hL.1;refine qb ?_;intros;refine qk rfl rfl (Jx (hv f (zmg hf))) ?_;rintro _ rfl;refine qb ?_;intros;have hle:i+1<=(Bk.data L).len:=by simp only [Bk.len];omega
  refine Qg rfl rfl rfl rfl rfl hle rfl ?_;refine yI ?_;refine qb ?_;intros;refine⟨m-1,oM,_,_,_,[],?wk1,i+1,L.set i (qM (xe f)),oM,hL.step hf,rfl,rfl,rfl⟩
  case wk1=>exact qm
 ·have hi2:i=p.fs.length:=by have:=xK hi2;omega
  subst hi2;have hLl:L.length=p.fs.length*1:=by rw [hL.1];omega
  refine qb ?_;intros;refine qr (qd (k:=2) rfl (qu _)) (qd (k:=1) rfl (qu _)) ?_;refine xt 1 rfl qO qO ?_;refine qf ⟨_,rfl,rfl,?_⟩;rw [hL.all,show p.fs.length=(qo p).length by simp [qo]];rfl
theorem HE{p:Par}{n:Nat}{Q:Exit->qp->Bx->Nat->Prop}{E:qp}{S:Bx}{nk:Nat}{s:SC}(h:DPS p n s Q E ((nk,.data [])::S) (nk+1)):DPS p n s Q E S nk:=.mk fun Z β H F hS hE=>
 h.run Z _ H F (Zo hS) (hE.mono (xo.refl Z H) (hS.ble .nil))
structure Grow (g:Int) (rest:List qc) (x:qc) (c:List qc) (R:xT):Prop where
 inc:x∈c
 nd:c.Nodup
 conn:∀y∈c,Conn g rest x y
 holds:vI R (minus rest c)
def IQ(g:Int)(rest c:List qc)(i:Nat):Prop:=∀(k:Nat) (q:qc),k<i->c[k]?=some q->∀y∈rest,xz q y<=g->y∈c
theorem Grow.len{g:Int}{rest c:List qc}{x:qc}{R:xT}(h:Grow g rest x c R):c.length<=rest.length:=wC h.nd fun y hy=>(h.conn y hy).mem
theorem Grow.take{g:Int}{rest c:List qc}{x q:qc}{R:xT}{dy:Int}(h:Grow g rest x c R)(hr:rest.Nodup)(hq:q∈c)(h1: -g<=dy)(h2:dy<=g):
 Grow g rest x (c++jZ R (q.2+dy) (q.1-g) (q.1+g)) (lft R (q.2+dy) (q.1-g) (q.1+g))/\((minus rest (c++jZ R (q.2+dy) (q.1-g) (q.1+g))).length:Int)=(minus rest c).length-(jZ R (q.2+dy) (q.1-g) (q.1+g)).length/\
  ∀y∈rest,xz q y<=g->y.2=q.2+dy->y∈c++jZ R (q.2+dy) (q.1-g) (q.1+g):=by
 obtain⟨t1,t2,t3,t4⟩:=h.holds.take (List.Pairwise.filter _ hr) (q.2+dy) (q.1-g) (q.1+g);generalize jZ R (q.2+dy) (q.1-g) (q.1+g)=T at *;refine⟨⟨List.mem_append_left _ h.inc,?_,fun y hy=>?_,?_⟩,?_,fun y hy hf hd=>?_⟩
 ·rw [List.nodup_append];refine⟨h.nd,t2,fun a ha b hb e=>?_⟩;subst e;exact (yo.1 ((t3 a).1 hb).1).2 ha
 ·rcases List.mem_append.1 hy with hy|hy
  ·exact h.conn y hy
  ·obtain⟨h3,h4,h5,h6⟩:=(t3 y).1 hy;exact .step (h.conn q hq) (yo.1 h3).1 ((bE q y g).2 ⟨h5,h6,oM,oM⟩)
 ·rw [<-eG];exact t1
 ·rw [<-eG];omega
 ·by_cases hc:y∈c
  ·exact List.mem_append_left _ hc
  ·have:=(bE q y g).1 hf;exact List.mem_append_right _ ((t3 y).2 ⟨yo.2 ⟨hy,hc⟩,hd,this.1,this.2.1⟩)
theorem bT{l:List qc}{gap:Int}(hs:∀p∈l,qC 1000000 p)(hn:l.length<100000):DK 50 [qz l,.int gap] fun d=>∃cs,d=yn cs/\ClS (min (max gap 0) 2000) (qt l) cs:=by
 refine qD qbq rfl qX fun Z0 lo=>?_;have hsl:(qt l).length<100000:=by
  have:=wC (xi l).nodup (fun x hx=>qP.1 hx);omega
 have hss:∀p∈qt l,qC 1000000 p:=fun x hx=>hs x (qP.1 hx);have hP:=xi l;have fin:DPS (Par.base Tryz.prog 1 (H00 1) Z0 lo) Va.n (.seq (.ops tT 0) (.seq (.seq (.ops tS 0) (.block 0 (.loop fU))) (.seq (.ops mA 0) (.seq (.ops l9 0) (.seq (.ops l8 0) (.seq (.seq (.ops l7 0) (.block 2 (.loop tU))) (.seq (.ops l6 0) .ret))))))) (FH (Par.base Tryz.prog 1 (H00 1) Z0 lo) Va.res fun d=>∃cs,d=yn cs/\ClS (min (max gap 0) 2000) (qt l) cs)
  [(1,.int gap),(4,.one (.f (.c .nils))),(5,qz (qt l))] [] 0:=by
  generalize qt l=P at *;refine js ?_;refine jt wi (fun base=>?_);refine HC ?_;refine qb ?_;intros;refine Jv [] (n0:=3) (E0:=[(1,.int gap),(4,.one (.f (.c .nils))),(5,qz P),(6,.one (.ptr 1 0)),(7,.one (.ptr 2 0)),(27,qz P),(28,.int P.length),(29,.int 0)]) (S0:=S3 [] P.length) ⟨za,sK rfl rfl rfl oM,rfl,rfl⟩ ?_;refine H7 hP oM fun R0 hR0=>?_;refine qb ?_;intros;refine vB 11 1 rfl ?_;obtain⟨g,hg⟩:∃g,min (max gap 0) 2000=g:=⟨_,rfl⟩;have hg0:0<=g:=by omega
  have hg1:g<=2000:=by omega
  rw [hg];obtain⟨N,hN⟩:∃N,P.length=N:=⟨_,rfl⟩;refine ql (fun m E S nk=>∃(j:Nat) (rest:List qc) (out:List (List qc)) (R:xT),j+m=N/\qK rest/\(∀x∈rest,x∈P.drop j)/\vI R rest/\out.length+rest.length<=N/\(∀cs,ClS g rest cs->ClS g P (out++cs))/\E=[(1,.int g),(7,.one (.ptr 2 0)),(10,.one (.fn 84 [(1,0),(2,0)])),(11,.one (.own 3 0 out.length 1)),(49,qz P),(50,.int N),(51,.int j)]/\S=S4 R rest.length (out.map qM)/\nk=4) ⟨N,_,_,_,[],?wk,0,P,[],R0,by omega,hP,fun x hx=>by simpa using hx,hR0,by simp;omega,fun cs h=>h,rfl,rfl,rfl⟩ ?_
  case wk=>rw [<-hN];exact⟨za,gI rfl rfl rfl rfl (by omega),rfl,rfl⟩
  rintro m E S nk ⟨j,rest,out,R,hjm,hro,hsub,hR,hout,hcl,rfl,rfl,rfl⟩;have hrP:∀x∈rest,x∈P:=fun x hx=>List.mem_of_mem_drop (hsub x hx);have hol:(out.map qM).length=out.length*1:=by simp
  refine qb ?_;intros;refine qe rfl (fun ht=>?_) (fun ht=>?_)
  ·simp at ht;obtain⟨x,hx⟩:∃x,P[j]?=some x:=⟨_,zge oM⟩;have e1:=xd hx;refine HE ?_;have hdr:P.drop j=x::P.drop (j+1):=by
    rw [List.drop_eq_getElem_cons (by omega),(zgs hx).2]
   obtain⟨t1,t2,t3,t4⟩:=hR.take hro.nodup x.2 x.1 x.1;have tx:∀y∈jZ R x.2 x.1 x.1,y=x:=fun y hy=>by
    obtain⟨_,h1,h2,h3⟩:=(t3 y).1 hy;exact Prod.ext oM h1
   refine qb ?_;intros;refine yJ (E0:=[(1,.int g),(7,.one (.ptr 2 0)),(10,.one (.fn 84 [(1,0),(2,0)])),(11,.one (.own 3 0 out.length 1)),(49,qz P),(50,.int N),(51,.int j),(55,.one (.fn 84 [(1,0),(2,0)])),(57,.int x.2),(59,.int x.1),(61,.int x.1)]) (S0:=SS R rest.length (out.map qM) [] x.1 x.2)
    (qd (k:=1) rfl (qd (k:=7) rfl (qd (k:=10) rfl (qd (k:=11) rfl (qd (k:=49) rfl (qd (k:=50) rfl (qd (k:=51) rfl (qd (k:=55) rfl (qd (k:=57) rfl (qd (k:=59) rfl (qd (k:=61) rfl (qu _))))))))))))
    (qd (k:=0) rfl (qd (k:=1) rfl (qd (k:=2) rfl (qd (k:=3) rfl (qd (k:=4) rfl (qd (k:=5) rfl (qu _))))))) ?_
   refine DM rfl F7 rfl rfl rfl (rC (R:=R) (left:=rest.length) (y:=x.2) (low:=x.1) (high:=x.1) (A:=out.map qM) (B:=[]) (a:=x.1) (b:=x.2) hR.1.ok oM oM _ _ _ _ _) ?_;rintro _ _ _ ⟨rfl,rfl,rfl⟩;by_cases hxr:x∈rest
   ·have hT:jZ R x.2 x.1 x.1=[x]:=by
     rcases only t2 tx with h|h
     ·have:=(t3 x).2 ⟨hxr,rfl,oM,oM⟩;rw [h] at this;simp at this
     ·exact h
    rw [hT] at t1 t4 ⊢;obtain⟨r,rfl⟩:∃r,rest=x::r:=by
     cases rest with
     |nil=>simp at hxr
     |cons a r=>
      refine⟨r,?_⟩;by_cases hax:a=x
      ·rw [hax]
      ·have ha:=hsub a (by simp);rw [hdr] at ha;rcases List.mem_cons.1 ha with h|h
       ·exact absurd h hax
       ·have hb1:xp x a=true:=by
         have h5:qK (P.drop j):=List.Pairwise.sublist (List.drop_sublist j P) hP;rw [hdr,qK,List.pairwise_cons] at h5;exact h5.1 a h
        have hb2:xp a x=true:=by
         rcases List.mem_cons.1 hxr with h6|h6
         ·exact absurd h6.symm hax
         ·rw [qK,List.pairwise_cons] at hro;exact hro.1 x h6
        exact absurd (wP hb1 hb2) jD
    have hrn:=hro.nodup;have hL1:(((x::r).length:Nat):Int)-(([x].length:Nat):Int)=((minus (x::r) [x]).length:Nat):=by omega
    rw [hL1];generalize hlf:lft R x.2 x.1 x.1=R1 at t1 ⊢;clear hlf;obtain⟨M,hM⟩:∃M,(x::r).length=M:=⟨_,rfl⟩;have hM2:M=r.length+1:=by rw [<-hM];simp
    refine qb ?_;intros;refine qe rfl (fun h=>by simp at h) (fun _=>?_);refine qb ?_;intros;refine ql (fun m E S nk=>∃(i:Nat) (c:List qc) (R:xT),Grow g (x::r) x c R/\IQ g (x::r) c i/\i<=c.length/\m=M-i/\E=[(1,.int g),(7,.one (.ptr 2 0)),(10,.one (.fn 84 [(1,0),(2,0)])),(11,.one (.own 3 0 out.length 1)),(14,.one (.own 4 0 c.length 2)),(15,.int i),(49,qz P),(50,.int N),(51,.int j)]/\S=S5 R (minus (x::r) c).length (out.map qM) (c.flatMap qh)/\nk=5) ⟨M,_,_,_,[(4,7)],?wk1,0,[x],R1,⟨by simp,by simp,fun y hy=>?hy,t1⟩,fun k q h=>(by omega),by omega,by omega,rfl,rfl,rfl⟩ ?_
    case wk1=>exact⟨za,TG rfl rfl rfl rfl rfl oM,rfl,rfl⟩
    case hy=>simp at hy;subst hy;exact .base (by simp)
    rintro m2 E S nk ⟨i,c,R,hG,hD,hic,hm2,rfl,rfl,rfl⟩;have hcM:=hG.len;rw [hM] at hcM;have hcP:∀y∈c,y∈P:=fun y hy=>hrP y (hG.conn y hy).mem;have hcf:=xb c;have hpos:0<c.length:=List.length_pos_of_mem hG.inc;have hms:minus (x::r) (qt c)=minus (x::r) c:=by unfold minus;congr 1;funext z;simp [qP]
    have hmr:(minus (x::r) c).length<=r.length:=Yg hG.inc;simp only [List.length_cons] at hout;have step:(∀q∈c,∀y∈(x::r),xz q y<=g->y∈c)->∀cs,ClS g (minus (x::r) c) cs->ClS g P (out++[qt c]++cs):=fun hclo cs hcs=>by
     rw [List.append_assoc];refine hcl _ (.cons (xi c) (fun y=>qP.trans (Vd hG.inc hG.conn hclo y)) ?_);rw [hms];exact hcs
    have hdrop:∀y∈minus (x::r) c,y∈P.drop (j+1):=fun y hy=>by
     obtain⟨h1,h2⟩:=yo.1 hy;have h3:=hsub y h1;rw [hdr] at h3;rcases List.mem_cons.1 h3 with h|h
     ·subst h;exact absurd hG.inc h2
     ·exact h
    by_cases hi:i<c.length
    ·have g1:decide ((i:Int)<c.length)=true:=by simpa using hi
     by_cases hl:0<(minus (x::r) c).length
     ·have g2:decide (((minus (x::r) c).length:Int)>0)=true:=by simpa using hl
      refine qU ?_;intros;refine qe rfl (fun _=>?_) (fun h=>by cases h);obtain⟨q,hq⟩:∃q,c[i]?=some q:=⟨_,zge hi⟩;have hqc:q∈c:=zmg hq;obtain⟨q1,q2,q3,q4⟩:=hss q (hcP q hqc);have e2:xN (c.flatMap qh) (Int.toNat ((i:Nat):Int)*2) 2=some (qh q):=xd hq;refine qb ?_;intros;rw [show IntKind.i64.wrap (0-g)= -g by rw [qq (by omega) (by omega)];omega];refine ql (fun k E S nk=>∃(dy:Int) (c' ext:List qc) (R:xT), -g<=dy/\dy<=g+1/\k=(g+1-dy).toNat/\c'=c++ext/\Grow g (x::r) x c' R/\(∀y∈(x::r),xz q y<=g->y.2<q.2+dy->y∈c')/\E=[(1,.int g),(7,.one (.ptr 2 0)),(10,.one (.fn 84 [(1,0),(2,0)])),(11,.one (.own 3 0 out.length 1)),(14,.one (.own 4 0 c'.length 2)),(15,.int i),(16,.one (.ptr 5 0)),(17,.int dy),(49,qz P),(50,.int N),(51,.int j)]/\S=SS R (minus (x::r) c').length (out.map qM) (c'.flatMap qh) q.1 q.2/\nk=6) ⟨(g+1- -g).toNat,_,_,_,[],?wk3, -g,c,[],R,by omega,by omega,rfl,by simp,hG,fun y hy hf h=>?h0,rfl,rfl,rfl⟩ ?_
      case wk3=>exact⟨za,sJ rfl rfl rfl rfl rfl rfl oM,rfl,rfl⟩
      case h0=>have:=(bE q y g).1 hf;omega
      rintro k E S nk ⟨dy,c',ext,R',hd1,hd2,hk,hce,hG',hnear,rfl,rfl,rfl⟩;have hcM':=hG'.len;rw [hM] at hcM';have hcl':c'.length=c.length+ext.length:=by rw [hce];simp
      have hqc':q∈c':=by rw [hce];exact List.mem_append_left _ hqc
      have hcf':=xb c';refine qb ?_;intros;refine qe rfl (fun ht2=>?_) (fun ht2=>?_)
      ·simp at ht2;obtain⟨k1,k2,k3⟩:=hG'.take hrn hqc' hd1 ht2;have hmr':(minus (x::r) c').length<=r.length:=Yg hG'.inc;have w1:IntKind.i64.wrap (q.2+dy)=q.2+dy:=qq oM oM;have w2:IntKind.i64.wrap (q.1-g)=q.1-g:=qq oM oM;have w3:IntKind.i64.wrap (q.1+g)=q.1+g:=qq oM oM;refine qb ?_;intros;rw [w1,w2,w3];refine DM rfl F7 rfl rfl rfl (rC (R:=R') (left:=(minus (x::r) c').length) (y:=q.2+dy) (low:=q.1-g) (high:=q.1+g) (A:=out.map qM) (B:=c'.flatMap qh) (a:=q.1) (b:=q.2) hG'.holds.1.ok oM oM _ _ _ _ _) ?_;rintro _ _ _ ⟨rfl,rfl,rfl⟩;generalize jZ R' (q.2+dy) (q.1-g) (q.1+g)=T at *;generalize lft R' (q.2+dy) (q.1-g) (q.1+g)=R2 at *;have hTM:=k1.len;rw [hM,List.length_append] at hTM;have hTf:=xb T;refine qb ?_;intros;refine qV (q:=T.flatMap qh) rfl rfl rfl (qH _ hcf') ⟨rfl,rfl,_,rfl,qH _ hTf⟩ oM oM (by decide) rfl ?_;refine qb ?_;intros;refine⟨(g+1-(dy+1)).toNat,by omega,_,_,_,[(4,8)],?wk4,dy+1,c'++T,ext++T,R2,by omega,by omega,rfl,by rw [hce,List.append_assoc],k1,fun y hy hf h=>?hn,rfl,rfl,rfl⟩
       case wk4=>rw [k2,List.length_append,List.flatMap_append];exact⟨za,sJ rfl rfl rfl rfl rfl rfl (by omega),rfl,rfl⟩
       case hn=>
        by_cases h5:y.2<q.2+dy
        ·exact List.mem_append_left _ (hnear y hy hf h5)
        ·exact k3 y hy hf oM
      ·simp at ht2;refine qb ?_;intros;refine⟨M-(i+1),oM,_,_,_,[],?wk5,i+1,c',R',hG',fun k z hk hz y hy hf=>?hdn,oM,rfl,rfl,rfl,rfl⟩
       case wk5=>exact⟨za,TG rfl rfl rfl rfl rfl oM,rfl,rfl⟩
       case hdn=>
        by_cases hki:k=i
        ·subst hki;rw [hce,List.getElem?_append_left hi,hq] at hz;obtain rfl:=zsi hz;have:=(bE q y g).1 hf;exact hnear y hy hf oM
        ·rw [hce,List.getElem?_append_left (by omega)] at hz;rw [hce];exact List.mem_append_left _ (hD k z oM hz y hy hf)
     ·have g2:decide (((minus (x::r) c).length:Int)>0)=false:=by simpa using hl
      have hm0:minus (x::r) c=[]:=List.eq_nil_of_length_eq_zero oM;have hclo:∀q∈c,∀y∈(x::r),xz q y<=g->y∈c:=fun q _ y hy _=>Classical.byContradiction fun h=>by
       have:=yo.2 ⟨hy,h⟩;rw [hm0] at this;simp at this
      refine qU ?_;intros;refine qe rfl (fun h=>by cases h) (fun _=>?_);refine ja ?_;refine qr (qd (k:=1) rfl (qd (k:=7) rfl (qd (k:=10) rfl (qd (k:=11) rfl (qd (k:=14) rfl (qd (k:=49) rfl (qd (k:=50) rfl (qd (k:=51) rfl (qu _))))))))) (zH _) ?_;refine e9 hpos hG.nd oM oM ?_;refine qb ?_;intros;refine⟨m-1,by omega,_,_,_,[(3,6)],?wka,j+1,minus (x::r) c,out++[qt c],R,by omega,hro.minus _,hdrop,hG.holds,by simp;omega,step hclo,rfl,rfl,rfl⟩
      case wka=>rw [List.length_append];exact⟨za,gI rfl rfl rfl rfl (by omega),rfl,rfl⟩
    ·have g1:decide ((i:Int)<c.length)=false:=by simpa using hi
     have hclo:∀q∈c,∀y∈(x::r),xz q y<=g->y∈c:=fun q hq y hy hf=>by
      obtain⟨k,hk⟩:=List.getElem?_of_mem hq;exact hD k q (by have:=(zgs hk).1;omega) hk y hy hf
     refine qU ?_;intros;refine qe rfl (fun h=>by cases h) (fun _=>?_);refine ja ?_;refine qr (qd (k:=1) rfl (qd (k:=7) rfl (qd (k:=10) rfl (qd (k:=11) rfl (qd (k:=14) rfl (qd (k:=49) rfl (qd (k:=50) rfl (qd (k:=51) rfl (qu _))))))))) (zH _) ?_;refine e9 hpos hG.nd oM oM ?_;refine qb ?_;intros;refine⟨m-1,by omega,_,_,_,[(3,6)],?wkb,j+1,minus (x::r) c,out++[qt c],R,by omega,hro.minus _,hdrop,hG.holds,by simp;omega,step hclo,rfl,rfl,rfl⟩
     case wkb=>rw [List.length_append];exact⟨za,gI rfl rfl rfl rfl (by omega),rfl,rfl⟩
   ·have hT:jZ R x.2 x.1 x.1=[]:=by
     rcases only t2 tx with h|h
     ·exact h
     ·have:=(t3 x).1 (by rw [h];simp);exact absurd this.1 hxr
    rw [hT] at t1 ⊢;rw [CD] at t1;generalize hlf:lft R x.2 x.1 x.1=R1 at t1 ⊢;clear hlf;refine qb ?_;intros;refine qe rfl (fun _=>?_) (fun h=>by simp at h);refine ja ?_;refine qb ?_;intros;refine⟨m-1,oM,_,_,_,[],?wkc,j+1,rest,out,R1,oM,hro,fun y hy=>?hy2,t1,hout,hcl,rfl,rfl,rfl⟩
    case wkc=>exact⟨za,gI rfl rfl rfl rfl oM,rfl,rfl⟩
    case hy2=>
     have h3:=hsub y hy;rw [hdr] at h3;rcases List.mem_cons.1 h3 with h|h
     ·subst h;exact absurd hy hxr
     ·exact h
  ·simp at ht;have hr0:rest=[]:=by
    cases rest with
    |nil=>rfl
    |cons a r=>
     have:=hsub a (by simp);rw [List.drop_of_length_le (by omega)] at this;simp at this
   subst hr0;refine qr (qd (k:=11) rfl (qu _)) (qd (k:=3) rfl (qu _)) ?_;refine xt 3 rfl qO qO ?_;refine qb ?_;intros;refine qf ⟨_,rfl,rfl,out,rfl,?_⟩;have:=hcl [] .nil;simpa using this
 have mid:0<l.length->DPS (Par.base Tryz.prog 1 (H00 1) Z0 lo) Va.n (.seq (.ops L4 0) (.seq (.ops L3 0) (.seq (.ops tT 0) (.seq (.seq (.ops tS 0) (.block 0 (.loop fU))) (.seq (.ops mA 0) (.seq (.ops l9 0) (.seq (.ops l8 0) (.seq (.seq (.ops l7 0) (.block 2 (.loop tU))) (.seq (.ops l6 0) .ret))))))))) (FH (Par.base Tryz.prog 1 (H00 1) Z0 lo) Va.res fun d=>∃cs,d=yn cs/\ClS (min (max gap 0) 2000) (qt l) cs)
  [(1,.int gap),(4,.one (.f (.c .nils))),(5,.one (.own 0 0 l.length 2))] [(0,.data (l.flatMap qh))] 1:=by
  intro hpos;refine qb ?_;intros;refine vA rfl rfl rfl (rD (k:=0) (l:=l) rfl hpos oM _ _ _ _ _) ?_;rintro _ _ _ ⟨rfl,rfl,l',hperm,hsort,rfl⟩;have hll:=hperm.length_eq;have hco:=uC (l:=l') hsort oM oM;have hso:qt l'=qt l:=qK.ext (xi _) (xi _) fun p=>by rw [qP,qP,hperm.mem_iff]
  rw [hll,hso] at hco;refine qb ?_;intros;refine vA rfl rfl rfl (hco _ _ _ _ _) ?_;rintro _ _ _ ⟨rfl,rfl,rest,rfl⟩;refine zJ rfl ?_;refine yI ?_;refine qr (qd (k:=1) rfl (qd (k:=4) rfl (qd (k:=5) rfl (qu _)))) (qd (k:=0) rfl (qu _)) ?_;refine DP 0 ((qt l).length*2) rfl ?_;have hfl:=xb (qt l);rw [List.take_append_of_le_length (by omega),List.take_of_length_le (by omega)];refine xt 0 rfl qO qO ?_;refine Jv [] (n0:=0) (E0:=[(1,.int gap),(4,.one (.f (.c .nils))),(5,qz (qt l))]) (S0:=[]) ⟨za,trivial,rfl,rfl⟩ ?_;exact fin
 refine qb ?_;intros;refine jr rfl rfl (HH oM) ?_;rintro _ _ _ ⟨k,hk,rfl,rfl,rfl⟩;refine zJ rfl ?_;refine yI ?_;by_cases h0:l=[]
 ·subst h0;refine js ?_;refine RI 5 rfl ?_;refine qb ?_;intros;refine qk rfl rfl RN ?_;rintro _ rfl;refine qb ?_;intros;refine qk rfl rfl uL ?_;rintro _ rfl;refine zJ rfl ?_;refine yI ?_;refine Jv [] (n0:=0) (E0:=[(1,.int gap),(4,.one (.f (.c .nils))),(5,qz (qt []))]) (S0:=[]) ⟨za,trivial,rfl,rfl⟩ ?_;exact fin
 ·have hpos:0<l.length:=List.length_pos_iff.2 h0;rcases hk with rfl|rfl
  ·refine Jv [] (n0:=1) (E0:=[(1,.int gap),(4,.one (.f (.c .nils))),(5,.one (.own 0 0 l.length 2))]) (S0:=[(0,.data (l.flatMap qh))]) ⟨za,⟨rfl,rfl,rfl,trivial⟩,rfl,rfl⟩ ?_;exact mid hpos
  ·refine Jv [(0,1)] (n0:=1) (E0:=[(1,.int gap),(4,.one (.f (.c .nils))),(5,.one (.own 0 0 l.length 2))]) (S0:=[(0,.data (l.flatMap qh))]) ⟨za,⟨rfl,rfl,rfl,trivial⟩,rfl,rfl⟩ ?_;exact mid hpos
def X3(p:Pic):Prop:=∀f∈p.fs,x8 f=true->(xe f).length<=256
theorem R4{g:Int}{l:List qc}{cs:List (List qc)}(h1:2<=g)(h2:g<=6)(h:ClS (min (max g 0) 2000) (qt l) cs):Xa g l=decide (cs.length=1):=by
 rw [show min (max g 0) 2000=g by omega] at h;exact EC h
theorem rT{p:Pic}(hF:Qq p)(hw:X3 p):DK 30 [yi p] fun d=>∃r:fF,Chk p r/\d=.tup [.int r.1,.int r.2.1,.int r.2.2]:=by
 refine qD qbG rfl qX fun Z0 lo=>?_;refine qb ?_;intros;refine qk rfl rfl (W1 hF) ?_;rintro _ rfl;refine qb ?_;intros;refine qe rfl (fun hv=>?_) (fun hv=>?_)
 ·have hv:¬qx p=true:=by simpa using hv
  refine qb ?_;intros;exact qf ⟨_,rfl,rfl,_,.arg hv,rfl⟩
 ·have hv:qx p=true:=by simpa using hv
  have hsm:∀l∈qo p,(∀q∈l,zO q=true)/\l.length<=256:=fun l hl=>by
   refine⟨(vY hv l hl).1,?_⟩;obtain⟨f,hf,rfl⟩:=List.mem_map.1 hl;exact hw f hf (zL hv f hf)
  have hpl:(qo p).length=p.fs.length:=by simp [qo]
  have hl8:=(qL hv).1;have hgap:2<=p.gap/\p.gap<=6:=by
   have:=(qL hv).2.2.2;simp only [jV,xr,xQ] at this;exact this.1
  refine qb ?_;intros;refine qk rfl rfl (uM (zL hv) oM) ?_;rintro _ rfl;generalize hl:qo p=l at *;refine qb ?_;intros;refine ql (fun m E S nk=>∃i:Nat,i+m=l.length/\(∀(j:Nat) b,j<i->l[j]?=some b->Xa p.gap b=true)/\E=[(1,.one (.ptr 0 0)),(2,.one (.ptr 1 0)),(3,.one (.ptr 2 0)),(4,.one (.ptr 3 0)),(5,.one (.ptr 4 0)),(15,yn l),(16,.int l.length),(17,.int i)]/\S=[(0,.cells (yj p)),(1,.cells [.f (.c (.int .i64 0))]),(2,.cells [.f (.c (.int .i64 0))]),(3,.cells [.f (.c (.int .i64 0))]),(4,.cells [.f (.sl 1 l.length (l.map qM))])]/\nk=5)
   ⟨l.length,_,_,_,[],?wk,0,oM,fun j b hj=>oM,rfl,rfl,rfl⟩ ?_
  case wk=>exact qm
  rintro m E S nk ⟨i,hi,hok,rfl,rfl,rfl⟩;refine qb ?_;intros;refine qe rfl (fun hi2=>?_) (fun hi2=>?_)
  ·have hi2:i<l.length:=by have:=xC hi2;omega
   obtain⟨a,ha⟩:∃r,l[i]?=some r:=⟨_,zge hi2⟩;have e1:=j7 ha;have hsa:=hsm a (zmg ha);refine qb ?_;intros;refine qk rfl rfl (bT (fun q hq=>by have:=hsa.1 q hq;rw [zx] at this;unfold qC;omega) (by omega)) ?_;rintro _ ⟨cs,rfl,hcs⟩;have hc1:=R4 hgap.1 hgap.2 hcs;refine qb ?_;intros;refine qe rfl (fun hb=>?_) (fun hb=>?_)
   ·have hb:¬(cs.length:Int)=1:=Ka hb;refine qb ?_;intros;exact qf ⟨_,rfl,rfl,_,.bad1 i hv (by rw [hl];exact⟨⟨a,ha,by rw [hc1];exact decide_eq_false (by omega)⟩,hok⟩),rfl⟩
   ·have hb:(cs.length:Int)=1:=JE hb;refine qb ?_;intros;refine⟨m-1,oM,_,_,_,[],?wk1,i+1,oM,?hno,rfl,rfl,rfl⟩
    case hno=>
     intro j b hj hbj;by_cases hji:j=i
     ·subst hji;rw [ha] at hbj;rw [<-zsi hbj,hc1];exact decide_eq_true oM
     ·exact hok j b oM hbj
    case wk1=>exact qm
  ·have hi2:i=l.length:=by have:=xK hi2;omega
   subst hi2;have hg1:jY p.gap (qo p):=fun a ha=>by
    rw [hl] at ha;obtain⟨j,hj⟩:=List.getElem?_of_mem ha;exact hok j a (zgs hj).1 hj
   refine qb ?_;intros;refine jr rfl rfl HF ?_;rintro _ _ _ ⟨rfl,rfl,rfl⟩;refine qb ?_;intros;refine qr (qd (k:=1) rfl (qd (k:=2) rfl (qd (k:=3) rfl (qd (k:=4) rfl (qd (k:=5) rfl (qd (k:=33) rfl (qu _))))))) (qd (k:=0) rfl (qd (k:=1) rfl (qd (k:=2) rfl (qd (k:=3) rfl (qd (k:=4) rfl (qd (k:=5) rfl (qu _))))))) ?_;refine ML rfl [1,2,3,4,5] rfl (by show qB Tryz.prog 90=true;kernel_rfl) rfl rfl (fun fid sg bd hsg hbd=>?_);refine DX.sub (S0:=cS p l 0 0 0 (YQ .ready none fid sg bd)) ((EW hsm oM hsg hbd _ _ _ _ _).mono ?_) (qd rfl (qd rfl (qd rfl (qd rfl (qd rfl (qd rfl (qd rfl (qu _))))))));rintro _ _ _ (⟨hg2,rfl,rfl⟩|⟨i,k,hb2,rfl,rfl⟩)
   ·refine⟨_,_,_,_,_,_,_,_,_,rfl,by simp,?_⟩;refine qb ?_;intros;exact qf ⟨_,rfl,rfl,_,.ok hv hg1 (by rw [hl];exact hg2),rfl⟩
   ·refine⟨_,_,_,_,_,_,_,_,_,rfl,by simp,?_⟩;exact⟨_,rfl,rfl,_,.bad2 i k hv hg1 (by rw [hl];exact hb2),rfl⟩
structure Rw where
 x0:Int
 x1:Int
 x2:Int
 x3:Int
 x4:Int
 x5:Int
def iA(x:Rw):List FD:=[.c (.int .u8 x.x0),.c (.int .u8 x.x1),.c (.int .u8 x.x2),.c (.int .u8 x.x3),.c (.int .u8 x.x4),.c (.int .u8 x.x5)]
def rwD(x:Rw):DV:=.agg ((iA x).map .f)
def vM(n:Int):Prop:=0<=n/\n<256
def Rw.ok(x:Rw):Prop:=(vM x.x0/\vM x.x1/\vM x.x2)/\vM x.x3/\vM x.x4/\vM x.x5
def fA(x:Rw)(w:Int):Int:=x.x1.tmod w
def fB(x:Rw)(h:Int):Int:=x.x2.tmod h
def fR(x:Rw)(w:Int):Int:=min (fA x w+(1+x.x3.tmod 8)) (w-1)
def fL(x:Rw)(h:Int):Int:=min (fB x h+(1+x.x4.tmod 8)) (h-1)
def jB(x:Rw)(w h:Int):Ft:=
 if x.x0.tmod 3=0 then ⟨1,0,[(fA x w,fB x h)]⟩
 else if x.x0.tmod 3=1 then ⟨2,0,[(fA x w,fB x h),(fR x w,fL x h)]++if x.x5.tmod 2=1 then [(fA x w,fL x h)] else []⟩
 else ⟨3,(x.x0.tdiv 3).tmod 4,[(fA x w,fB x h),(fR x w,fB x h),(fR x w,fL x h)]++if x.x5.tmod 2=1 then [(fA x w,fL x h)] else []⟩
theorem D6{x:Rw}{w h:Int}(hx:x.ok)(hw:4<=w/\w<=60)(hh:3<=h/\h<=60):DK 29 [rwD x,.int w,.int h] fun d=>d=eP (jB x w h):=by
 refine qD qbH rfl qX fun Z0 lo=>?_;obtain⟨⟨hx0,hx1,hx2⟩,hx3,hx4,hx5⟩:=hx;unfold vM at *;have w1:IntKind.i64.wrap x.x1=x.x1:=qq oM oM;have w2:IntKind.i64.wrap x.x2=x.x2:=qq oM oM;have w3:IntKind.i64.wrap x.x3=x.x3:=qq oM oM;have w4:IntKind.i64.wrap x.x4=x.x4:=qq oM oM;have t1:0<=x.x1.tmod w/\x.x1.tmod w<w:=⟨Int.tmod_nonneg _ hx1.1,Int.tmod_lt_of_pos _ oM⟩;have t2:0<=x.x2.tmod h/\x.x2.tmod h<h:=⟨Int.tmod_nonneg _ hx2.1,Int.tmod_lt_of_pos _ oM⟩;have t3:0<=x.x3.tmod 8/\x.x3.tmod 8<8:=⟨Int.tmod_nonneg _ hx3.1,Int.tmod_lt_of_pos _ oM⟩;have t4:0<=x.x4.tmod 8/\x.x4.tmod 8<8:=⟨Int.tmod_nonneg _ hx4.1,Int.tmod_lt_of_pos _ oM⟩;refine qb ?_;intros;rw [w1];refine Qa rfl rfl oM ?_;refine qb ?_;intros;rw [w2];refine Qa rfl rfl oM ?_;refine qb ?_;intros;have q1:0<=x.x0.tdiv 3/\x.x0.tdiv 3<256:=by rw [Int.tdiv_eq_ediv_of_nonneg hx0.1];omega
 have u1:IntKind.u8.wrap (x.x0.tdiv 3)=x.x0.tdiv 3:=by
  simp [IntKind.wrap,IntKind.signed,IntKind.bits];omega
 have t5:0<=(x.x0.tdiv 3).tmod 4/\(x.x0.tdiv 3).tmod 4<4:=⟨Int.tmod_nonneg _ q1.1,Int.tmod_lt_of_pos _ oM⟩;have t6:0<=x.x0.tmod 3/\x.x0.tmod 3<3:=⟨Int.tmod_nonneg _ hx0.1,Int.tmod_lt_of_pos _ oM⟩;have hK:IntKind.i64.wrap (1+IntKind.i64.wrap (x.x0.tmod 3))=1+x.x0.tmod 3:=by rw [qq (n:=x.x0.tmod 3) (by omega) (by omega),qq (by omega) (by omega)]
 have hT:IntKind.i64.wrap ((IntKind.u8.wrap (x.x0.tdiv 3)).tmod 4)=(x.x0.tdiv 3).tmod 4:=by rw [u1,qq (by omega) (by omega)]
 have hR:min (IntKind.i64.wrap (x.x1.tmod w+IntKind.i64.wrap (1+(IntKind.i64.wrap x.x3).tmod 8))) (IntKind.i64.wrap (w-1))=fR x w:=by
  rw [w3,qq (n:=1+x.x3.tmod 8) (by omega) (by omega),qq (n:=x.x1.tmod w+(1+x.x3.tmod 8)) (by omega) (by omega),qq (n:=w-1) (by omega) (by omega)];rfl
 have hL:min (IntKind.i64.wrap (x.x2.tmod h+IntKind.i64.wrap (1+(IntKind.i64.wrap x.x4).tmod 8))) (IntKind.i64.wrap (h-1))=fL x h:=by
  rw [w4,qq (n:=1+x.x4.tmod 8) (by omega) (by omega),qq (n:=x.x2.tmod h+(1+x.x4.tmod 8)) (by omega) (by omega),qq (n:=h-1) (by omega) (by omega)];rfl
 refine qr (E0:=[(3,.one (.ptr 0 0)),(6,.one (.ptr 1 0)),(7,.int (fA x w)),(8,.int (fB x h)),(11,.int (fR x w)),(12,.int (fL x h)),(13,.one (.ptr 2 0)),(14,.one (.ptr 3 0)),(15,.int (1+x.x0.tmod 3)),(16,.int ((x.x0.tdiv 3).tmod 4)),(68,.bool (1+x.x0.tmod 3==1))])
  (S0:=[(0,.cells ((iA x).map .f)),(1,.cells [.f (.c (.int .i64 0)),.f (.c (.int .i64 0)),.f (.c .nils)]),(2,.cells [.f (.c (.int .i64 (fA x w))),.f (.c (.int .i64 (fB x h)))]),(3,.cells [.f (.c (.int .i64 (fR x w))),.f (.c (.int .i64 (fL x h)))])])
  (qd rfl (qd rfl (qd rfl (qd rfl (qd (congrArg (fun z=>some (DV.int z)) hR) (qd (congrArg (fun z=>some (DV.int z)) hL) (qd rfl (qd rfl (qd (congrArg (fun z=>some (DV.int z)) hK) (qd (congrArg (fun z=>some (DV.int z)) hT) (qd (congrArg (fun z=>some (DV.bool (z==1))) hK) (qu _))))))))))))
  (qd rfl (qd rfl (qd rfl (qd (by rw [<-hR,<-hL];rfl) (qu _))))) ?_
 refine qe rfl (fun h1=>?_) (fun h1=>?_)
 ·have h1:x.x0.tmod 3=0:=by
   have:1+x.x0.tmod 3=1:=by simpa using h1
   omega
  refine qb ?_;intros;refine qr (E0:=[(6,.one (.ptr 1 0))]) (S0:=[(1,.cells [.f (.c (.int .i64 (1+x.x0.tmod 3))),.f (.c (.int .i64 0)),.own 4 0 1 2]),(4,.data (qh (fA x w,fB x h)))]) (qd rfl (qu _)) (qd rfl (qd rfl (qu _))) ?_;refine xt 4 rfl qO qO ?_;refine qf ⟨_,rfl,rfl,?_⟩;rw [jB,if_pos h1,h1];rfl
 ·have h1:¬x.x0.tmod 3=0:=fun h=>by rw [h] at h1;simp at h1
  refine qb ?_;intros;refine qe rfl (fun h2=>?_) (fun h2=>?_)
  ·have h2:x.x0.tmod 3=1:=by
    have:1+x.x0.tmod 3=2:=by simpa using h2
    omega
   refine qb ?_;intros;refine qe rfl (fun h5=>?_) (fun h5=>?_)
   ·have h5:x.x5.tmod 2=1:=by simpa using h5
    refine qb ?_;intros;refine qV (m:=1) (q:=qh (fA x w,fL x h)) (l:=qh (fA x w,fB x h)++qh (fR x w,fL x h)) rfl rfl rfl rfl ⟨rfl,rfl,_,rfl,rfl⟩ oM oM (by decide) rfl ?_;refine qb ?_;intros;refine qr (E0:=[(6,.one (.ptr 1 0))]) (S0:=[(1,.cells [.f (.c (.int .i64 (1+x.x0.tmod 3))),.f (.c (.int .i64 0)),.own 6 0 3 2]),(6,.data [.c (.int .i64 (fA x w)),.c (.int .i64 (fB x h)),.c (.int .i64 (fR x w)),.c (.int .i64 (fL x h)),.c (.int .i64 (fA x w)),.c (.int .i64 (fL x h))])]) (qd rfl (qu _)) (qd rfl (qd rfl (qu _))) ?_;refine xt 6 rfl qO qO ?_;refine qf ⟨_,rfl,rfl,?_⟩;rw [jB,if_neg h1,if_pos h2,if_pos h5,h2];rfl
   ·have h5:¬x.x5.tmod 2=1:=by simpa using h5
    refine qb ?_;intros;refine qr (E0:=[(6,.one (.ptr 1 0))]) (S0:=[(1,.cells [.f (.c (.int .i64 (1+x.x0.tmod 3))),.f (.c (.int .i64 0)),.own 4 0 2 2]),(4,.data [.c (.int .i64 (fA x w)),.c (.int .i64 (fB x h)),.c (.int .i64 (fR x w)),.c (.int .i64 (fL x h))])]) (qd rfl (qu _)) (qd rfl (qd rfl (qu _))) ?_;refine xt 4 rfl qO qO ?_;refine qf ⟨_,rfl,rfl,?_⟩;rw [jB,if_neg h1,if_pos h2,if_neg h5,h2];rfl
  ·have h2:¬x.x0.tmod 3=1:=fun h=>by rw [h] at h2;simp at h2
   have h3:x.x0.tmod 3=2:=by omega
   refine qb ?_;intros;refine qe rfl (fun h5=>?_) (fun h5=>?_)
   ·have h5:x.x5.tmod 2=1:=by simpa using h5
    refine qb ?_;intros;refine qV (m:=1) (q:=qh (fA x w,fL x h)) (l:=qh (fA x w,fB x h)++qh (fR x w,fB x h)++qh (fR x w,fL x h)) rfl rfl rfl rfl ⟨rfl,rfl,_,rfl,rfl⟩ oM oM (by decide) rfl ?_;refine qb ?_;intros;refine qr (E0:=[(6,.one (.ptr 1 0))]) (S0:=[(1,.cells [.f (.c (.int .i64 (1+x.x0.tmod 3))),.f (.c (.int .i64 ((x.x0.tdiv 3).tmod 4))),.own 6 0 4 2]),(6,.data [.c (.int .i64 (fA x w)),.c (.int .i64 (fB x h)),.c (.int .i64 (fR x w)),.c (.int .i64 (fB x h)),.c (.int .i64 (fR x w)),.c (.int .i64 (fL x h)),.c (.int .i64 (fA x w)),.c (.int .i64 (fL x h))])]) (qd rfl (qu _)) (qd rfl (qd rfl (qu _))) ?_;refine xt 6 rfl qO qO ?_;refine qf ⟨_,rfl,rfl,?_⟩;rw [jB,if_neg h1,if_neg h2,if_pos h5,h3];rfl
   ·have h5:¬x.x5.tmod 2=1:=by simpa using h5
    refine qb ?_;intros;refine qr (E0:=[(6,.one (.ptr 1 0))]) (S0:=[(1,.cells [.f (.c (.int .i64 (1+x.x0.tmod 3))),.f (.c (.int .i64 ((x.x0.tdiv 3).tmod 4))),.own 4 0 3 2]),(4,.data [.c (.int .i64 (fA x w)),.c (.int .i64 (fB x h)),.c (.int .i64 (fR x w)),.c (.int .i64 (fB x h)),.c (.int .i64 (fR x w)),.c (.int .i64 (fL x h))])]) (qd rfl (qu _)) (qd rfl (qd rfl (qu _))) ?_;refine xt 4 rfl qO qO ?_;refine qf ⟨_,rfl,rfl,?_⟩;rw [jB,if_neg h1,if_neg h2,if_neg h5,h3];rfl
structure Raw where
 w:Int
 h:Int
 g:Int
 f:List Rw
def Raw.ok(x:Raw):Prop:=(vM x.w/\vM x.h/\vM x.g)/\∀r∈x.f,r.ok
def FK(x:Raw):List DC:=[.f (.c (.int .u8 x.w)),.f (.c (.int .u8 x.h)),.f (.c (.int .u8 x.g)),.f (.sl 6 x.f.length (x.f.flatMap iA))]
def FJ(x:Raw):DV:=.agg (FK x)
def mW(x:Raw):Int:=12+2*x.w.tmod 13
def mH(x:Raw):Int:=12+3*x.h.tmod 9
def mG(x:Raw):Int:=2+x.g.tmod 3
def s7:Ft:=⟨1,0,[(1,1)]⟩
def mF(x:Raw):List Ft:=match (x.f.take 4).map (fun r=>jB r (mW x) (mH x)) with
 |[]=>[s7]
 |l=>l
def wK(x:Raw):Pic:=⟨mW x,mH x,mG x,mF x⟩
theorem TW{l:List Rw}{i:Nat}{x:Rw}(h:l[i]?=some x):xN (l.flatMap iA) (i*6) 6=some (iA x):=Qt (e:=6) (fun _=>rfl) h
theorem qaz{x:Raw}(hx:x.ok):DK 8 [FJ x] fun d=>d=yi (wK x):=by
 refine qD cp8 rfl qX fun Z0 lo=>?_;obtain⟨⟨hw,hh,hg⟩,hf⟩:=hx;unfold vM at hw hh hg;have t1:0<=x.w.tmod 13/\x.w.tmod 13<13:=⟨Int.tmod_nonneg _ hw.1,Int.tmod_lt_of_pos _ oM⟩;have t2:0<=x.h.tmod 9/\x.h.tmod 9<9:=⟨Int.tmod_nonneg _ hh.1,Int.tmod_lt_of_pos _ oM⟩;have t3:0<=x.g.tmod 3/\x.g.tmod 3<3:=⟨Int.tmod_nonneg _ hg.1,Int.tmod_lt_of_pos _ oM⟩;have hW:IntKind.i64.wrap (12+IntKind.i64.wrap (2*IntKind.i64.wrap (x.w.tmod 13)))=mW x:=by
  rw [qq (n:=x.w.tmod 13) (by omega) (by omega),qq (n:=2*x.w.tmod 13) (by omega) (by omega),qq (by omega) (by omega)];rfl
 have hH:IntKind.i64.wrap (12+IntKind.i64.wrap (3*IntKind.i64.wrap (x.h.tmod 9)))=mH x:=by
  rw [qq (n:=x.h.tmod 9) (by omega) (by omega),qq (n:=3*x.h.tmod 9) (by omega) (by omega),qq (by omega) (by omega)];rfl
 have hG:IntKind.i64.wrap (2+IntKind.i64.wrap (x.g.tmod 3))=mG x:=by
  rw [qq (n:=x.g.tmod 3) (by omega) (by omega),qq (by omega) (by omega)];rfl
 refine qb ?_;intros;refine qr (E0:=[(1,.one (.ptr 0 0)),(2,.one (.ptr 1 0)),(3,.one (.ptr 2 0)),(4,.int 0)])
  (S0:=[(0,.cells (FK x)),(1,.cells [.f (.c (.int .i64 0)),.f (.c (.int .i64 0)),.f (.c (.int .i64 0)),.f (.c .nils)]),(2,.cells [.f (.c (.int .i64 (mW x))),.f (.c (.int .i64 (mH x))),.f (.c (.int .i64 (mG x))),.f (.c .nils)])])
  (qd rfl (qd rfl (qd rfl (qd rfl (qu _)))))
  (qd rfl (qd rfl (qd (by rw [<-hW,<-hH,<-hG];rfl) (qu _)))) ?_
 refine VK 2 3 3 rfl rfl ?_;refine ql (fun m E S nk=>∃(i:Nat) (out:List Ft),i+m=min x.f.length 4/\out=(x.f.take i).map (fun r=>jB r (mW x) (mH x))/\E=[(1,.one (.ptr 0 0)),(2,.one (.ptr 1 0)),(3,.one (.ptr 2 0)),(4,.int i)]/\
  S=[(0,.cells (FK x)),(1,.cells [.f (.c (.int .i64 0)),.f (.c (.int .i64 0)),.f (.c (.int .i64 0)),.f (.c .nils)]),(2,.cells [.f (.c (.int .i64 (mW x))),.f (.c (.int .i64 (mH x))),.f (.c (.int .i64 (mG x))),.own 3 0 out.length 3]),(3,.data (out.flatMap zu))]/\nk=4)
  ⟨min x.f.length 4,_,_,_,[],?wk,0,[],oM,rfl,rfl,rfl,rfl⟩ ?_
 case wk=>exact qm
 rintro m E S nk ⟨i,out,hi,ho,rfl,rfl,rfl⟩;refine qb ?_;intros;refine qe rfl (fun ht=>?_) (fun ht=>?_)
 ·rw [vu,xr] at ht;have h1:=xC ht.1;have h2:=xC ht.2;obtain⟨r,hr⟩:∃r,x.f[i]?=some r:=⟨_,zge oM⟩;have e1:=TW hr;have hol:out.length=i:=by rw [ho,List.length_map,List.length_take];omega
  have hfl:=KA out;refine qb ?_;intros;refine qk rfl rfl (D6 (x:=r) (w:=mW x) (h:=mH x) (hf r (zmg hr)) (by unfold mW;omega) (by unfold mH;omega)) ?_;rintro _ rfl;refine qb ?_;intros;refine qV (m:=1) (q:=zu (jB r (mW x) (mH x))) rfl rfl rfl (qH _ hfl) ⟨rfl,rfl,_,rfl,rfl⟩ oM oM (by decide) rfl ?_;rw [show out.flatMap zu++zu (jB r (mW x) (mH x))=(out++[jB r (mW x) (mH x)]).flatMap zu by simp,show out.length+1=(out++[jB r (mW x) (mH x)]).length by simp];refine yu rfl ?_;refine qb ?_;intros;refine⟨m-1,by omega,_,_,_,[(3,5)],?wk1,i+1,out++[jB r (mW x) (mH x)],by omega,by rw [List.take_add_one,hr,ho];simp,rfl,rfl,rfl⟩
  case wk1=>exact qm
 ·rw [vu] at ht;have hi4:i=min x.f.length 4:=by
   rcases Bool.and_eq_false_iff.1 ht with h|h
   ·have:=xK h;omega
   ·have:=xK h;omega
  have ho4:out=(x.f.take 4).map (fun r=>jB r (mW x) (mH x)):=by
   rw [ho,hi4];by_cases h4:x.f.length<=4
   ·rw [List.take_of_length_le (by omega),List.take_of_length_le h4]
   ·rw [show min x.f.length 4=4 by omega]
  clear ho;refine qb ?_;intros;refine qe rfl (fun hz=>?_) (fun hz=>?_)
  ·have hz:out=[]:=by
    have h:(out.length:Int)=0:=by simpa using hz
    exact List.length_eq_zero_iff.1 oM
   have hmF:mF x=[s7]:=by rw [mF,<-ho4,hz]
   clear ho4;subst hz;refine qr (qd (k:=2) rfl (qd (k:=3) rfl (qu _))) (zH _) ?_
   iterate 4 (first|(refine Zu rfl rfl ?_)|(refine Zv rfl rfl ?_)|(refine ZR rfl ?_)|(refine ZS rfl rfl ?_)|(refine ZT rfl rfl ?_)|(refine YU rfl QE QE ?_)|(refine WS rfl rfl ?_)|(refine WQ rfl rfl ?_)|(refine zJ rfl ?_)|(refine jK rfl ?_)|(refine jC rfl ?_)|(refine bL rfl QE ?_)|(refine bM rfl QE ?_)|(refine WU rfl rfl oM oM ?_)|(refine WV rfl rfl oM oM ?_)|(refine WT rfl rfl oM oM ?_)|(refine WW rfl rfl oM (by decide) aM ?_)|(refine zV rfl rfl oM (by decide) aM ?_)|(refine jK (jh rfl rfl aM rfl) ?_)|(refine jC (jh rfl rfl aM rfl) ?_)|(refine jK (jf rfl rfl aM) ?_)|(refine jC (jf rfl rfl aM) ?_)|(refine jK (jg rfl rfl aM aM) ?_)|(refine jC (jg rfl rfl aM aM) ?_)|(refine Xs rfl ?_)|(refine bO rfl rfl rfl ?_)|(refine Qg rfl rfl rfl rfl rfl (Nat.le_of_ble_eq_true rfl) rfl ?_)|(refine yI ?_)|(refine js ?_)|(refine jt wi (fun base=>?_))|(refine Xt ?_)|(refine Qo ?_)|(refine ja ?_))
   have hq2:(qh (1,1)).length=1*2:=rfl;refine Qb 4 rfl qO qO ?_;refine qb ?_;intros;refine qr (qd (k:=2) rfl (qu _)) (qd (k:=1) rfl (qd (k:=5) rfl (qu _))) ?_;have hq3:(zu s7).length=1*3:=rfl;refine xt 5 rfl qO qO ?_;refine qf ⟨_,rfl,rfl,?_⟩;rw [wK,hmF];rfl
  ·have hz:out≠[]:=fun h=>by
    subst h;cases hz
   have hmF:mF x=out:=by
    rw [mF,<-ho4];cases out with
    |nil=>exact absurd rfl hz
    |cons=>rfl
   have hfl:=KA out;refine qb ?_;intros;refine qr (qd (k:=2) rfl (qu _)) (qd (k:=1) rfl (qd (k:=3) rfl (qu _))) ?_;refine xt 3 rfl qO qO ?_;refine qf ⟨_,rfl,rfl,?_⟩;rw [wK,hmF];rfl
end Go.Ag

namespace Go.Ag
open Go.Ab Go.Proofs
theorem QK{n:Int}(h:(Lit.int .u8 n).wf=true):vM n:=by
 simp [Lit.wf,IntKind.min,IntKind.max,IntKind.signed,IntKind.bits] at h;unfold vM;omega
def qb0:Ty:=.agg (.pair (.int .u8) (.pair (.int .u8) (.pair (.int .u8) (.pair (.int .u8) (.pair (.int .u8) (.pair (.int .u8) .unit))))))
def rawT:Ty:=.agg (.pair (.int .u8) (.pair (.int .u8) (.pair (.int .u8) (.pair (.slice qb0) .unit))))
def u3(y:Int × Int × Int × Int × Int × Int × Unit):Rw:=⟨y.1,y.2.1,y.2.2.1,y.2.2.2.1,y.2.2.2.2.1,y.2.2.2.2.2.1⟩
def T2(a:Int × Int × Int × List (Int × Int × Int × Int × Int × Int × Unit) × Unit):Raw:=⟨a.1,a.2.1,a.2.2.1,a.2.2.2.1.map u3⟩
theorem rawR_ok{a:rawT.den}(h:Ty.okD rawT a):(T2 a).ok:=by
 obtain⟨h1,h2,h3,h4,_⟩:=h;refine⟨⟨QK h1,QK h2,QK h3⟩,fun r hr=>?_⟩;obtain⟨y,hy,rfl⟩:=List.mem_map.1 hr;obtain⟨g1,g2,g3,g4,g5,g6,_⟩:=h4.1 y hy;exact⟨⟨QK g1,QK g2,QK g3⟩,QK g4,QK g5,QK g6⟩
theorem rawR_d(a:Int × Int × Int × List (Int × Int × Int × Int × Int × Int × Unit) × Unit):FJ (T2 a)=dB rawT (show rawT.den from a):=by
 obtain⟨a1,a2,a3,l,u⟩:=a;have h:∀l:List (Int × Int × Int × Int × Int × Int × Unit),(l.map u3).flatMap iA=List.flatMap (Ty.fd qb0) l:=by
  intro l;induction l with
  |nil=>rfl
  |cons y l ih=>rw [List.map_cons,List.flatMap_cons,ih];rfl
 show DV.agg [.f (.c (.int .u8 a1)),.f (.c (.int .u8 a2)),.f (.c (.int .u8 a3)),.f (.sl 6 (List.map u3 l).length ((List.map u3 l).flatMap iA))]=_
 rw [h l,List.length_map];rfl
end Go.Ag

namespace Go.Ag
open Go.Ab Go.Proofs
def Vb(i:Nat):Int:=[1,3,9,25,17,11,27,19].getD i 0
def fW(i:Nat):DV:=.one (.f (.sl 1 2 [.c (.int .u8 60),.c (.int .u8 (Vb i))]))
theorem RX{i:Nat}(hi:i<8):DK 67 [.int i] fun d=>d=fW i:=by
 refine qD qba rfl qX fun Z0 lo=>?_
 match i,hi with
 |0,_=>
  refine qb ?_;intros;refine qe rfl (fun h=>absurd h (by decide)) (fun _=>?_);refine qb ?_;intros;refine qr (qd (k:=2) rfl (qu _)) (qd (k:=0) rfl (qu _)) ?_;refine xt 0 rfl qO qO ?_;exact qf ⟨_,rfl,rfl,rfl⟩
 |1,_=>
  refine qb ?_;intros;refine qe rfl (fun h=>absurd h (by decide)) (fun _=>?_);refine qb ?_;intros;refine qr (qd (k:=2) rfl (qu _)) (qd (k:=0) rfl (qu _)) ?_;refine xt 0 rfl qO qO ?_;exact qf ⟨_,rfl,rfl,rfl⟩
 |2,_=>
  refine qb ?_;intros;refine qe rfl (fun h=>absurd h (by decide)) (fun _=>?_);refine qb ?_;intros;refine qr (qd (k:=2) rfl (qu _)) (qd (k:=0) rfl (qu _)) ?_;refine xt 0 rfl qO qO ?_;exact qf ⟨_,rfl,rfl,rfl⟩
 |3,_=>
  refine qb ?_;intros;refine qe rfl (fun h=>absurd h (by decide)) (fun _=>?_);refine qb ?_;intros;refine qr (qd (k:=2) rfl (qu _)) (qd (k:=0) rfl (qu _)) ?_;refine xt 0 rfl qO qO ?_;exact qf ⟨_,rfl,rfl,rfl⟩
 |4,_=>
  refine qb ?_;intros;refine qe rfl (fun h=>absurd h (by decide)) (fun _=>?_);refine qb ?_;intros;refine qr (qd (k:=2) rfl (qu _)) (qd (k:=0) rfl (qu _)) ?_;refine xt 0 rfl qO qO ?_;exact qf ⟨_,rfl,rfl,rfl⟩
 |5,_=>
  refine qb ?_;intros;refine qe rfl (fun h=>absurd h (by decide)) (fun _=>?_);refine qb ?_;intros;refine qr (qd (k:=2) rfl (qu _)) (qd (k:=0) rfl (qu _)) ?_;refine xt 0 rfl qO qO ?_;exact qf ⟨_,rfl,rfl,rfl⟩
 |6,_=>
  refine qb ?_;intros;refine qe rfl (fun h=>absurd h (by decide)) (fun _=>?_);refine qb ?_;intros;refine qr (qd (k:=2) rfl (qu _)) (qd (k:=0) rfl (qu _)) ?_;refine xt 0 rfl qO qO ?_;exact qf ⟨_,rfl,rfl,rfl⟩
 |7,_=>
  refine qb ?_;intros;refine qe rfl (fun h=>absurd h (by decide)) (fun _=>?_);refine qb ?_;intros;refine qr (qd (k:=2) rfl (qu _)) (qd (k:=0) rfl (qu _)) ?_;refine xt 0 rfl qO qO ?_;exact qf ⟨_,rfl,rfl,rfl⟩
 |i+8,h=>omega
theorem HO{i:Nat}(hi:i<8):DK 88 [.int i] fun d=>d=fW i:=by
 refine qD qaR rfl qX fun Z0 lo=>?_
 match i,hi with
 |0,_=>
  refine qb ?_;intros;refine qr (qd (k:=2) rfl (qu _)) (qd (k:=1) rfl (qu _)) ?_;refine xt 1 rfl qO qO ?_;exact qf ⟨_,rfl,rfl,rfl⟩
 |1,_=>
  refine qb ?_;intros;refine qr (qd (k:=2) rfl (qu _)) (qd (k:=1) rfl (qu _)) ?_;refine xt 1 rfl qO qO ?_;exact qf ⟨_,rfl,rfl,rfl⟩
 |2,_=>
  refine qb ?_;intros;refine qr (qd (k:=2) rfl (qu _)) (qd (k:=1) rfl (qu _)) ?_;refine xt 1 rfl qO qO ?_;exact qf ⟨_,rfl,rfl,rfl⟩
 |3,_=>
  refine qb ?_;intros;refine qr (qd (k:=2) rfl (qu _)) (qd (k:=1) rfl (qu _)) ?_;refine xt 1 rfl qO qO ?_;exact qf ⟨_,rfl,rfl,rfl⟩
 |4,_=>
  refine qb ?_;intros;refine qr (qd (k:=2) rfl (qu _)) (qd (k:=1) rfl (qu _)) ?_;refine xt 1 rfl qO qO ?_;exact qf ⟨_,rfl,rfl,rfl⟩
 |5,_=>
  refine qb ?_;intros;refine qr (qd (k:=2) rfl (qu _)) (qd (k:=1) rfl (qu _)) ?_;refine xt 1 rfl qO qO ?_;exact qf ⟨_,rfl,rfl,rfl⟩
 |6,_=>
  refine qb ?_;intros;refine qr (qd (k:=2) rfl (qu _)) (qd (k:=1) rfl (qu _)) ?_;refine xt 1 rfl qO qO ?_;exact qf ⟨_,rfl,rfl,rfl⟩
 |7,_=>
  refine qb ?_;intros;refine qr (qd (k:=2) rfl (qu _)) (qd (k:=1) rfl (qu _)) ?_;refine xt 1 rfl qO qO ?_;exact qf ⟨_,rfl,rfl,rfl⟩
 |i+8,h=>omega
end Go.Ag
