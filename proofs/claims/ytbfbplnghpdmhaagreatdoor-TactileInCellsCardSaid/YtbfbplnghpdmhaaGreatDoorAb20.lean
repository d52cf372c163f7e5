/- Contracts of functions of the program over the abstract semantics. -/
import Derived.Test.YtbfbplnghpdmhaaGreatDoorAb19
set_option linter.unusedSimpArgs false
set_option maxHeartbeats 16000000
set_option linter.unusedVariables false
namespace Go.Ag
open Go.Ab Go.Proofs
def qp(p:Pic):List (List qc):=p.fs.map xd
theorem tH{p:Pic}{i:Nat}{f:Ft}(h:p.fs[i]?=some f):(p.fs.take (i+1)).map xd=(p.fs.take i).map xd++[xd f]:=by
 rw [List.take_add_one,h];simp
theorem Ze{p:Pic}(hv:∀f∈p.fs,zd f=true)(hn:p.fs.length<1000):DK 46 [yW p] fun d=>d=zN (qp p):=by
 refine qD qbP rfl xa fun Z0 lo=>?_;refine qb ?_;intros;refine qm (fun m E S nk=>∃(i:Nat) (out:List (List qc)),i+m=p.fs.length/\out=(p.fs.take i).map xd/\E=[(1,.one (.ptr 0 0)),(3,.one (.own 1 0 out.length 1)),(4,.int i)]/\S=[(0,.cells (jR p)),(1,.data (out.map qL))]/\nk=2)
  ⟨p.fs.length,_,_,_,[],?wk,0,[],oM,rfl,rfl,rfl,rfl⟩ ?_
 case wk=>exact ql
 rintro m E S nk ⟨i,out,hi,ho,rfl,rfl,rfl⟩;refine qb ?_;intros;refine qd rfl (fun hi2=>?_) (fun hi2=>?_)
 ·have hi2:i<p.fs.length:=by have:=xL hi2;omega
  obtain⟨f,hf⟩:∃f,p.fs[i]?=some f:=⟨_,zge hi2⟩;have e1:=ZK hf;have hol:out.length=i:=by rw [ho,List.length_map,List.length_take];omega
  refine qb ?_;intros;refine qk rfl rfl (fK (hv f (zmg hf))) ?_;rintro _ rfl;refine qb ?_;intros;refine qY (m:=1) (q:=[qL (xd f)]) rfl rfl rfl (qI _ (by rw [List.length_map];omega)) ⟨rfl,rfl,_,rfl,rfl⟩ (by omega) (by omega) (by decide) rfl ?_;rw [show out.map qL++[qL (xd f)]=(out++[xd f]).map qL by simp,show out.length+1=(out++[xd f]).length by simp];refine qb ?_;intros;refine⟨m-1,by omega,_,_,_,[(1,3)],?wk1,i+1,out++[xd f],by omega,by rw [ho,tH hf],rfl,rfl,rfl⟩
  case wk1=>exact ql
 ·have hi2:i=p.fs.length:=by have:=xP hi2;omega
  subst hi2;rw [List.take_length] at ho;have hol:(out.map qL).length=out.length*1:=by simp
  refine qb ?_;intros;refine qu (qe (k:=2) rfl (qy _)) (qe (k:=1) rfl (qy _)) ?_;refine xn 1 rfl qR qR ?_;refine qf ⟨_,rfl,rfl,?_⟩;rw [qp,<-ho];rfl
def dR(p:Pic)(i:Nat)(L:List FD):Prop:=L.length=p.fs.length/\∀(j:Nat) f,j<i->p.fs[j]?=some f->L[j]?=some (qL (xd f))
theorem dR.all{p:Pic}{L:List FD}(h:dR p p.fs.length L):L=(qp p).map qL:=by
 refine List.ext_getElem? fun j=>?_;by_cases hj:j<p.fs.length
 ·rw [h.2 j _ hj (zge hj)];simp [qp,zge hj]
 ·rw [List.getElem?_eq_none (by rw [h.1];omega),List.getElem?_eq_none (by simp [qp];omega)]
theorem dR.step{p:Pic}{L:List FD}{i:Nat}{f:Ft}(h:dR p i L)(hf:p.fs[i]?=some f):dR p (i+1) (L.set i (qL (xd f))):=by
 have hi:=(zgs hf).1;refine⟨by rw [List.length_set];exact h.1,fun j g hj hg=>?_⟩;rw [List.getElem?_set];by_cases hij:i=j
 ·subst hij;rw [hf] at hg;obtain rfl:=zsi hg;rw [if_pos rfl,if_pos (by rw [h.1];exact hi)]
 ·rw [if_neg hij];exact h.2 j g oM hg
def Xz(r:List Int):FD:=.sl 1 r.length (r.map iF)
def fY(R:List (List Int)):DV:=.one (.f (.sl 1 R.length (R.map Xz)))
theorem G3{cs:List (List Int)}{i:Nat}{c:List Int}(h:cs[i]?=some c):xK (cs.map Xz) (i*1) 1=some [Xz c]:=by
 have hi:i<cs.length:=(zgs h).1;rw [yj (by simp;omega)];rw [Nat.mul_one,List.drop_eq_getElem_cons (by simpa using hi)];have:cs[i]=c:=(zgs h).2;simp [this]
def J0(l:List (List qc)):List (List Int):=l.map fun a=>l.map fun b=>x8 a b
def KY(p:Pic):List (List Int):=if qx p=true then J0 (qp p) else []
theorem qT{p:Pic}(h:qx p=true):(1<=p.fs.length/\p.fs.length<=8)/\(∀f∈p.fs,QR p f=true)/\yz p=true/\jF p=true:=by
 simp only [qx,xD,List.all_eq_true] at h;obtain⟨⟨h1,h2⟩,h3⟩:=h;refine⟨?_,h3,h1,h2⟩;simp only [jF,xD,xV] at h2;exact h2.2
theorem zM{p:Pic}(h:qx p=true):∀f∈p.fs,zd f=true:=fun f hf=>by
 have:=(qT h).2.1 f hf;rw [QR,xD] at this;exact this.1
theorem vX{p:Pic}(h:qx p=true):∀l∈qp p,(∀q∈l,zP q=true)/\l.length<=3600:=fun l hl=>by
 obtain⟨f,hf,rfl⟩:=List.mem_map.1 hl;exact⟨Zx (zM h f hf),Xv (zM h f hf)⟩
theorem kL{l:List qc}(h:∀q∈l,zP q=true):vi l:=fun q hq=>by
 have:=h q hq;rw [zu] at this;unfold qE;omega
theorem nG{p:Pic}(hF:Xr p):DK 47 [yW p] fun d=>d=fY (KY p):=by
 refine qD qbO rfl xa fun Z0 lo=>?_;refine qb ?_;intros;refine qk rfl rfl (JF hF) ?_;rintro _ rfl;refine qb ?_;intros;refine qd rfl (fun hv=>?_) (fun hv=>?_)
 ·have hv:¬qx p=true:=by simpa using hv
  refine qb ?_;intros;refine cG 2 1 rfl ?_;refine qf ⟨_,rfl,rfl,?_⟩;rw [KY,if_neg hv];rfl
 ·have hv:qx p=true:=by simpa using hv
  have hT:KY p=J0 (qp p):=by rw [KY,if_pos hv]
  have hsm:=vX hv;have hpl:(qp p).length=p.fs.length:=by simp [qp]
  have hl8:=(qT hv).1;generalize hl:qp p=l at *;refine qb ?_;intros;refine qk rfl rfl (Ze (zM hv) oM) ?_;rintro _ rfl;rw [hl];refine qb ?_;intros;refine qm (fun m E S nk=>∃(i:Nat) (R:List (List Int)),i+m=l.length/\R=(l.take i).map (fun a=>l.map fun b=>x8 a b)/\E=[(3,.one (.own 0 0 R.length 1)),(4,zN l),(5,.int i)]/\S=[(0,.data (R.map Xz))]/\nk=1)
   ⟨l.length,_,_,_,[(0,1)],?wk,0,[],oM,rfl,rfl,rfl,rfl⟩ ?_
  case wk=>exact ql
  rintro m E S nk ⟨i,R,hi,hR,rfl,rfl,rfl⟩;refine qb ?_;intros;refine qd rfl (fun hi2=>?_) (fun hi2=>?_)
  ·have hi2:i<l.length:=by have:=xL hi2;omega
   obtain⟨a,ha⟩:∃r,l[i]?=some r:=⟨_,zge hi2⟩;have e1:=jv ha;have hRl:R.length=i:=by rw [hR,List.length_map,List.length_take];omega
   refine qb ?_;intros;refine qm (fun m E S nk=>∃(k:Nat) (r:List Int),k+m=l.length/\r=(l.take k).map (x8 a)/\E=[(3,.one (.own 0 0 R.length 1)),(4,zN l),(5,.int i),(6,.one (.own 1 0 r.length 1)),(7,.int k)]/\S=[(0,.data (R.map Xz)),(1,.data (r.map iF))]/\nk=2)
    ⟨l.length,_,_,_,[],?wk2,0,[],oM,rfl,rfl,rfl,rfl⟩ ?_
   case wk2=>exact ql
   rintro m2 E S nk ⟨k,r,hk,hr,rfl,rfl,rfl⟩;refine qb ?_;intros;refine qd rfl (fun hk2=>?_) (fun hk2=>?_)
   ·have hk2:k<l.length:=by have:=xL hk2;omega
    obtain⟨b,hb⟩:∃r,l[k]?=some r:=⟨_,zge hk2⟩;have e2:=jv hb;have hrl:r.length=k:=by rw [hr,List.length_map,List.length_take];omega
    have hsa:=hsm a (zmg ha);have hsb:=hsm b (zmg hb);refine qb ?_;intros;refine qk rfl rfl (v6 (kL hsa.1) (kL hsb.1) oM oM) ?_;rintro _ rfl;refine qb ?_;intros;refine qY (m:=1) (q:=[iF (x8 a b)]) rfl rfl rfl (qI _ (by rw [List.length_map];omega)) ⟨rfl,rfl,_,rfl,rfl⟩ (by omega) (by omega) (by decide) rfl ?_;rw [show r.map iF++[iF (x8 a b)]=(r++[x8 a b]).map iF by simp,show r.length+1=(r++[x8 a b]).length by simp];refine qb ?_;intros;refine⟨m2-1,by omega,_,_,_,[(1,3)],?wk3,k+1,r++[x8 a b],by omega,by rw [List.take_add_one,hb,hr];simp,rfl,rfl,rfl⟩
    case wk3=>exact ql
   ·have hk2:k=l.length:=by have:=xP hk2;omega
    subst hk2;have hrl:(r.map iF).length=r.length*1:=by simp
    rw [List.take_length] at hr;refine qu (qe (k:=3) rfl (qe (k:=4) rfl (qe (k:=5) rfl (qe (k:=6) rfl (qy _))))) (qe (k:=0) rfl (qe (k:=1) rfl (qy _))) ?_;refine xn 1 rfl qR qR ?_;refine qb ?_;intros;refine qY (m:=1) (q:=[Xz r]) rfl rfl rfl (qI _ (by rw [List.length_map];omega)) ⟨rfl,rfl,_,rfl,rfl⟩ (by omega) (by omega) (by decide) rfl ?_;rw [show R.map Xz++[Xz r]=(R++[r]).map Xz by simp,show R.length+1=(R++[r]).length by simp];refine qb ?_;intros;refine⟨m-1,by omega,_,_,_,[(0,3)],?wk4,i+1,R++[r],by omega,by rw [List.take_add_one,ha,hR,hr];simp,rfl,rfl,rfl⟩
    case wk4=>exact ql
  ·have hi2:i=l.length:=by have:=xP hi2;omega
   subst hi2;rw [List.take_length] at hR;have hRl:(R.map Xz).length=R.length*1:=by simp
   refine qb ?_;intros;refine qu (qe (k:=2) rfl (qy _)) (qe (k:=0) rfl (qy _)) ?_;refine xn 0 rfl qR qR ?_;refine qf ⟨_,rfl,rfl,?_⟩;rw [hT,J0,<-hR];rfl
open Classical in
noncomputable def Q3 (g:Int) (l:List qc):Bool:=decide (∃cs,ClS g (qr l) cs/\cs.length=1)
open Classical in
theorem E7{g:Int}{l:List qc}{cs:List (List qc)}(h:ClS g (qr l) cs):Q3 g l=decide (cs.length=1):=by
 unfold Q3;by_cases h1:cs.length=1
 ·rw [decide_eq_true h1];exact decide_eq_true ⟨cs,h,h1⟩
 ·rw [decide_eq_false h1];exact decide_eq_false fun⟨cs',h',h2⟩=>h1 (by rw [h.uniq h'];exact h2)
def dT(g:Int)(l:List (List qc))(i:Nat):Prop:=(∃a,l[i]?=some a/\Q3 g a=false)/\∀(j:Nat) b,j<i->l[j]?=some b->Q3 g b=true
def aB(g:Int)(l:List (List qc))(i k:Nat):Prop:=(∃a b,i<k/\l[i]?=some a/\l[k]?=some b/\x8 a b<=g)/\∀(i' k':Nat) a b,i'<k'->(i'<i\/(i'=i/\k'<k))->l[i']?=some a->l[k']?=some b->¬x8 a b<=g
def jK(g:Int)(l:List (List qc)):Prop:=∀a∈l,Q3 g a=true
def jJ(g:Int)(l:List (List qc)):Prop:=∀(i k:Nat) a b,i<k->l[i]?=some a->l[k]?=some b->¬x8 a b<=g
abbrev oB:=Int × Int × Int
inductive Chk (p:Pic):oB->Prop
 |arg (h:¬qx p=true):Chk p (0,0,1)
 |bad1 (i:Nat) (h:qx p=true) (hb:dT p.gap (qp p) i):Chk p ((i:Int),(i:Int),130)
 |bad2 (i k:Nat) (h:qx p=true) (hg:jK p.gap (qp p)) (hb:aB p.gap (qp p) i k):Chk p ((i:Int),(k:Int),140)
 |ok (h:qx p=true) (hg:jK p.gap (qp p)) (hb:jJ p.gap (qp p)):Chk p (0,0,0)
theorem dT.not{g:Int}{l:List (List qc)}{i:Nat}(h:dT g l i)(hg:jK g l):False:=by
 obtain⟨⟨a,ha,hb⟩,_⟩:=h;rw [hg a (zmg ha)] at hb;cases hb
theorem aB.not{g:Int}{l:List (List qc)}{i k:Nat}(h:aB g l i k)(hg:jJ g l):False:=by
 obtain⟨⟨a,b,h1,h2,h3,h4⟩,_⟩:=h;exact hg i k a b h1 h2 h3 h4
theorem dT.uniq{g:Int}{l:List (List qc)}{i j:Nat}(h:dT g l i)(h':dT g l j):i=j:=by
 obtain⟨⟨a,ha,hb⟩,h2⟩:=h;obtain⟨⟨a',ha',hb'⟩,h2'⟩:=h';rcases Nat.lt_trichotomy i j with hl|hl|hl
 ·have:=h2' i a hl ha;rw [hb] at this;cases this
 ·exact hl
 ·have:=h2 j a' hl ha';rw [hb'] at this;cases this
theorem aB.uniq{g:Int}{l:List (List qc)}{i k i' k':Nat}(h:aB g l i k)(h':aB g l i' k'):i=i'/\k=k':=by
 obtain⟨⟨a,b,g1,g2,g3,g4⟩,h2⟩:=h;obtain⟨⟨a',b',g1',g2',g3',g4'⟩,h2'⟩:=h';have n1:¬(i<i'\/(i=i'/\k<k')):=fun hl=>h2' i k a b g1 hl g2 g3 g4;have n2:¬(i'<i\/(i'=i/\k'<k)):=fun hl=>h2 i' k' a' b' g1' hl g2' g3' g4';omega
theorem Chk.uniq{p:Pic}{r r':oB}(h:Chk p r)(h':Chk p r'):r=r':=by
 cases h with
 |arg h=>cases h' with
  |arg=>rfl
  |bad1 i h'=>exact absurd h' h
  |bad2 i k h'=>exact absurd h' h
  |ok h'=>exact absurd h' h
 |bad1 i h hb=>cases h' with
  |arg h'=>exact absurd h h'
  |bad1 j _ hb'=>rw [hb.uniq hb']
  |bad2 j k _ hg=>exact (hb.not hg).elim
  |ok _ hg=>exact (hb.not hg).elim
 |bad2 i k h hg hb=>cases h' with
  |arg h'=>exact absurd h h'
  |bad1 j _ hb'=>exact (hb'.not hg).elim
  |bad2 j m _ _ hb'=>obtain⟨rfl,rfl⟩:=hb.uniq hb';rfl
  |ok _ _ hb'=>exact (hb.not hb').elim
 |ok h hg hb=>cases h' with
  |arg h'=>exact absurd h h'
  |bad1 j _ hb'=>exact (hb'.not hg).elim
  |bad2 j m _ _ hb'=>exact (hb'.not hb).elim
  |ok=>rfl
def tD(r:oB):DV:=.agg [.f (.c (.int .i64 r.1)),.f (.c (.int .i64 r.2.1)),.f (.c (.int .i64 r.2.2))]
theorem UG{l:List (List qc)}{i:Nat}{a:List qc}(h:l[i]?=some a):(J0 l)[i]?=some (l.map (x8 a)):=by
 simp [J0,h]
theorem JE{p:Pic}(hF:Xr p):DK 16 [yW p] fun d=>∃r,Chk p r/\d=tD r:=by
 refine qD qcf rfl xa fun Z0 lo=>?_;refine qb ?_;intros;refine qk rfl rfl (JF hF) ?_;rintro _ rfl;refine qb ?_;intros;refine qd rfl (fun hv=>?_) (fun hv=>?_)
 ·have hv:¬qx p=true:=by simpa using hv
  refine qb ?_;intros;exact qf ⟨_,rfl,rfl,_,.arg hv,rfl⟩
 ·have hv:qx p=true:=by simpa using hv
  have hT:KY p=J0 (qp p):=by rw [KY,if_pos hv]
  have hsm:=vX hv;have hpl:(qp p).length=p.fs.length:=by simp [qp]
  have hl8:=(qT hv).1;generalize hl:qp p=l at *;refine qb ?_;intros;refine qk rfl rfl (Ze (zM hv) oM) ?_;rintro _ rfl;rw [hl];refine qb ?_;intros;refine qk rfl rfl (nG hF) ?_;rintro _ rfl;rw [hT];refine qb ?_;intros;refine qm (fun m E S nk=>∃i:Nat,i+m=l.length/\(∀(j:Nat) b,j<i->l[j]?=some b->Q3 p.gap b=true)/\E=[(1,.one (.ptr 0 0)),(2,.one (.ptr 1 0)),(3,zN l),(4,fY (J0 l)),(5,.int i)]/\S=[(0,.cells (jR p)),(1,.cells [.f (.c (.int .i64 0)),.f (.c (.int .i64 0)),.f (.c (.int .i64 0))])]/\nk=2)
   ⟨l.length,_,_,_,[],?wk,0,oM,fun j b hj=>oM,rfl,rfl,rfl⟩ ?_
  case wk=>exact ql
  rintro m E S nk ⟨i,hi,hok,rfl,rfl,rfl⟩;refine qb ?_;intros;refine qd rfl (fun hi2=>?_) (fun hi2=>?_)
  ·have hi2:i<l.length:=by have:=xL hi2;omega
   obtain⟨a,ha⟩:∃r,l[i]?=some r:=⟨_,zge hi2⟩;have e1:=jv ha;have hsa:=hsm a (zmg ha);refine qb ?_;intros;refine qk rfl rfl (Vp (kL hsa.1) oM) ?_;rintro _ ⟨cs,rfl,hcs⟩;have hc1:=E7 hcs;refine qb ?_;intros;refine qd rfl (fun hb=>?_) (fun hb=>?_)
   ·have hb:¬(cs.length:Int)=1:=Kl hb;refine qb ?_;intros;exact qf ⟨_,rfl,rfl,_,.bad1 i hv (by rw [hl];exact⟨⟨a,ha,by rw [hc1];exact decide_eq_false (by omega)⟩,hok⟩),rfl⟩
   ·have hb:(cs.length:Int)=1:=JN hb;refine qb ?_;intros;refine⟨m-1,oM,_,_,_,[],?wk1,i+1,oM,?hno,rfl,rfl,rfl⟩
    case hno=>
     intro j b hj hbj;by_cases hji:j=i
     ·subst hji;rw [ha] at hbj;rw [<-zsi hbj,hc1];exact decide_eq_true oM
     ·exact hok j b oM hbj
    case wk1=>exact ql
  ·have hi2:i=l.length:=by have:=xP hi2;omega
   subst hi2;have hg1:jK p.gap (qp p):=fun a ha=>by
    rw [hl] at ha;obtain⟨j,hj⟩:=List.getElem?_of_mem ha;exact hok j a (zgs hj).1 hj
   refine qb ?_;intros;refine qm (fun m E S nk=>∃i:Nat,i+m=l.length/\(∀(i' k':Nat) a b,i'<k'->i'<i->l[i']?=some a->l[k']?=some b->¬x8 a b<=p.gap)/\E=[(1,.one (.ptr 0 0)),(2,.one (.ptr 1 0)),(3,zN l),(4,fY (J0 l)),(6,.int i)]/\S=[(0,.cells (jR p)),(1,.cells [.f (.c (.int .i64 0)),.f (.c (.int .i64 0)),.f (.c (.int .i64 0))])]/\nk=2)
    ⟨l.length,_,_,_,[],?wk2,0,oM,fun i' k' a b _ h=>oM,rfl,rfl,rfl⟩ ?_
   case wk2=>exact ql
   rintro m2 E S nk ⟨i,hi3,hok2,rfl,rfl,rfl⟩;refine qb ?_;intros;refine qd rfl (fun hi4=>?_) (fun hi4=>?_)
   ·have hi4:i<l.length:=by have:=xL hi4;omega
    obtain⟨a,ha⟩:∃r,l[i]?=some r:=⟨_,zge hi4⟩;have e1:=G3 (UG ha);refine qb ?_;intros;refine qm (fun m E S nk=>∃k:Nat,k+m=l.length/\i<k/\(∀(k':Nat) b,i<k'->k'<k->l[k']?=some b->¬x8 a b<=p.gap)/\E=[(1,.one (.ptr 0 0)),(2,.one (.ptr 1 0)),(3,zN l),(4,fY (J0 l)),(6,.int i),(7,.int k)]/\S=[(0,.cells (jR p)),(1,.cells [.f (.c (.int .i64 0)),.f (.c (.int .i64 0)),.f (.c (.int .i64 0))])]/\nk=2)
     ⟨l.length-(i+1),_,_,_,[],?wk3,i+1,oM,oM,fun k' b _ h=>oM,rfl,rfl,rfl⟩ ?_
    case wk3=>exact ql
    rintro m3 E S nk ⟨k,hk,hik,hok3,rfl,rfl,rfl⟩;refine qb ?_;intros;refine qd rfl (fun hk2=>?_) (fun hk2=>?_)
    ·have hk2:k<l.length:=by have:=xL hk2;omega
     obtain⟨b,hb⟩:∃r,l[k]?=some r:=⟨_,zge hk2⟩;have e2:=gA (show (l.map (x8 a))[k]?=some (x8 a b) by simp [hb]);have hml:(l.map (x8 a)).length=l.length:=List.length_map _;have htl:(J0 l).length=l.length:=by simp [J0]
     have hi5:i<(J0 l).length:=by omega
     refine qb ?_;intros;refine qd rfl (fun hd=>?_) (fun hd=>?_)
     ·have hd:=xL hd;refine qb ?_;intros;refine qf ⟨_,rfl,rfl,_,.bad2 i k hv hg1 ?_,rfl⟩;rw [hl];refine⟨⟨a,b,hik,ha,hb,hd⟩,fun i' k' a' b' h1 h2 h3 h4=>?_⟩;rcases h2 with h2|⟨rfl,h2⟩
      ·exact hok2 i' k' a' b' h1 h2 h3 h4
      ·rw [ha] at h3;rw [<-zsi h3];exact hok3 k' b' h1 h2 h4
     ·have hd:=xP hd;refine qb ?_;intros;refine⟨m3-1,oM,_,_,_,[],?wk4,k+1,oM,oM,?hno2,rfl,rfl,rfl⟩
      case hno2=>
       intro k' b' h1 h2 h3;by_cases hkk:k'=k
       ·subst hkk;rw [hb] at h3;rw [<-zsi h3];exact hd
       ·exact hok3 k' b' h1 oM h3
      case wk4=>exact ql
    ·have hk2:k=l.length:=by have:=xP hk2;omega
     refine qb ?_;intros;refine⟨m2-1,oM,_,_,_,[],?wk5,i+1,oM,?hno3,rfl,rfl,rfl⟩
     case hno3=>
      intro i' k' a' b' h1 h2 h3 h4;by_cases hii:i'=i
      ·subst hii;rw [ha] at h3;rw [<-zsi h3];exact hok3 k' b' h1 (by have:=(zgs h4).1;omega) h4
      ·exact hok2 i' k' a' b' h1 oM h3 h4
     case wk5=>exact ql
   ·have hi4:i=l.length:=by have:=xP hi4;omega
    subst hi4;refine qb ?_;intros;refine qf ⟨_,rfl,rfl,_,.ok hv hg1 ?_,rfl⟩;rw [hl];exact fun i k a b h1 h2 h3=>hok2 i k a b h1 (zgs h2).1 h2 h3
theorem vu{i:Nat}{q:qc}(hq:qE 1000000 q):vi (qS i q):=fun x hx=>by
 unfold qS wQ at hx;obtain⟨k,hk,rfl⟩:=List.mem_map.1 hx;have:=List.mem_range.1 (List.mem_filter.1 hk).1;unfold qE at *;simp only [qM];omega
theorem z7(i:Nat)(q:qc):(qS i q).length<=12:=Xi _ _ _
def kH(p:Pic)(q:qc):Bool:=((decide (0<=q.1)&&decide (0<=q.2))&&(decide (q.1<=60)&&decide (q.2<=60)))&&(decide (2*(q.1+2)<=p.w)&&decide (3*(q.2+1)<=p.h))
def ZM(g:Int)(d l:List qc):Bool:=!decide (x8 d l<=g)
def ya(p:Pic)(i:Nat)(q:qc):Bool:=kH p q&&((qp p).all (ZM p.gap (qS i q))&&decide (x8 (qS i q) (((qp p)[i]?).getD [])<=3*p.gap))
theorem qa1{p:Pic}{i:Nat}{q:qc}(hv:qx p=true)(hi:i<p.fs.length)(hq:qE 1000000 q):DK 79 [yW p,.int i,zg q] fun d=>d=.bool (ya p i q):=by
 refine qD qbn rfl xa fun Z0 lo=>?_;have hl8:=(qT hv).1;have hgap:2<=p.gap/\p.gap<=6:=by
  have:=(qT hv).2.2.2;simp only [jF,xD,xV] at this;exact this.1
 have hds:=vu (i:=i) hq;have hdl:=z7 i q;have hsm:=vX hv;have hpl:(qp p).length=p.fs.length:=by simp [qp]
 have hrp:=Ze (zM hv) oM;have hlp:=Zf (i:=i) (q:=q) oM hq;unfold qE at hq;have w1:IntKind.i64.wrap (q.1+2)=q.1+2:=qo oM oM;have w2:IntKind.i64.wrap (2*(q.1+2))=2*(q.1+2):=qo oM oM;have w3:IntKind.i64.wrap (q.2+1)=q.2+1:=qo oM oM;have w4:IntKind.i64.wrap (3*(q.2+1))=3*(q.2+1):=qo oM oM;have w5:IntKind.i64.wrap (3*p.gap)=3*p.gap:=qo oM oM;refine qb ?_;intros;refine qd rfl (fun ht=>?_) (fun ht=>?_)
 ·rw [xG,xG,xG,xG,xG,w1,w2,w3,w4] at ht;simp only [Bool.or_eq_true,xV] at ht;have hb:kH p q=false:=by
   rw [Bool.eq_false_iff];intro h2;simp only [kH,xD,xV] at h2;omega
  refine qb ?_;intros;refine qf ⟨_,rfl,rfl,?_⟩;rw [ya,hb,Bool.false_and]
 ·rw [xG,xG,xG,xG,xG,w1,w2,w3,w4] at ht;simp only [Bool.or_eq_false_iff,decide_eq_false_iff_not] at ht;have hb:kH p q=true:=by
   simp only [kH,xD,xV];omega
  have hfit:ya p i q=((qp p).all (ZM p.gap (qS i q))&&decide (x8 (qS i q) (((qp p)[i]?).getD [])<=3*p.gap)):=by rw [ya,hb,Bool.true_and]
  rw [hfit];clear hfit ht;generalize qp p=l at *;refine qb ?_;intros;refine qk rfl rfl hrp ?_;rintro _ rfl;refine qk rfl rfl hlp ?_;rintro _ rfl;generalize qS i q=dd at *;refine qb ?_;intros;refine qm (fun m E S nk=>∃k:Nat,k+m=l.length/\(∀(j:Nat) a,j<k->l[j]?=some a->ZM p.gap dd a=true)/\E=[(1,.int i),(3,.one (.ptr 0 0)),(5,.one (.ptr 1 0)),(7,zN l),(8,qz dd),(9,.int k)]/\S=[(0,.cells (jR p)),(1,.cells [.f (.c (.int .i64 q.1)),.f (.c (.int .i64 q.2))])]/\nk=2)
   ⟨l.length,_,_,_,[],?wk,0,oM,fun j a hj=>oM,rfl,rfl,rfl⟩ ?_
  case wk=>exact ql
  rintro m E S nk ⟨k,hk,hok,rfl,rfl,rfl⟩;refine qb ?_;intros;refine qd rfl (fun hk2=>?_) (fun hk2=>?_)
  ·have hk2:k<l.length:=by have:=xL hk2;omega
   obtain⟨a,ha⟩:∃r,l[k]?=some r:=⟨_,zge hk2⟩;have e1:=jv ha;have hsa:=hsm a (zmg ha);refine qb ?_;intros;refine qk rfl rfl (v6 hds (kL hsa.1) oM oM) ?_;rintro _ rfl;refine qb ?_;intros;refine qd rfl (fun hd=>?_) (fun hd=>?_)
   ·refine qb ?_;intros;refine qf ⟨_,rfl,rfl,?_⟩;rw [ky ha (by rw [ZM,hd];rfl),Bool.false_and]
   ·refine qb ?_;intros;refine⟨m-1,oM,_,_,_,[],?wk1,k+1,oM,?hno,rfl,rfl,rfl⟩
    case hno=>
     intro j b hj hb;by_cases hjk:j=k
     ·subst hjk;rw [ha] at hb;rw [<-zsi hb,ZM,hd];rfl
     ·exact hok j b oM hb
    case wk1=>exact ql
  ·have hk2:k=l.length:=by have:=xP hk2;omega
   subst hk2;obtain⟨a,ha⟩:∃r,l[i]?=some r:=⟨_,zge oM⟩;have e1:=jv ha;have hsa:=hsm a (zmg ha);rw [ZU hok,Bool.true_and,ha];refine qb ?_;intros;rw [w5];refine qk rfl rfl (v6 hds (kL hsa.1) oM oM) ?_;rintro _ rfl;refine qb ?_;intros;exact qf ⟨_,rfl,rfl,rfl⟩
def jT(g:Int)(i:Nat)(a:qc)(k:Nat)(b:qc):Bool:=decide (x8 (qS i a) (qS k b)<=g)
def QO(p:Pic)(l:List qc)(i:Nat):Bool:=ya p i (xH l i)&&(List.range i).all fun k=>!jT p.gap i (xH l i) k (xH l k)
def YW(p:Pic)(l:List qc):Bool:=decide (l.length<=p.fs.length)&&(List.range l.length).all (QO p l)
theorem WB{f:Nat->Bool}{n i:Nat}(hi:i<n)(h:f i=false):(List.range n).all f=false:=by
 rw [List.all_eq_false];exact⟨i,List.mem_range.2 hi,by rw [h];decide⟩
theorem aY{f:Nat->Bool}{n:Nat}(h:∀i,i<n->f i=true):(List.range n).all f=true:=by
 rw [List.all_eq_true];exact fun i hi=>h i (List.mem_range.1 hi)
def yQ(p:Pic)(l:List qc):Bool:=decide (l.length=p.fs.length)&&YW p l
def kR(p:Pic)(i y n:Nat):List qc:=((List.range n).map fun x=>(((x:Nat):Int),((y:Nat):Int))).filter (ya p i)
def QW(p:Pic)(i w n:Nat):List qc:=(List.range n).flatMap fun y=>kR p i y w
def jh(p:Pic)(i:Nat):List qc:=QW p i ((p.w/2).toNat-1) (p.h/3).toNat
theorem CB{p:Pic}{i y n:Nat}(h:ya p i ((n:Int),(y:Int))=true):kR p i y (n+1)=kR p i y n++[((n:Int),(y:Int))]:=by
 simp [kR,List.range_succ,h]
theorem iM{p:Pic}{i y n:Nat}(h:ya p i ((n:Int),(y:Int))=false):kR p i y (n+1)=kR p i y n:=by
 simp [kR,List.range_succ,h]
theorem JM{p:Pic}{i w n:Nat}:QW p i w (n+1)=QW p i w n++kR p i n w:=by
 simp [QW,List.range_succ]
theorem VG(p:Pic)(i y n:Nat):(kR p i y n).length<=n:=by
 unfold kR;exact Nat.le_trans (List.length_filter_le _ _) (by simp)
theorem Yq(p:Pic)(i w:Nat):∀n,(QW p i w n).length<=n*w
 |0=>by simp [QW]
 |n+1=>by
  have h1:=Yq p i w n;have h2:=VG p i n w;rw [JM,List.length_append,Nat.add_mul];omega
theorem SU{p:Pic}{i:Nat}(hv:qx p=true)(hi:i<p.fs.length):DK 48 [yW p,.int i] fun d=>d=qz (jh p i):=by
 refine qD qbN rfl xa fun Z0 lo=>?_;have hh:=(qT hv).2.2.1;simp only [yz,xD,xV] at hh;obtain⟨⟨⟨hw1,hw2⟩,hw3⟩,⟨hh1,hh2⟩,hh3⟩:=hh;rw [Int.tmod_eq_emod_of_nonneg (by omega)] at hw3 hh3;obtain⟨nw,hnw⟩:∃nw:Nat,nw=(p.w/2).toNat-1:=⟨_,rfl⟩;obtain⟨nh,hnh⟩:∃nh:Nat,nh=(p.h/3).toNat:=⟨_,rfl⟩;have hw4:p.w=2*((nw:Int)+1):=by omega
 have hh4:p.h=3*(nh:Int):=by omega
 have hnw2:nw<30:=by omega
 have hnh2:nh<=20:=by omega
 refine qb ?_;intros;refine qm (fun m E S nk=>∃(y:Nat) (out:List qc),y+m=nh/\out=QW p i nw y/\E=[(1,.int i),(2,.one (.ptr 0 0)),(5,.one (.own 1 0 out.length 2)),(6,.int y)]/\S=[(0,.cells (jR p)),(1,.data (out.flatMap qh))]/\nk=2)
  ⟨nh,_,_,_,[],?wk,0,[],oM,rfl,rfl,rfl,rfl⟩ ?_
 case wk=>exact ql
 rintro m E S nk ⟨y,out,hy,ho,rfl,rfl,rfl⟩;have w1:IntKind.i64.wrap ((y:Int)+1)=(y:Int)+1:=qo oM oM;have w2:IntKind.i64.wrap (3*((y:Int)+1))=3*((y:Int)+1):=qo oM oM;refine qb ?_;intros;refine qd rfl (fun ht=>?_) (fun ht=>?_)
 ·have ht:=xL ht;rw [w1,w2] at ht;have hy2:y<nh:=by omega
  have hcl:=Yq p i nw y;have hcm:y*nw<=20*30:=Nat.mul_le_mul oM oM;refine qb ?_;intros;refine qm (fun m E S nk=>∃(x:Nat) (o2:List qc),x+m=nw/\o2=out++kR p i y x/\E=[(1,.int i),(2,.one (.ptr 0 0)),(5,.one (.own 1 0 o2.length 2)),(6,.int y),(7,.int x)]/\S=[(0,.cells (jR p)),(1,.data (o2.flatMap qh))]/\nk=2)
   ⟨nw,_,_,_,[],?wk2,0,out,by omega,by simp [kR],rfl,rfl,rfl⟩ ?_
  case wk2=>exact ql
  rintro m2 E S nk ⟨x,o2,hx,ho2,rfl,rfl,rfl⟩;have w3:IntKind.i64.wrap ((x:Int)+2)=(x:Int)+2:=qo oM oM;have w4:IntKind.i64.wrap (2*((x:Int)+2))=2*((x:Int)+2):=qo oM oM;have hrl:=VG p i y x;have hol:o2.length<=1000:=by rw [ho2,List.length_append,ho];omega
  have hfl:=xc o2;refine qb ?_;intros;refine qd rfl (fun ht2=>?_) (fun ht2=>?_)
  ·have ht2:=xL ht2;rw [w3,w4] at ht2;have hx2:x<nw:=by omega
   refine qb ?_;intros;refine qk rfl rfl (qa1 (i:=i) (q:=((x:Int),(y:Int))) hv hi (by unfold qE;simp only;omega)) ?_;rintro _ rfl;refine qb ?_;intros;refine qd rfl (fun hf=>?_) (fun hf=>?_)
   ·refine qb ?_;intros;refine qY (m:=1) (q:=qh ((x:Int),(y:Int))) rfl rfl rfl (qI _ hfl) ⟨rfl,rfl,_,rfl,rfl⟩ oM oM (by decide) rfl ?_;rw [show o2.flatMap qh++qh ((x:Int),(y:Int))=(o2++[((x:Int),(y:Int))]).flatMap qh by simp,show o2.length+1=(o2++[((x:Int),(y:Int))]).length by simp];refine qb ?_;intros;refine⟨m2-1,by omega,_,_,_,[(1,4)],?wk3,x+1,o2++[((x:Int),(y:Int))],by omega,by rw [CB hf,ho2,List.append_assoc],rfl,rfl,rfl⟩
    case wk3=>exact ql
   ·refine qb ?_;intros;refine⟨m2-1,by omega,_,_,_,[],?wk4,x+1,o2,by omega,by rw [iM hf,ho2],rfl,rfl,rfl⟩
    case wk4=>exact ql
  ·have ht2:=xP ht2;rw [w3,w4] at ht2;have hx2:x=nw:=by omega
   subst hx2;refine qb ?_;intros;refine⟨m-1,by omega,_,_,_,[],?wk5,y+1,o2,by omega,by rw [JM,ho2,ho],rfl,rfl,rfl⟩
   case wk5=>exact ql
 ·have ht:=xP ht;rw [w1,w2] at ht;have hy2:y=nh:=by omega
  subst hy2;have hfl:=xc out;refine qb ?_;intros;refine qu (qe (k:=4) rfl (qy _)) (qe (k:=1) rfl (qy _)) ?_;refine xn 1 rfl qR qR ?_;refine qf ⟨_,rfl,rfl,?_⟩;rw [jh,<-hnw,<-hnh,<-ho];rfl
theorem U7(w h:Int):oE 12 [.int w,.int h] fun d S nk=>∃n m:Nat,kz w=n/\kz h=m/\n<=200/\m<=200/\d=.agg [.f (.c (.int .i64 n)),.f (.c (.int .i64 m)),.own 2 0 m 1]/\S=[(2,.tree (xE (blankD n m)))]/\nk=3:=by
 refine Xp qch rfl xa fun Z0 lo=>?_;obtain⟨n,hn,hn2⟩:=Jh w;obtain⟨m,hm,hm2⟩:=Jh h;refine qb ?_;intros;rw [show min (max w 0) 200=(n:Int) from hn,show min (max h 0) 200=(m:Int) from hm];refine IE 1 2 rfl rfl ?_;refine qu (qe (k:=4) rfl (qe (k:=5) rfl (qe (k:=6) rfl (qy _)))) (qe (k:=0) rfl (qe (k:=1) rfl (qe (k:=2) rfl (qy _)))) ?_;refine qm (fun k E S nk=>∃y:Nat,y+k=m/\E=[(4,.one (.ptr 0 0)),(5,.one (.ptr 1 0)),(6,.int y)]/\S=[(0,.cells [.f (.c (.int .i64 0)),.f (.c (.int .i64 0)),.f (.c .nils)]),(1,.cells [.f (.c (.int .i64 n)),.f (.c (.int .i64 m)),.own 2 0 y 1]),(2,.tree (xE (blankD n y)))]/\nk=3) ⟨m,_,_,_,[],?wk,0,oM,rfl,rfl,rfl⟩ ?_
 case wk=>exact ql
 rintro k E S nk ⟨y,hy,rfl,rfl,rfl⟩;refine qb ?_;intros;refine qd rfl (fun ht=>?_) (fun ht=>?_)
 ·simp at ht;refine qb ?_;intros;refine EC [.c (.bool false)] rfl rfl rfl rfl ⟨rfl,rfl,trivial⟩ rfl (by decide) (Nat.le_refl _) oM oM ?_;refine qb ?_;intros;refine R9 rfl rfl rfl (by simp [xE,blankD]) rfl rfl (by rw [kU];simp) (by omega) (by omega) rfl ?_;rw [show xE (blankD n y)++[yM [.c (.bool false)] n]=xE (blankD n (y+1)) by rw [aW];simp [xE,blankD,List.replicate_succ']];refine qb ?_;intros;refine⟨k-1,oM,_,_,_,[(2,5)],?wk1,y+1,oM,rfl,rfl,rfl⟩
  case wk1=>exact ql
 ·simp at ht;obtain rfl:y=m:=by omega
  refine qb ?_;intros;refine qf ⟨_,rfl,rfl,_,qe (k:=2) rfl (qy _),n,y,hn,hm,hn2,hm2,rfl,rfl,rfl⟩
def Sz(w h:Nat)(d:qK):Prop:=d.length=h/\∀r∈d,r.length=w
def jB(d:qK)(x y:Nat):Bool:=match d[y]? with
 |some r=>(r[x]?).getD false
 |none=>false
def QH(d:qK)(x y:Nat)(b:Bool):qK:=match d[y]? with
 |some r=>d.set y (r.set x b)
 |none=>d
theorem Sz.row{w h:Nat}{d:qK}(hd:Sz w h d){y:Nat}(hy:y<h):∃r,d[y]?=some r/\r.length=w:=by
 have hl:y<d.length:=by rw [hd.1];exact hy
 exact⟨d[y],zge hl,hd.2 _ (List.getElem_mem hl)⟩
theorem Sz.cell{w h:Nat}{d:qK}(hd:Sz w h d){x y:Nat}(hx:x<w)(hy:y<h):∃r,d[y]?=some r/\r.length=w/\r[x]?=some (jB d x y):=by
 obtain⟨r,h1,h2⟩:=hd.row hy;refine⟨r,h1,h2,?_⟩;have:x<r.length:=by omega
 simp [jB,h1,zge this]
theorem Sz.set{w h:Nat}{d:qK}(hd:Sz w h d)(x y:Nat)(b:Bool):Sz w h (QH d x y b):=by
 unfold QH;split
 ·rename_i r hr;refine⟨by simpa using hd.1,fun q hq=>?_⟩;rcases List.mem_or_eq_of_mem_set hq with h|h
  ·exact hd.2 q h
  ·subst h;simpa using hd.2 r (zmg hr)
 ·exact hd
theorem rZ{w h:Nat}{d:qK}(hd:Sz w h d){x y:Nat}(hx:x<w)(hy:y<h)(b:Bool)(i j:Nat):jB (QH d x y b) i j=if i=x/\j=y then b else jB d i j:=by
 obtain⟨r,h1,h2⟩:=hd.row hy;have hyl:y<d.length:=by rw [hd.1];exact hy
 simp only [QH,h1,jB,List.getElem?_set];by_cases e:y=j
 ·subst e;rw [if_pos rfl,if_pos hyl];simp only [h1,List.getElem?_set];by_cases e2:x=i
  ·subst e2;rw [if_pos rfl,if_pos (by omega)];simp
  ·rw [if_neg e2,if_neg (fun h=>e2 h.1.symm)]
 ·rw [if_neg e,if_neg (fun h=>e h.2.symm)]
theorem Sz.ext{w h:Nat}{d d':qK}(hd:Sz w h d)(hd':Sz w h d')(he:∀x y,x<w->y<h->jB d x y=jB d' x y):d=d':=by
 refine List.ext_getElem? fun y=>?_;by_cases hy:y<h
 ·obtain⟨r,h1,h2⟩:=hd.row hy;obtain⟨r',h1',h2'⟩:=hd'.row hy;rw [h1,h1'];congr 1;refine List.ext_getElem? fun x=>?_;by_cases hx:x<w
  ·obtain⟨_,g1,_,g2⟩:=hd.cell hx hy;obtain⟨_,g1',_,g2'⟩:=hd'.cell hx hy;rw [h1] at g1;rw [h1'] at g1';obtain rfl:=zsi g1;obtain rfl:=zsi g1';rw [g2,g2',he x y hx hy]
  ·rw [List.getElem?_eq_none (by omega),List.getElem?_eq_none (by omega)]
 ·rw [List.getElem?_eq_none (by rw [hd.1];omega),List.getElem?_eq_none (by rw [hd'.1];omega)]
theorem Sz.blankD(w h:Nat):Sz w h (Go.Ag.blankD w h):=⟨by simp [Go.Ag.blankD],fun r hr=>by
 obtain⟨_,rfl⟩:=List.mem_replicate.1 hr;simp⟩
theorem W6(w h x y:Nat):jB (blankD w h) x y=false:=by
 unfold jB;split
 ·rename_i r hr;simp only [blankD,List.getElem?_replicate] at hr;split at hr
  ·obtain rfl:=zsi hr;rw [List.getElem?_replicate];split<;>rfl
  ·cases hr
 ·rfl
theorem Ww{d:qK}{y:Nat}{r:List Bool}(h:d[y]?=some r)(x:Nat)(b:Bool):(xE d).set y ((r.map kj).set x (.c (.bool b)))=xE (QH d x y b):=by
 simp only [QH,h];rw [<-Wx,<-SZ];rfl
theorem vo{rows:List (List FD)}{y:Nat}{r:List FD}(h:rows[y]?=some r):xK (rows.map zI) (y*1) 1=some [zI r]:=by
 have hl:=(zgs h).1;rw [Nat.mul_one,yj (by simp;omega)];congr 1;refine List.ext_getElem? fun j=>?_;rw [List.getElem?_take];split
 ·rename_i hj;obtain rfl:j=0:=by omega
  rw [List.getElem?_drop,List.getElem?_map,Nat.add_zero,h];rfl
 ·rw [List.getElem?_eq_none (by simp;omega)]
theorem ZA{r:List FD}{x:Nat}{b:FD}(h:r[x]?=some b):xK r (x*1) 1=some [b]:=by
 have hl:=(zgs h).1;rw [Nat.mul_one,yj (by omega)];congr 1;refine List.ext_getElem? fun j=>?_;rw [List.getElem?_take];split
 ·rename_i hj;obtain rfl:j=0:=by omega
  rw [List.getElem?_drop,Nat.add_zero,h];rfl
 ·rw [List.getElem?_eq_none (by simp;omega)]
theorem bH(w h:Int):oE 36 [.int w,.int h] fun d S nk=>∃n m:Nat,kz w=n/\kz h=m/\n<=200/\m<=200/\d=.agg [.f (.c (.int .i64 n)),.f (.c (.int .i64 m)),.own 2 0 m 1]/\S=[(2,.tree (xE (blankD n m)))]/\nk=3:=by
 refine Xp qbW rfl xa fun Z0 lo=>?_;obtain⟨n,hn,hn2⟩:=Jh w;obtain⟨m,hm,hm2⟩:=Jh h;refine qb ?_;intros;rw [show min (max w 0) 200=(n:Int) from hn,show min (max h 0) 200=(m:Int) from hm];refine qaD (n:=m) rfl rfl oM oM ?_;refine qb ?_;intros;refine qm (fun k E S nk=>∃y:Nat,y+k=m/\∃cur:qK,cur.length=m/\(∀j,j<y->cur[j]?=some (List.replicate n false))/\E=[(0,.int n),(4,.one (.ptr 0 0)),(5,.one (.ptr 1 0)),(18,.int m),(19,.int y)]/\S=[(0,.cells [.f (.c (.int .i64 0)),.f (.c (.int .i64 0)),.f (.c .nils)]),(1,.cells [.f (.c (.int .i64 n)),.f (.c (.int .i64 m)),.own 2 0 m 1]),(2,.tree (xE cur))]/\nk=3) ⟨m,_,_,_,[(1,2),(2,1)],?wk,0,by omega,List.replicate m [],by simp,by omega,rfl,rfl,rfl⟩ ?_
 case wk=>exact⟨by repeat (first|exact trivial|refine⟨rfl,rfl,?_⟩),⟨rfl,rfl,rfl,rfl,rfl,rfl,congrArg (fun z=>some (Bk.tree z)) (by simp [xE]),rfl,rfl,trivial⟩,rfl,rfl⟩
 rintro k E S nk ⟨y,hy,cur,hcl,hcur,rfl,rfl,rfl⟩;refine qb ?_;intros;refine qd rfl (fun ht=>?_) (fun ht=>?_)
 ·simp at ht;refine qb ?_;intros;refine EC [.c (.bool false)] rfl rfl rfl rfl ⟨rfl,rfl,trivial⟩ rfl (by decide) (Nat.le_refl _) oM oM ?_;refine qb ?_;intros;refine H8 rfl rfl rfl rfl (by rw [kU];simp) (by rw [kP];simp;omega) rfl ?_;rw [aW,Int.toNat_natCast,Wx];refine qb ?_;intros;refine⟨k-1,by omega,_,_,_,[(2,4)],?wk1,y+1,by omega,cur.set y (List.replicate n false),by simpa using hcl,fun j hj=>?_,rfl,rfl,rfl⟩
  case wk1=>exact ql
  rw [List.getElem?_set];split
  ·rename_i e;rw [if_pos (by omega)]
  ·exact hcur j oM
 ·simp at ht;obtain rfl:y=m:=by omega
  refine qb ?_;intros;refine qf ⟨_,rfl,rfl,_,qe (k:=2) rfl (qy _),n,y,hn,hm,hn2,hm2,rfl,?_,rfl⟩;congr 4;refine List.ext_getElem? fun j=>?_;simp only [blankD,List.getElem?_replicate];split
  ·rename_i hj;exact hcur j hj
  ·rw [List.getElem?_eq_none (by omega)]
def i6(w h:Int)(p:qc):Bool:=decide (0<=p.1/\p.1<w/\0<=p.2/\p.2<h)
theorem GU(a:Int):(a !=a)=false:=by simp
theorem nH{w h:Nat}{d:qK}(hw:w<=200)(hh:h<=200)(hd:Sz w h d):DK 40 [jX w h d] fun d=>d=.bool true:=by
 refine qD qbU rfl xa fun Z0 lo=>?_;have hl:=hd.1;have g1:decide ((w:Int)<0)=false:=by simp
 have g2:decide ((w:Int)>200)=false:=by simp;omega
 have g3:decide ((h:Int)<0)=false:=by simp
 have g4:decide ((h:Int)>200)=false:=by simp;omega
 have g5:(((d.length:Nat):Int)!=(h:Int))=false:=by simp [hl]
 refine qU ?_;intros;refine qd rfl (fun ht=>by cases ht) (fun _=>?_);refine qb ?_;intros;refine qm (fun m E S nk=>∃k:Nat,k+m=d.length/\E=[(1,.one (.ptr 0 0)),(32,.one (.f (.sl 1 d.length ((xE d).map zI)))),(33,.int d.length),(34,.int k)]/\S=[(0,.cells [.f (.c (.int .i64 w)),.f (.c (.int .i64 h)),.f (.sl 1 d.length ((xE d).map zI))])]/\nk=1) ⟨d.length,_,_,_,[],?wk,0,oM,rfl,rfl,rfl⟩ ?_
 case wk=>exact ql
 rintro m E S nk ⟨k,hk,rfl,rfl,rfl⟩;refine qb ?_;intros;refine qd rfl (fun ht=>?_) (fun ht=>?_)
 ·simp at ht;obtain⟨r,hr,hrl⟩:=hd.row (y:=k) oM;have e1:=vo (jO hr);have e2:((((r.map kj).length:Nat):Int)!=(w:Int))=false:=by simp [hrl]
  refine qU ?_;intros;refine qd rfl (fun ht=>by cases ht) (fun _=>?_);refine qb ?_;intros;refine⟨m-1,oM,_,_,_,[],?wk1,k+1,oM,rfl,rfl,rfl⟩
  case wk1=>exact ql
 ·simp at ht;refine qb ?_;intros;exact qf ⟨_,rfl,rfl,rfl⟩
theorem W8{w h:Nat}{d:qK}(hw:w<=200)(hh:h<=200)(hd:Sz w h d):DK 18 [jX w h d] fun d=>d=.bool true:=by
 refine qD qcd rfl xa fun Z0 lo=>?_;have hl:=hd.1;have g1:decide ((w:Int)<0)=false:=by simp
 have g2:decide ((w:Int)>200)=false:=by simp;omega
 have g3:decide ((h:Int)<0)=false:=by simp
 have g4:decide ((h:Int)>200)=false:=by simp;omega
 have g5:(((d.length:Nat):Int)!=(h:Int))=false:=by simp [hl]
 refine qU ?_;intros;refine qd rfl (fun ht=>by cases ht) (fun _=>?_);refine qb ?_;intros;refine qm (fun m E S nk=>∃k:Nat,k+m=h/\E=[(1,.one (.ptr 0 0)),(3,.int k)]/\S=[(0,.cells [.f (.c (.int .i64 w)),.f (.c (.int .i64 h)),.f (.sl 1 d.length ((xE d).map zI))])]/\nk=1) ⟨h,_,_,_,[],?wk,0,oM,rfl,rfl,rfl⟩ ?_
 case wk=>exact ql
 rintro m E S nk ⟨k,hk,rfl,rfl,rfl⟩;refine qb ?_;intros;refine qd rfl (fun ht=>?_) (fun ht=>?_)
 ·simp at ht;obtain⟨r,hr,hrl⟩:=hd.row (y:=k) oM;have e1:=vo (jO hr);have e2:((((r.map kj).length:Nat):Int)!=(w:Int))=false:=by simp [hrl]
  refine qU ?_;intros;refine qd rfl (fun ht=>by cases ht) (fun _=>?_);refine qb ?_;intros;refine⟨m-1,oM,_,_,_,[],?wk1,k+1,oM,rfl,rfl,rfl⟩
  case wk1=>exact ql
 ·simp at ht;refine qb ?_;intros;exact qf ⟨_,rfl,rfl,rfl⟩
def Xx(w h:Nat)(d:qK)(p:qc):qK:=if i6 w h p=true then QH d p.1.toNat p.2.toNat true else d
def yX(w h:Nat)(d:qK)(l:List qc):qK:=l.foldl (Xx w h) d
theorem iY{w h:Nat}{d:qK}(hd:Sz w h d)(p:qc):Sz w h (Xx w h d p):=by
 unfold Xx;split
 ·exact hd.set _ _ _
 ·exact hd
theorem Zy{w h:Nat}:∀(l:List qc) {d:qK},Sz w h d->Sz w h (yX w h d l)
 |[],_,hd=>hd
 |p::l,_,hd=>Zy l (iY hd p)
theorem tJ{w h:Nat}{d:qK}{l:List qc}{k:Nat}{p:qc}(hp:l[k]?=some p):yX w h d (l.take (k+1))=Xx w h (yX w h d (l.take k)) p:=by
 rw [List.take_add_one,hp,yX,yX];simp
def Cp(w h:Nat)(d:qK)(y x:Nat)(cur:qK):Prop:=Sz w h cur/\∀i j,i<w->j<h->jB cur i j=if j<y\/(j=y/\i<x) then jB d i j else false
theorem Cp.start(w h:Nat)(d:qK):Cp w h d 0 0 (blankD w h):=⟨Sz.blankD w h,fun i j _ _=>by rw [W6,if_neg (by omega)]⟩
theorem Cp.fin{w h:Nat}{d:qK}{cur:qK}(hd:Sz w h d)(hc:Cp w h d h 0 cur):cur=d:=hc.1.ext hd fun i j hi hj=>by
 rw [hc.2 i j hi hj,if_pos (by omega)]
theorem Ku{w n:Nat}(h:kz w=n)(hw:w<=200):n=w:=by unfold kz at h;omega
theorem qaU{w h:Nat}{d:qK}{l:List qc}(hw:w<=200)(hh:h<=200)(hd:Sz w h d)(hl:l.length<1000000):DK 37 [jX w h d,qz l] fun r=>r=jX w h (yX w h d l):=by
 refine qD qbV rfl xa fun Z0 lo=>?_;refine qb ?_;intros;refine qk rfl rfl (nH hw hh hd) ?_;rintro _ rfl;refine qb ?_;intros;refine qd rfl (fun ht=>by cases ht) (fun _=>?_);refine qb ?_;intros;refine ki rfl rfl (bH w h) ?_;rintro _ _ _ ⟨n,m,hn,hm,_,_,rfl,rfl,rfl⟩;obtain rfl:=Ku hn hw;obtain rfl:=Ku hm hh;refine qb ?_;intros;refine qu (qe (k:=1) rfl (qe (k:=2) rfl (qe (k:=4) rfl (qe (k:=5) rfl (qe (k:=19) rfl (qe (k:=20) rfl (qy _))))))) (qe (k:=0) rfl (qe (k:=1) rfl (qe (k:=4) rfl (qe (k:=5) rfl (qy _))))) ?_;refine qm (fun k E S nk=>∃y:Nat,y+k=m/\∃cur:qK,Cp n m d y 0 cur/\E=[(1,qz l),(2,.one (.ptr 0 0)),(4,.one (.ptr 1 0)),(5,.one (.ptr 5 0)),(19,.int m),(20,.int y)]/\S=[(0,.cells [.f (.c (.int .i64 n)),.f (.c (.int .i64 m)),.f (.sl 1 d.length ((xE d).map zI))]),(1,.cells [.f (.c (.int .i64 0)),.f (.c (.int .i64 0)),.f (.c .nils)]),(4,.tree (xE cur)),(5,.cells [.f (.c (.int .i64 n)),.f (.c (.int .i64 m)),.own 4 0 m 1])]/\nk=6) ⟨m,_,_,_,[],?wk,0,oM,blankD n m,Cp.start n m d,rfl,rfl,rfl⟩ ?_
 case wk=>exact ql
 rintro k E S nk ⟨y,hy,cur,hcur,rfl,rfl,rfl⟩;refine qb ?_;intros;refine qd rfl (fun ht=>?_) (fun ht=>?_)
 ·simp at ht;obtain⟨r,hr,hrl⟩:=hd.row (y:=y) oM;obtain⟨q,hq,hql⟩:=hcur.1.row (y:=y) oM;have hdl:=hd.1;have e1:=vo (jO hr);have e3:=jO hq;refine qb ?_;intros;refine qaH (l:=r.map kj) rfl rfl rfl e3 rfl ⟨by simp;omega,rfl,rfl⟩ rfl ?_;rw [Int.toNat_natCast,Wx];refine qb ?_;intros;refine⟨k-1,oM,_,_,_,[],?wk2,y+1,oM,cur.set y r,?_,rfl,rfl,rfl⟩
  case wk2=>exact ql
  have hyl:y<cur.length:=by rw [hcur.1.1];omega
  refine⟨⟨by simpa using hcur.1.1,fun t ht=>?_⟩,fun i j hi hj=>?_⟩
  ·rcases List.mem_or_eq_of_mem_set ht with h|h
   ·exact hcur.1.2 t h
   ·subst h;exact hrl
  ·simp only [jB,List.getElem?_set];by_cases e:y=j
   ·subst e;rw [if_pos rfl,if_pos hyl,if_pos (by omega),hr]
   ·rw [if_neg e];have:=hcur.2 i j hi hj;simp only [jB] at this;rw [this];by_cases h1:j<y\/(j=y/\i<0)
    ·rw [if_pos h1,if_pos (by omega)]
    ·rw [if_neg h1,if_neg (by omega)]
 ·simp at ht;obtain rfl:y=m:=by omega
  obtain rfl:=hcur.fin hd;refine qb ?_;intros;refine qu (qe (k:=2) rfl (qe (k:=4) rfl (qe (k:=5) rfl (qe (k:=35) rfl (qe (k:=36) rfl (qe (k:=37) rfl (qy _))))))) (zK _) ?_;refine qm (fun k E S nk=>∃j:Nat,j+k=l.length/\E=[(2,.one (.ptr 0 0)),(4,.one (.ptr 1 0)),(5,.one (.ptr 5 0)),(35,qz l),(36,.int l.length),(37,.int j)]/\S=[(0,.cells [.f (.c (.int .i64 n)),.f (.c (.int .i64 y)),.f (.sl 1 cur.length ((xE cur).map zI))]),(1,.cells [.f (.c (.int .i64 0)),.f (.c (.int .i64 0)),.f (.c .nils)]),(4,.tree (xE (yX n y cur (l.take j)))),(5,.cells [.f (.c (.int .i64 n)),.f (.c (.int .i64 y)),.own 4 0 y 1])]/\nk=6) ⟨l.length,_,_,_,[],?wk4,0,oM,rfl,rfl,rfl⟩ ?_
  case wk4=>exact ql
  rintro k E S nk ⟨j,hj,rfl,rfl,rfl⟩;refine qb ?_;intros;refine qd rfl (fun ht2=>?_) (fun ht2=>?_)
  ·simp at ht2;obtain⟨p,hp⟩:∃p,l[j]?=some p:=⟨_,zge oM⟩;have e1:=xi hp;have hstep:=tJ (w:=n) (h:=y) (d:=cur) hp;by_cases hon:0<=p.1/\p.1<n/\0<=p.2/\p.2<y
   ·have g1:decide (0<=p.1)=true:=by simpa using hon.1
    have g2:decide (p.1<(n:Int))=true:=by simpa using hon.2.1
    have g3:decide (0<=p.2)=true:=by simpa using hon.2.2.1
    have g4:decide (p.2<(y:Int))=true:=by simpa using hon.2.2.2
    have ht3:i6 n y p=true:=by simp [i6,hon]
    have hsz:=Zy (w:=n) (h:=y) (l.take j) hd;obtain⟨q,hq,hql⟩:=hsz.row (y:=p.2.toNat) oM;have e3:=jO hq;have l2:p.1<((q.map kj).length:Nat):=by simp;omega
    refine qU ?_;intros;refine qd rfl (fun _=>?_) (fun ht=>by cases ht);refine qb ?_;intros;refine ZN rfl rfl rfl e3 (by simp;omega) rfl ?_;rw [Ww hq,show QH (yX n y cur (l.take j)) p.1.toNat p.2.toNat true=yX n y cur (l.take (j+1)) by rw [hstep,Xx,if_pos ht3]];refine qb ?_;intros;refine⟨k-1,oM,_,_,_,[],?wk5,j+1,oM,rfl,rfl,rfl⟩
    case wk5=>exact ql
   ·have ht3:Xx n y (yX n y cur (l.take j)) p=yX n y cur (l.take j):=by
     rw [Xx,if_neg];simpa [i6] using hon
    rw [ht3] at hstep;have fin:∀Q:Exit->qq->Bx->Nat->Prop,Q .normal [(2,.one (.ptr 0 0)),(4,.one (.ptr 1 0)),(5,.one (.ptr 5 0)),(35,qz l),(36,.int l.length),(37,.int j)] [(0,.cells [.f (.c (.int .i64 n)),.f (.c (.int .i64 y)),.f (.sl 1 cur.length ((xE cur).map zI))]),(1,.cells [.f (.c (.int .i64 0)),.f (.c (.int .i64 0)),.f (.c .nils)]),(4,.tree (xE (yX n y cur (l.take j)))),(5,.cells [.f (.c (.int .i64 n)),.f (.c (.int .i64 y)),.own 4 0 y 1])] 7->DPS (Par.base Tryz.prog 1 (H00 1) Z0 lo) D2.n (.seq (.ops D1 0) (.seq (.ops D0 0) (.cond (.t 62) (.ops mL 10) .skip))) Q [(2,.one (.ptr 0 0)),(4,.one (.ptr 1 0)),(5,.one (.ptr 5 0)),(35,qz l),(36,.int l.length),(37,.int j)] [(0,.cells [.f (.c (.int .i64 n)),.f (.c (.int .i64 y)),.f (.sl 1 cur.length ((xE cur).map zI))]),(1,.cells [.f (.c (.int .i64 0)),.f (.c (.int .i64 0)),.f (.c .nils)]),(4,.tree (xE (yX n y cur (l.take j)))),(5,.cells [.f (.c (.int .i64 n)),.f (.c (.int .i64 y)),.own 4 0 y 1])] 6:=by
     intro Q hQ;have out:∀{E:qq} {S:Bx},lk E 62=some (.bool false)->yu [(2,.one (.ptr 0 0)),(4,.one (.ptr 1 0)),(5,.one (.ptr 5 0)),(35,qz l),(36,.int l.length),(37,.int j)] E->yu [(0,.cells [.f (.c (.int .i64 n)),.f (.c (.int .i64 y)),.f (.sl 1 cur.length ((xE cur).map zI))]),(1,.cells [.f (.c (.int .i64 0)),.f (.c (.int .i64 0)),.f (.c .nils)]),(4,.tree (xE (yX n y cur (l.take j)))),(5,.cells [.f (.c (.int .i64 n)),.f (.c (.int .i64 y)),.own 4 0 y 1])] S->DPS (Par.base Tryz.prog 1 (H00 1) Z0 lo) D2.n (.cond (.t 62) (.ops mL 10) .skip) Q E S 7:=fun h1 h2 h3=>
      qd (t:=false) h1 (fun h=>by cases h) fun _=>qu h2 h3 (Xn hQ)
     by_cases h1:0<=p.1
     ·have g1:decide (0<=p.1)=true:=by simpa using h1
      by_cases h2:p.1<(n:Int)
      ·have g2:decide (p.1<(n:Int))=true:=by simpa using h2
       by_cases h3:0<=p.2
       ·have g3:decide (0<=p.2)=true:=by simpa using h3
        have g4:decide (p.2<(y:Int))=false:=by simp;omega
        refine qU ?_;intros;exact out rfl (qe rfl (qe rfl (qe rfl (qe rfl (qe rfl (qe rfl (qy _))))))) (qe rfl (qe rfl (qe rfl (qe rfl (qy _)))))
       ·have g3:decide (0<=p.2)=false:=by simpa using h3
        refine qU ?_;intros;exact out rfl (qe rfl (qe rfl (qe rfl (qe rfl (qe rfl (qe rfl (qy _))))))) (qe rfl (qe rfl (qe rfl (qe rfl (qy _)))))
      ·have g2:decide (p.1<(n:Int))=false:=by simpa using h2
       refine qU ?_;intros;exact out rfl (qe rfl (qe rfl (qe rfl (qe rfl (qe rfl (qe rfl (qy _))))))) (qe rfl (qe rfl (qe rfl (qe rfl (qy _)))))
     ·have g1:decide (0<=p.1)=false:=by simpa using h1
      refine qU ?_;intros;exact out rfl (qe rfl (qe rfl (qe rfl (qe rfl (qe rfl (qe rfl (qy _))))))) (qe rfl (qe rfl (qe rfl (qe rfl (qy _)))))
    refine Xn ?_;refine jp ?_;refine Qi ?_;refine qu (qe (k:=2) rfl (qe (k:=4) rfl (qe (k:=5) rfl (qe (k:=35) rfl (qe (k:=36) rfl (qe (k:=37) rfl (qy _))))))) (zK _) ?_;refine fin _ ?_;rw [<-hstep];refine qb ?_;intros;refine⟨k-1,oM,_,_,_,[],?wk6,j+1,oM,rfl,rfl,rfl⟩
    case wk6=>exact ql
  ·simp at ht2;have hsz:=Zy (w:=n) (h:=y) l hd;have hlen:y=(xE (yX n y cur l)).length:=by rw [kP,hsz.1]
   obtain rfl:j=l.length:=by omega
   rw [List.take_length];refine qu (qe (k:=4) rfl (qe (k:=5) rfl (qy _))) (zK _) ?_;refine Zo 4 rfl qR qR ?_;refine qb ?_;intros;refine qf ⟨_,rfl,rfl,?_⟩;simp only [jX,hsz.1];rfl
def jP(d:qK)(w y:Nat):List qc:=((List.range w).filter (jB d · y)).map fun (x:Nat)=>((x:Int),(y:Int))
def xM(d:qK)(w h:Nat):List qc:=(List.range h).flatMap (jP d w)
theorem kn(d:qK)(x y:Nat):jP d (x+1) y=jP d x y++if jB d x y=true then [((x:Int),(y:Int))] else []:=by
 simp only [jP,List.range_succ,List.filter_append,List.map_append];congr 1;by_cases h:jB d x y=true
 ·simp [h]
 ·simp [h]
theorem X7(d:qK)(y:Nat):∀w,(jP d w y).length<=w
 |0=>by simp [jP]
 |w+1=>by
  rw [kn,List.length_append];have:=X7 d y w;split<;>simp<;>omega
theorem QI(d:qK)(w y:Nat):xM d w (y+1)=xM d w y++jP d w y:=by simp [xM,List.range_succ]
theorem kp(d:qK)(w:Nat):∀h,(xM d w h).length<=h*w
 |0=>by simp [xM]
 |h+1=>by
  have h1:=kp d w h;have h2:=X7 d h w;rw [QI,List.length_append,Nat.add_mul];omega
theorem EW{w h:Nat}{d:qK}(hw:w<=200)(hh:h<=200)(hd:Sz w h d):DK 51 [jX w h d] fun r=>r=qz (xM d w h):=by
 refine qD qbL rfl xa fun Z0 lo=>?_;have hl:=hd.1;refine qb ?_;intros;refine vD 3 2 rfl ?_;refine qm (fun k E S nk=>∃y:Nat,y+k=h/\E=[(3,.one (.own 0 0 (xM d w y).length 2)),(9,.one (.f (.sl 1 d.length ((xE d).map zI)))),(10,.int d.length),(11,.int y)]/\S=[(0,.data ((xM d w y).flatMap qh))]/\nk=1) ⟨h,_,_,_,[(0,1)],?wk,0,oM,rfl,rfl,rfl⟩ ?_
 case wk=>exact ql
 rintro k E S nk ⟨y,hy,rfl,rfl,rfl⟩;have hpl:(xM d w y).length<=200*200:=Nat.le_trans (kp d w y) (Nat.mul_le_mul oM hw);refine qb ?_;intros;refine qd rfl (fun ht=>?_) (fun ht=>?_)
 ·simp at ht;obtain⟨r,hr,hrl⟩:=hd.row (y:=y) oM;have e1:=vo (jO hr);refine qb ?_;intros;refine qm (fun k2 E S nk=>∃x:Nat,x+k2=w/\∃l:List qc,l=xM d w y++jP d x y/\E=[(3,.one (.own 0 0 l.length 2)),(4,.int y),(9,.one (.f (.sl 1 d.length ((xE d).map zI)))),(10,.int d.length),(11,.int y),(16,.one (.f (zI (r.map kj)))),(17,.int (r.map kj).length),(18,.int x)]/\S=[(0,.data (l.flatMap qh))]/\nk=1) ⟨w,_,_,_,[],?wk1,0,by omega,xM d w y,by simp [jP],rfl,rfl,rfl⟩ ?_
  case wk1=>exact ql
  rintro k2 E S nk ⟨x,hx,l,hll,rfl,rfl,rfl⟩;have hl2:l.length<=200*200+200:=by
   have:=X7 d y x;rw [hll,List.length_append];omega
  refine qb ?_;intros;refine qd rfl (fun ht2=>?_) (fun ht2=>?_)
  ·simp at ht2;obtain⟨r',hr',_,hrx⟩:=hd.cell (x:=x) (y:=y) oM oM;rw [hr] at hr';obtain rfl:=zsi hr';have e2:=ZA (Kk hrx);have l1:x<(r.map kj).length:=by simp;omega
   refine qb ?_;intros;refine qd (t:=jB d x y) rfl (fun ht3=>?_) (fun ht3=>?_)
   ·refine qb ?_;intros;refine qY (l':=l.flatMap qh) (q:=qh ((x:Int),(y:Int))) rfl rfl rfl (qI _ (xc l)) ⟨rfl,rfl,_,rfl,rfl⟩ oM oM (by decide) rfl ?_;rw [show l.flatMap qh++qh ((x:Int),(y:Int))=(l++[((x:Int),(y:Int))]).flatMap qh by simp,show l.length+1=(l++[((x:Int),(y:Int))]).length by simp];refine qb ?_;intros;refine⟨k2-1,oM,_,_,_,[(0,2)],?wk2,x+1,oM,l++[((x:Int),(y:Int))],?_,rfl,rfl,rfl⟩
    case wk2=>exact ql
    rw [kn,if_pos ht3,hll,List.append_assoc]
   ·refine qb ?_;intros;refine⟨k2-1,oM,_,_,_,[],?wk3,x+1,oM,l,?_,rfl,rfl,rfl⟩
    case wk3=>exact ql
    rw [kn,if_neg (by rw [ht3];decide),hll,List.append_nil]
  ·simp at ht2;obtain rfl:x=w:=by omega
   rw [<-QI] at hll;subst hll;refine qb ?_;intros;refine⟨k-1,oM,_,_,_,[],?wk4,y+1,oM,rfl,rfl,rfl⟩
   case wk4=>exact ql
 ·simp at ht;obtain rfl:y=h:=by omega
  have hflat:=xc (xM d w y);refine qu (qe (k:=3) rfl (qy _)) (qe (k:=0) rfl (qy _)) ?_;refine xn 0 rfl qR qR ?_;refine qb ?_;intros;exact qf ⟨_,rfl,rfl,rfl⟩
theorem u4{w h:Nat}{d:qK}(hw:w<=200)(hh:h<=200)(hd:Sz w h d):DK 25 [jX w h d] fun r=>r=qz (xM d w h):=by
 refine qD qb6 rfl xa fun Z0 lo=>?_;have hl:=hd.1;refine qb ?_;intros;refine qm (fun k E S nk=>∃y:Nat,y+k=h/\E=[(1,.one (.ptr 0 0)),(3,.one (.own 1 0 (xM d w y).length 2)),(4,.int y)]/\S=[(0,.cells [.f (.c (.int .i64 w)),.f (.c (.int .i64 h)),.f (.sl 1 d.length ((xE d).map zI))]),(1,.data ((xM d w y).flatMap qh))]/\nk=2) ⟨h,_,_,_,[],?wk,0,oM,rfl,rfl,rfl⟩ ?_
 case wk=>exact ql
 rintro k E S nk ⟨y,hy,rfl,rfl,rfl⟩;have hpl:(xM d w y).length<=200*200:=Nat.le_trans (kp d w y) (Nat.mul_le_mul oM hw);refine qb ?_;intros;refine qd rfl (fun ht=>?_) (fun ht=>?_)
 ·simp at ht;obtain⟨r,hr,hrl⟩:=hd.row (y:=y) oM;have e1:=vo (jO hr);refine qb ?_;intros;refine qm (fun k2 E S nk=>∃x:Nat,x+k2=w/\∃l:List qc,l=xM d w y++jP d x y/\E=[(1,.one (.ptr 0 0)),(3,.one (.own 1 0 l.length 2)),(4,.int y),(5,.int x)]/\S=[(0,.cells [.f (.c (.int .i64 w)),.f (.c (.int .i64 h)),.f (.sl 1 d.length ((xE d).map zI))]),(1,.data (l.flatMap qh))]/\nk=2) ⟨w,_,_,_,[],?wk1,0,by omega,xM d w y,by simp [jP],rfl,rfl,rfl⟩ ?_
  case wk1=>exact ql
  rintro k2 E S nk ⟨x,hx,l,hll,rfl,rfl,rfl⟩;have hl2:l.length<=200*200+200:=by
   have:=X7 d y x;rw [hll,List.length_append];omega
  refine qb ?_;intros;refine qd rfl (fun ht2=>?_) (fun ht2=>?_)
  ·simp at ht2;obtain⟨r',hr',_,hrx⟩:=hd.cell (x:=x) (y:=y) oM oM;rw [hr] at hr';obtain rfl:=zsi hr';have e2:=ZA (Kk hrx);have l1:x<(r.map kj).length:=by simp;omega
   refine qb ?_;intros;refine qd (t:=jB d x y) rfl (fun ht3=>?_) (fun ht3=>?_)
   ·refine qb ?_;intros;refine qY (l':=l.flatMap qh) (q:=qh ((x:Int),(y:Int))) rfl rfl rfl (qI _ (xc l)) ⟨rfl,rfl,_,rfl,rfl⟩ oM oM (by decide) rfl ?_;rw [show l.flatMap qh++qh ((x:Int),(y:Int))=(l++[((x:Int),(y:Int))]).flatMap qh by simp,show l.length+1=(l++[((x:Int),(y:Int))]).length by simp];refine qb ?_;intros;refine⟨k2-1,oM,_,_,_,[(1,3)],?wk2,x+1,oM,l++[((x:Int),(y:Int))],?_,rfl,rfl,rfl⟩
    case wk2=>exact ql
    rw [kn,if_pos ht3,hll,List.append_assoc]
   ·refine qb ?_;intros;refine⟨k2-1,oM,_,_,_,[],?wk3,x+1,oM,l,?_,rfl,rfl,rfl⟩
    case wk3=>exact ql
    rw [kn,if_neg (by rw [ht3];decide),hll,List.append_nil]
  ·simp at ht2;obtain rfl:x=w:=by omega
   rw [<-QI] at hll;subst hll;refine qb ?_;intros;refine⟨k-1,oM,_,_,_,[],?wk4,y+1,oM,rfl,rfl,rfl⟩
   case wk4=>exact ql
 ·simp at ht;obtain rfl:y=h:=by omega
  have hflat:=xc (xM d w y);refine qu (qe (k:=3) rfl (qy _)) (qe (k:=1) rfl (qy _)) ?_;refine xn 1 rfl qR qR ?_;refine qb ?_;intros;exact qf ⟨_,rfl,rfl,rfl⟩
def cF(c:Int):FD:=.c (.int .u8 c)
abbrev jk:=List (List Int)
def wj(l:jk):List (List FD):=l.map (·.map cF)
def Kf(l:jk):DV:=.one (.f (.sl 1 l.length ((wj l).map zI)))
def X3(c:Int)(k:Nat):Bool:=(IntKind.u8.wrap ((BitVec.ofInt 8 (c.fdiv (2^(min k 8)))&&& BitVec.ofInt 8 1).toNat:Int)==1)
def WV(l:jk)(w h:Int):Prop:=0<=w/\w<=200/\w % 2=0/\0<=h/\h<=200/\h % 3=0/\(l.length:Int)<=h/3
def uE(l:jk)(w:Int):Prop:=∀r∈l,(r.length:Int)<=w/2/\∀c∈r,c<64
def Yr(l:jk)(x y:Nat):Bool:=match l[y/3]? with
 |some r=>match r[x/2]? with
  |some c=>X3 c (x % 2*3+y % 3)
  |none=>false
 |none=>false
def Zd(w h:Nat)(l:jk):qK:=(List.range h).map fun y=>(List.range w).map fun x=>Yr l x y
theorem VV(w h:Nat)(l:jk):Sz w h (Zd w h l):=⟨by simp [Zd],fun r hr=>by
 simp only [Zd,List.mem_map] at hr;obtain⟨y,_,rfl⟩:=hr;simp⟩
theorem e9{w h:Nat}(l:jk){x y:Nat}(hx:x<w)(hy:y<h):jB (Zd w h l) x y=Yr l x y:=by
 simp [jB,Zd,hx,hy]
theorem E8{l:jk}{y:Nat}{r:List Int}(h:l[y]?=some r):(wj l)[y]?=some (r.map cF):=by simp [wj,h]
theorem N9{r:List Int}{x:Nat}{b:Int}(h:r[x]?=some b):(r.map cF)[x]?=some (cF b):=by simp [h]
theorem tm{a:Int}{b:Int}(h:0<=a):a.tmod b=a % b:=Int.tmod_eq_emod_of_nonneg h
theorem td{a:Int}{b:Int}(h:0<=a):a.tdiv b=a/b:=Int.tdiv_eq_ediv_of_nonneg h
def Dn(r i k x y:Nat):Prop:=y/3<r\/(y/3=r/\(x/2<i\/(x/2=i/\x % 2*3+y % 3<k)))
instance (r i k x y:Nat):Decidable (Dn r i k x y):=by unfold Dn;infer_instance
def Fc(w h:Nat)(l:jk)(r i k:Nat)(cur:qK):Prop:=Sz w h cur/\∀x y,x<w->y<h->jB cur x y=if Dn r i k x y then Yr l x y else false
theorem Fc.start(w h:Nat)(l:jk):Fc w h l 0 0 0 (blankD w h):=⟨Sz.blankD w h,fun x y _ _=>by rw [W6,if_neg (by unfold Dn;omega)]⟩
theorem I3{l:jk}{r i k:Nat}{row:List Int}{c:Int}(h1:l[r]?=some row)(h2:row[i]?=some c)(hk:k<6){x y:Nat}(hx:x=2*i+k/3)(hy:y=3*r+k % 3):Yr l x y=X3 c k:=by
 have e1:y/3=r:=by omega
 have e2:x/2=i:=by omega
 have e3:x % 2*3+y % 3=k:=by omega
 simp only [Yr,e1,h1,e2,h2,e3]
theorem Fc.step{w h:Nat}{l:jk}{r i k:Nat}{cur:qK}{row:List Int}{c:Int}(hc:Fc w h l r i k cur)(h1:l[r]?=some row)(h2:row[i]?=some c)(hk:k<6)(hw:2*i+1<w)(hh:3*r+2<h):Fc w h l r i (k+1) (QH cur (2*i+k/3) (3*r+k % 3) (X3 c k)):=by
 refine⟨hc.1.set _ _ _,fun x y hx hy=>?_⟩;rw [rZ hc.1 (by omega) (by omega)];split
 ·rename_i e;rw [if_pos (by unfold Dn;omega),I3 h1 h2 hk e.1 e.2]
 ·rename_i e;rw [hc.2 x y hx hy];by_cases hd:Dn r i k x y
  ·rw [if_pos hd,if_pos (by unfold Dn at hd ⊢;omega)]
  ·rw [if_neg hd,if_neg (by unfold Dn at hd ⊢;omega)]
theorem Fc.cell{w h:Nat}{l:jk}{r i:Nat}{cur:qK}(hc:Fc w h l r i 6 cur):Fc w h l r (i+1) 0 cur:=⟨hc.1,fun x y hx hy=>by
 rw [hc.2 x y hx hy];by_cases hd:Dn r i 6 x y
 ·rw [if_pos hd,if_pos (by unfold Dn at hd ⊢;omega)]
 ·rw [if_neg hd,if_neg (by unfold Dn at hd ⊢;omega)]⟩
theorem Fc.row{w h:Nat}{l:jk}{r:Nat}{cur:qK}{row:List Int}(h1:l[r]?=some row)(hc:Fc w h l r row.length 0 cur):Fc w h l (r+1) 0 0 cur:=⟨hc.1,fun x y hx hy=>by
 rw [hc.2 x y hx hy];by_cases hd:Dn r row.length 0 x y
 ·rw [if_pos hd,if_pos (by unfold Dn at hd ⊢;omega)]
 ·rw [if_neg hd];by_cases hd2:Dn (r+1) 0 0 x y
  ·rw [if_pos hd2];have e1:y/3=r:=by unfold Dn at hd hd2;omega
   have e2:row[x/2]?=none:=List.getElem?_eq_none (by unfold Dn at hd hd2;omega);simp only [Yr,e1,h1,e2]
  ·rw [if_neg hd2]⟩
theorem Fc.fin{w h:Nat}{l:jk}{cur:qK}(hc:Fc w h l l.length 0 0 cur):cur=Zd w h l:=hc.1.ext (VV w h l) fun x y hx hy=>by
 rw [hc.2 x y hx hy,e9 l hx hy];by_cases hd:Dn l.length 0 0 x y
 ·rw [if_pos hd]
 ·rw [if_neg hd];have:l[y/3]?=none:=List.getElem?_eq_none (by unfold Dn at hd;omega);simp only [Yr,this]
def U8:DV:=.tup [.agg [.f (.c (.int .i64 0)),.f (.c (.int .i64 0)),.f (.c .nils)],.int 1]
def lA(w h:Nat)(l:jk):DV:=.tup [jX w h (Zd w h l),.int 0]
theorem Af{l:jk}{w h:Int}:(((((((w.tmod 2!=0)=true\/(h.tmod 3!=0)=true)\/w<0)\/h<0)\/w>200)\/h>200)\/(l.length:Int)>IntKind.i64.wrap (h.tdiv 3))↔¬WV l w h:=by
 unfold WV;by_cases hw:0<=w
 ·by_cases hh:0<=h
  ·rw [tm hw,tm hh,td hh,bne_iff_ne,bne_iff_ne];by_cases h2:h<=200
   ·rw [qo (by omega) (by omega)];omega
   ·constructor
    ·intro _;omega
    ·intro _;exact .inl (.inr oM)
  ·constructor
   ·intro _;omega
   ·intro _;exact .inl (.inl (.inl (.inr oM)))
 ·constructor
  ·intro _;omega
  ·intro _;exact .inl (.inl (.inl (.inl (.inr oM))))
theorem SI{l:jk}{w h:Int}(hrl:∀r∈l,r.length<1000000):DK 27 [Kf l,.int w,.int h] fun d=>(WV l w h/\uE l w/\d=lA w.toNat h.toNat l)\/(¬(WV l w h/\uE l w)/\d=U8):=by
 refine qD qb4 rfl xa fun Z0 lo=>?_;refine qb ?_;intros;refine qd rfl (fun ht=>?_) (fun ht=>?_)
 ·simp only [Bool.if_true_left,Bool.or_eq_true,Bool.or_eq_false_iff,xV,decide_eq_false_iff_not] at ht;refine qb ?_;intros;exact qf ⟨_,rfl,rfl,.inr ⟨fun hf=>Af.1 ht hf.1,rfl⟩⟩
 ·have ht':¬_:=fun h=>Bool.false_ne_true (ht.symm.trans h);simp only [Bool.if_true_left,Bool.or_eq_true,xV] at ht';have hfit:WV l w h:=Classical.not_not.1 fun hn=>ht' (Af.2 hn);clear ht ht';have hf:=hfit;unfold WV at hf;obtain⟨n,rfl⟩:∃n:Nat,w=n:=⟨w.toNat,oM⟩;obtain⟨m,rfl⟩:∃m:Nat,h=m:=⟨h.toNat,oM⟩;have hw2:IntKind.i64.wrap ((n:Int).tdiv 2)=((n/2:Nat):Int):=by rw [td (by omega),qo (by omega) (by omega)];omega
  refine qb ?_;intros;refine ki rfl rfl (U7 n m) ?_;rintro _ _ _ ⟨n',m',hn',hm',_,_,rfl,rfl,rfl⟩;obtain rfl:=Ku hn' oM;obtain rfl:=Ku hm' oM;refine qb ?_;intros;refine qu (qe (k:=0) rfl (qe (k:=1) rfl (qe (k:=6) rfl (qe (k:=8) rfl (qe (k:=9) rfl (qy _)))))) (zK _) ?_;refine qm (fun k E S nk=>∃r:Nat,r+k=l.length/\uE (l.take r) n'/\∃cur,Fc n' m' l r 0 0 cur/\E=[(0,Kf l),(1,.int n'),(6,.one (.ptr 0 0)),(8,.one (.ptr 4 0)),(9,.int r)]/\S=[(0,.cells [.f (.c (.int .i64 0)),.f (.c (.int .i64 0)),.f (.c .nils)]),(3,.tree (xE cur)),(4,.cells [.f (.c (.int .i64 n')),.f (.c (.int .i64 m')),.own 3 0 m' 1])]/\nk=5) ⟨l.length,_,_,_,[],?wk,0,by omega,fun r hr=>by simp at hr,blankD n' m',Fc.start n' m' l,rfl,rfl,rfl⟩ ?_
  case wk=>exact ql
  rintro k E S nk ⟨r,hr,hok,cur,hcur,rfl,rfl,rfl⟩;refine qb ?_;intros;refine qd rfl (fun ht=>?_) (fun ht=>?_)
  ·simp at ht;obtain⟨row,hrow⟩:∃q,l[r]?=some q:=⟨_,zge oM⟩;have hrl':=hrl row (zmg hrow);have e1:=vo (E8 hrow);refine qb ?_;intros;rw [hw2];refine qd rfl (fun ht2=>?_) (fun ht2=>?_)
   ·simp at ht2;refine qb ?_;intros;refine qf ⟨_,rfl,rfl,.inr ⟨fun hf=>?_,rfl⟩⟩;have:=(hf.2 row (zmg hrow)).1;omega
   ·simp at ht2;refine qb ?_;intros;refine qu (qe (k:=0) rfl (qe (k:=1) rfl (qe (k:=6) rfl (qe (k:=8) rfl (qe (k:=9) rfl (qe (k:=10) rfl (qy _))))))) (zK _) ?_;refine qm (fun k2 E S nk=>∃i:Nat,i+k2=row.length/\(∀c∈row.take i,c<64)/\∃cur,Fc n' m' l r i 0 cur/\E=[(0,Kf l),(1,.int n'),(6,.one (.ptr 0 0)),(8,.one (.ptr 4 0)),(9,.int r),(10,.int i)]/\S=[(0,.cells [.f (.c (.int .i64 0)),.f (.c (.int .i64 0)),.f (.c .nils)]),(3,.tree (xE cur)),(4,.cells [.f (.c (.int .i64 n')),.f (.c (.int .i64 m')),.own 3 0 m' 1])]/\nk=5) ⟨row.length,_,_,_,[],?wk1,0,by omega,by simp,cur,hcur,rfl,rfl,rfl⟩ ?_
    case wk1=>exact ql
    rintro k2 E S nk ⟨i,hi,hok2,cur,hcur,rfl,rfl,rfl⟩;refine qb ?_;intros;refine qd rfl (fun ht3=>?_) (fun ht3=>?_)
    ·simp at ht3;obtain⟨c,hc⟩:∃c,row[i]?=some c:=⟨_,zge oM⟩;have e2:=ZA (N9 hc);have l1:i<(row.map cF).length:=by simp;omega
     refine qb ?_;intros;refine qd (t:=decide (c>63)) rfl (fun ht4=>?_) (fun ht4=>?_)
     ·simp at ht4;refine qb ?_;intros;refine qf ⟨_,rfl,rfl,.inr ⟨fun hf=>?_,rfl⟩⟩;have:=(hf.2 row (zmg hrow)).2 c (zmg hc);omega
     ·simp at ht4;refine qb ?_;intros;refine qu (qe (k:=0) rfl (qe (k:=1) rfl (qe (k:=6) rfl (qe (k:=8) rfl (qe (k:=9) rfl (qe (k:=10) rfl (qe (k:=11) rfl (qy _)))))))) (zK _) ?_;refine qm (fun k3 E S nk=>∃j:Nat,j+k3=6/\∃cur,Fc n' m' l r i j cur/\E=[(0,Kf l),(1,.int n'),(6,.one (.ptr 0 0)),(8,.one (.ptr 4 0)),(9,.int r),(10,.int i),(11,.int j)]/\S=[(0,.cells [.f (.c (.int .i64 0)),.f (.c (.int .i64 0)),.f (.c .nils)]),(3,.tree (xE cur)),(4,.cells [.f (.c (.int .i64 n')),.f (.c (.int .i64 m')),.own 3 0 m' 1])]/\nk=5) ⟨6,_,_,_,[],?wk2,0,oM,cur,hcur,rfl,rfl,rfl⟩ ?_
      case wk2=>exact ql
      rintro k3 E S nk ⟨j,hj,cur,hcur,rfl,rfl,rfl⟩;refine qb ?_;intros;refine qd rfl (fun ht5=>?_) (fun ht5=>?_)
      ·simp at ht5;have hy:3*r+j % 3<m':=by omega
       have hx:2*i+j/3<n':=by omega
       obtain⟨q,hq,hql⟩:=hcur.1.row (y:=3*r+j % 3) hy;have e3:=jO hq;have l2:((2*i+j/3:Nat):Int)<((q.map kj).length:Nat):=by simp;omega
       have hset:=Ww hq (2*i+j/3) (X3 c j);have hstep:=hcur.step hrow hc (k:=j) oM oM oM;have w1:IntKind.i64.wrap (3*(r:Int))=((3*r:Nat):Int):=by rw [qo (by omega) (by omega)];omega
       have w2:IntKind.i64.wrap (2*(i:Int))=((2*i:Nat):Int):=by rw [qo (by omega) (by omega)];omega
       have hj6:j=0\/j=1\/j=2\/j=3\/j=4\/j=5:=by omega
       rcases hj6 with rfl|rfl|rfl|rfl|rfl|rfl
       ·have w3:IntKind.i64.wrap (((3*r:Nat):Int)+0)=((3*r+0 % 3:Nat):Int):=by rw [qo (by omega) (by omega)];omega
        have w4:IntKind.i64.wrap (((2*i:Nat):Int)+0)=((2*i+0/3:Nat):Int):=by rw [qo (by omega) (by omega)];omega
        have w5:Int.tmod ((0:Nat):Int) 3=0:=rfl;have w6:IntKind.i64.wrap (Int.tdiv ((0:Nat):Int) 3)=0:=rfl;refine qb ?_;intros;rw [w1,w5,w3];refine qb ?_;intros;rw [w2,w6,w4];refine qb ?_;intros;refine ZN (i:=3*r+0 % 3) (o:=2*i+0/3) (x:=.c (.bool (X3 c 0))) rfl rfl rfl e3 (by simp;omega) rfl ?_;rw [hset];refine qb ?_;intros;refine⟨k3-1,oM,_,_,_,[],?wk3,0+1,oM,_,hstep,rfl,rfl,rfl⟩
        case wk3=>exact ql
       ·have w3:IntKind.i64.wrap (((3*r:Nat):Int)+1)=((3*r+1 % 3:Nat):Int):=by rw [qo (by omega) (by omega)];omega
        have w4:IntKind.i64.wrap (((2*i:Nat):Int)+0)=((2*i+1/3:Nat):Int):=by rw [qo (by omega) (by omega)];omega
        have w5:Int.tmod ((1:Nat):Int) 3=1:=rfl;have w6:IntKind.i64.wrap (Int.tdiv ((1:Nat):Int) 3)=0:=rfl;refine qb ?_;intros;rw [w1,w5,w3];refine qb ?_;intros;rw [w2,w6,w4];refine qb ?_;intros;refine ZN (i:=3*r+1 % 3) (o:=2*i+1/3) (x:=.c (.bool (X3 c 1))) rfl rfl rfl e3 (by simp;omega) rfl ?_;rw [hset];refine qb ?_;intros;refine⟨k3-1,oM,_,_,_,[],?wk3,1+1,oM,_,hstep,rfl,rfl,rfl⟩
        case wk3=>exact ql
       ·have w3:IntKind.i64.wrap (((3*r:Nat):Int)+2)=((3*r+2 % 3:Nat):Int):=by rw [qo (by omega) (by omega)];omega
        have w4:IntKind.i64.wrap (((2*i:Nat):Int)+0)=((2*i+2/3:Nat):Int):=by rw [qo (by omega) (by omega)];omega
        have w5:Int.tmod ((2:Nat):Int) 3=2:=rfl;have w6:IntKind.i64.wrap (Int.tdiv ((2:Nat):Int) 3)=0:=rfl;refine qb ?_;intros;rw [w1,w5,w3];refine qb ?_;intros;rw [w2,w6,w4];refine qb ?_;intros;refine ZN (i:=3*r+2 % 3) (o:=2*i+2/3) (x:=.c (.bool (X3 c 2))) rfl rfl rfl e3 (by simp;omega) rfl ?_;rw [hset];refine qb ?_;intros;refine⟨k3-1,oM,_,_,_,[],?wk3,2+1,oM,_,hstep,rfl,rfl,rfl⟩
        case wk3=>exact ql
       ·have w3:IntKind.i64.wrap (((3*r:Nat):Int)+0)=((3*r+3 % 3:Nat):Int):=by rw [qo (by omega) (by omega)];omega
        have w4:IntKind.i64.wrap (((2*i:Nat):Int)+1)=((2*i+3/3:Nat):Int):=by rw [qo (by omega) (by omega)];omega
        have w5:Int.tmod ((3:Nat):Int) 3=0:=rfl;have w6:IntKind.i64.wrap (Int.tdiv ((3:Nat):Int) 3)=1:=rfl;refine qb ?_;intros;rw [w1,w5,w3];refine qb ?_;intros;rw [w2,w6,w4];refine qb ?_;intros;refine ZN (i:=3*r+3 % 3) (o:=2*i+3/3) (x:=.c (.bool (X3 c 3))) rfl rfl rfl e3 (by simp;omega) rfl ?_;rw [hset];refine qb ?_;intros;refine⟨k3-1,oM,_,_,_,[],?wk3,3+1,oM,_,hstep,rfl,rfl,rfl⟩
        case wk3=>exact ql
       ·have w3:IntKind.i64.wrap (((3*r:Nat):Int)+1)=((3*r+4 % 3:Nat):Int):=by rw [qo (by omega) (by omega)];omega
        have w4:IntKind.i64.wrap (((2*i:Nat):Int)+1)=((2*i+4/3:Nat):Int):=by rw [qo (by omega) (by omega)];omega
        have w5:Int.tmod ((4:Nat):Int) 3=1:=rfl;have w6:IntKind.i64.wrap (Int.tdiv ((4:Nat):Int) 3)=1:=rfl;refine qb ?_;intros;rw [w1,w5,w3];refine qb ?_;intros;rw [w2,w6,w4];refine qb ?_;intros;refine ZN (i:=3*r+4 % 3) (o:=2*i+4/3) (x:=.c (.bool (X3 c 4))) rfl rfl rfl e3 (by simp;omega) rfl ?_;rw [hset];refine qb ?_;intros;refine⟨k3-1,oM,_,_,_,[],?wk3,4+1,oM,_,hstep,rfl,rfl,rfl⟩
        case wk3=>exact ql
       ·have w3:IntKind.i64.wrap (((3*r:Nat):Int)+2)=((3*r+5 % 3:Nat):Int):=by rw [qo (by omega) (by omega)];omega
        have w4:IntKind.i64.wrap (((2*i:Nat):Int)+1)=((2*i+5/3:Nat):Int):=by rw [qo (by omega) (by omega)];omega
        have w5:Int.tmod ((5:Nat):Int) 3=2:=rfl;have w6:IntKind.i64.wrap (Int.tdiv ((5:Nat):Int) 3)=1:=rfl;refine qb ?_;intros;rw [w1,w5,w3];refine qb ?_;intros;rw [w2,w6,w4];refine qb ?_;intros;refine ZN (i:=3*r+5 % 3) (o:=2*i+5/3) (x:=.c (.bool (X3 c 5))) rfl rfl rfl e3 (by simp;omega) rfl ?_;rw [hset];refine qb ?_;intros;refine⟨k3-1,oM,_,_,_,[],?wk3,5+1,oM,_,hstep,rfl,rfl,rfl⟩
        case wk3=>exact ql
      ·simp at ht5;obtain rfl:j=6:=by omega
       refine qb ?_;intros;refine⟨k2-1,oM,_,_,_,[],?wk4,i+1,oM,?_,cur,hcur.cell,rfl,rfl,rfl⟩
       case wk4=>exact ql
       intro c' hc';rw [List.take_add_one,hc] at hc';simp at hc';rcases hc' with hc'|rfl
       ·exact hok2 c' hc'
       ·omega
    ·simp at ht3;obtain rfl:i=row.length:=by omega
     refine qb ?_;intros;refine⟨k-1,oM,_,_,_,[],?wk5,r+1,oM,?_,cur,hcur.row hrow,rfl,rfl,rfl⟩
     case wk5=>exact ql
     intro q hq;rw [List.take_add_one,hrow] at hq;simp only [Option.toList_some,List.mem_append,List.mem_singleton] at hq;rcases hq with hq|rfl
     ·exact hok q hq
     ·rw [List.take_of_length_le (by omega)] at hok2;exact⟨oM,hok2⟩
  ·simp at ht;obtain rfl:r=l.length:=by omega
   rw [List.take_of_length_le (by omega)] at hok;obtain rfl:=hcur.fin;have hsz:=VV n' m' l;have hlen:m'=(xE (Zd n' m' l)).length:=by rw [kP,hsz.1]
   refine qu (qe (k:=6) rfl (qe (k:=8) rfl (qy _))) (zK _) ?_;refine Zo 3 rfl qR qR ?_;refine qb ?_;intros;refine qf ⟨_,rfl,rfl,.inl ⟨hfit,hok,?_⟩⟩;simp only [lA,jX,hsz.1,Int.toNat_natCast];rfl
theorem Jm{d:qK}{w y:Nat}{p:qc}:p∈jP d w y↔∃x:Nat,x<w/\jB d x y=true/\p=((x:Int),(y:Int)):=by
 simp only [jP,List.mem_map,List.mem_filter,List.mem_range];constructor
 ·rintro ⟨x,⟨h1,h2⟩,rfl⟩;exact⟨x,h1,h2,rfl⟩
 ·rintro ⟨x,h1,h2,rfl⟩;exact⟨x,⟨h1,h2⟩,rfl⟩
theorem ko{d:qK}{w h:Nat}{p:qc}:p∈xM d w h↔∃x y:Nat,x<w/\y<h/\jB d x y=true/\p=((x:Int),(y:Int)):=by
 simp only [xM,List.mem_flatMap,List.mem_range,Jm];constructor
 ·rintro ⟨y,hy,x,hx,hd,rfl⟩;exact⟨x,y,hx,hy,hd,rfl⟩
 ·rintro ⟨x,y,hx,hy,hd,rfl⟩;exact⟨y,hy,x,hx,hd,rfl⟩
theorem Ve(d:qK)(y:Nat):∀w,qJ (jP d w y)
 |0=>by simp [jP]
 |w+1=>by
  rw [kn,qJ,List.pairwise_append];refine⟨Ve d y w,?_,fun a ha b hb=>?_⟩
  ·split<;>simp
  ·obtain⟨x,hx,_,rfl⟩:=Jm.1 ha;split at hb
   ·simp at hb;subst hb;rw [jH];simp;omega
   ·simp at hb
theorem jQ(d:qK)(w:Nat):∀h,qJ (xM d w h)
 |0=>by simp [xM]
 |h+1=>by
  rw [QI,qJ,List.pairwise_append];refine⟨jQ d w h,Ve d h w,fun a ha b hb=>?_⟩;obtain⟨x,y,_,hy,_,rfl⟩:=ko.1 ha;obtain⟨x',_,_,rfl⟩:=Jm.1 hb;rw [jH];simp;omega
theorem m9{w h:Nat}:∀(l:List qc) {d:qK},Sz w h d->∀x y,x<w->y<h->(jB (yX w h d l) x y=true↔jB d x y=true\/((x:Int),(y:Int))∈l)
 |[],d,hd,x,y,hx,hy=>by simp [yX]
 |p::l,d,hd,x,y,hx,hy=>by
  have ih:=m9 l (iY hd p) x y hx hy;have e:yX w h d (p::l)=yX w h (Xx w h d p) l:=rfl;rw [e,ih,List.mem_cons];have h1:jB (Xx w h d p) x y=true↔jB d x y=true\/((x:Int),(y:Int))=p:=by
   unfold Xx;by_cases hon:i6 w h p=true
   ·have hp:0<=p.1/\p.1<w/\0<=p.2/\p.2<h:=by simpa [i6] using hon
    rw [if_pos hon,rZ hd (by omega) (by omega)];by_cases e:x=p.1.toNat/\y=p.2.toNat
    ·rw [if_pos e];have:((x:Int),(y:Int))=p:=Prod.ext (by simp only;omega) (by simp only;omega);simp [this]
    ·rw [if_neg e];have:¬((x:Int),(y:Int))=p:=fun h=>e (by rw [<-h];simp);simp [this]
   ·rw [if_neg hon];have:¬((x:Int),(y:Int))=p:=fun h=>hon (by rw [<-h];simp [i6];omega);simp [this]
  rw [h1];constructor
  ·rintro ((h|h)|h)
   ·exact .inl h
   ·exact .inr (.inl h)
   ·exact .inr (.inr h)
  ·rintro (h|h|h)
   ·exact .inl (.inl h)
   ·exact .inl (.inr h)
   ·exact .inr h
def yv(w h:Nat)(d:qK)(parts:List (List qc)):qK:=parts.foldl (yX w h) d
theorem Jr{w h:Nat}:∀(parts:List (List qc)) {d:qK},Sz w h d->Sz w h (yv w h d parts)
 |[],_,hd=>hd
 |a::l,_,hd=>Jr l (Zy a hd)
theorem iW(w h:Nat)(d:qK)(l:List (List qc))(a:List qc):yv w h d (l++[a])=yX w h (yv w h d l) a:=by
 rw [yv,yv,List.foldl_append];rfl
theorem Yu{w h:Nat}:∀(parts:List (List qc)) {d:qK},Sz w h d->∀x y,x<w->y<h->(jB (yv w h d parts) x y=true↔jB d x y=true\/∃a∈parts,((x:Int),(y:Int))∈a)
 |[],d,hd,x,y,_,_=>by simp [yv]
 |a::l,d,hd,x,y,hx,hy=>by
  have ih:=Yu l (Zy a hd) x y hx hy;rw [show yv w h d (a::l)=yv w h (yX w h d a) l from rfl,ih,m9 a hd x y hx hy];constructor
  ·rintro ((h1|h1)|⟨b,hb,h1⟩)
   ·exact .inl h1
   ·exact .inr ⟨a,by simp,h1⟩
   ·exact .inr ⟨b,by simp [hb],h1⟩
  ·rintro (h1|⟨b,hb,h1⟩)
   ·exact .inl (.inl h1)
   ·rcases List.mem_cons.1 hb with rfl|hb
    ·exact .inl (.inr h1)
    ·exact .inr ⟨b,hb,h1⟩
theorem SF{w h:Nat}{d d':qK}(hd:Sz w h d)(hd':Sz w h d')(he:∀x y,x<w->y<h->(jB d x y=true↔jB d' x y=true)):d=d':=hd.ext hd' fun x y hx hy=>Bool.eq_iff_iff.2 (he x y hx hy)
theorem oS{w h:Nat}{d d':qK}(hd:Sz w h d)(hd':Sz w h d')(he:xM d w h=xM d' w h):d=d':=SF hd hd' fun x y hx hy=>by
 have h1:∀e:qK,((x:Int),(y:Int))∈xM e w h↔jB e x y=true:=fun e=>by
  rw [ko];constructor
  ·rintro ⟨a,b,_,_,h3,h4⟩;obtain⟨h5,h6⟩:=Prod.mk.inj h4;obtain rfl:x=a:=by omega
   obtain rfl:y=b:=by omega
   exact h3
  ·intro h3;exact⟨x,y,hx,hy,h3,rfl⟩
 rw [<-h1,he,h1]
def Xg(p:Pic)(parts:List (List qc)):qK:=yv p.w.toNat p.h.toNat (blankD p.w.toNat p.h.toNat) parts
theorem Zk(p:Pic)(parts:List (List qc)):Sz p.w.toNat p.h.toNat (Xg p parts):=Jr parts (Sz.blankD _ _)
theorem oJ{p:Pic}{parts:List (List qc)}(hin:∀a∈parts,∀q∈a,(0<=q.1/\q.1<p.w)/\0<=q.2/\q.2<p.h):xM (Xg p parts) p.w.toNat p.h.toNat=qr parts.flatten:=(jQ _ _ _).ext (xg _) fun q=>by
 rw [qO,List.mem_flatten,ko];constructor
 ·rintro ⟨x,y,hx,hy,h1,rfl⟩;rw [Xg,Yu _ (Sz.blankD _ _) x y hx hy,W6] at h1;simpa using h1
 ·rintro ⟨a,ha,hq⟩;have:=hin a ha q hq;refine⟨q.1.toNat,q.2.toNat,by omega,by omega,?_,Prod.ext (by simp only;omega) (by simp only;omega)⟩;rw [Xg,Yu _ (Sz.blankD _ _) _ _ (by omega) (by omega)];refine .inr ⟨a,ha,?_⟩;rw [show (((q.1.toNat:Nat):Int),((q.2.toNat:Nat):Int))=q from Prod.ext (by simp only;omega) (by simp only;omega)];exact hq
def jc(w h:Int)(d:qK):List DC:=[.f (.c (.int .i64 w)),.f (.c (.int .i64 h)),.f (.sl 1 d.length ((xE d).map zI))]
def YY:DV:=.agg [.f (.c (.int .i64 0)),.f (.c (.int .i64 0)),.f (.c .nils)]
theorem OQ{d d':qK}{k:Nat}{r r':List Bool}(h1:d[k]?=some r)(h2:d'[k]?=some r')(ht:d.take k=d'.take k)(hr:r=r'):d.take (k+1)=d'.take (k+1):=by
 rw [List.take_add_one,List.take_add_one,h1,h2,ht,hr]
theorem SO{w h:Nat}{d d':qK}(hw:w<=200)(hh:h<=200)(hd:Sz w h d)(hd':Sz w h d'):DK 11 [jX w h d,jX w h d'] fun r=>r=.bool (decide (d=d')):=by
 refine qD qci rfl xa fun Z0 lo=>?_;have hl:=hd.1;have hl':=hd'.1;have g1:((w:Int)!=w)=false:=by simp
 have g2:((h:Int)!=h)=false:=by simp
 have g3:(((d.length:Nat):Int)!=((d'.length:Nat):Int))=false:=by rw [hl,hl'];simp
 refine qU ?_;intros;refine qd rfl (fun ht=>by cases ht) (fun _=>?_);refine qb ?_;intros;refine qm (fun m E S nk=>∃k:Nat,k+m=d.length/\d.take k=d'.take k/\E=[(2,.one (.ptr 0 0)),(3,.one (.ptr 1 0)),(5,.int k)]/\S=[(0,.cells (jc w h d)),(1,.cells (jc w h d'))]/\nk=2) ⟨d.length,_,_,_,[],?wk,0,oM,rfl,rfl,rfl,rfl⟩ ?_
 case wk=>exact ql
 rintro m E S nk ⟨k,hk,htk,rfl,rfl,rfl⟩;refine qb ?_;intros;refine qd rfl (fun ht=>?_) (fun ht=>?_)
 ·have ht:k<d.length:=by have:=xL ht;omega
  obtain⟨r,hr,hrl⟩:=hd.row (y:=k) oM;obtain⟨r',hr',hrl'⟩:=hd'.row (y:=k) oM;have e1:=vo (jO hr);have e2:=vo (jO hr');have e3:((((r.map kj).length:Nat):Int)!=(((r'.map kj).length:Nat):Int))=false:=by simp [hrl,hrl']
  refine qU ?_;intros;refine qd rfl (fun ht=>by cases ht) (fun _=>?_);refine qb ?_;intros;refine qm (fun m2 E S nk=>∃j:Nat,j+m2=r.length/\r.take j=r'.take j/\E=[(2,.one (.ptr 0 0)),(3,.one (.ptr 1 0)),(5,.int k),(6,.int j)]/\S=[(0,.cells (jc w h d)),(1,.cells (jc w h d'))]/\nk=2) ⟨r.length,_,_,_,[],?wk1,0,oM,rfl,rfl,rfl,rfl⟩ ?_
  case wk1=>exact ql
  rintro m2 E S nk ⟨j,hj,htj,rfl,rfl,rfl⟩;refine qb ?_;intros;refine qd rfl (fun ht2=>?_) (fun ht2=>?_)
  ·simp at ht2;obtain⟨b,hb⟩:∃b,r[j]?=some b:=⟨_,zge oM⟩;obtain⟨b',hb'⟩:∃b,r'[j]?=some b:=⟨_,zge oM⟩;have e4:=ZA (Kk hb);have e5:=ZA (Kk hb');have hlm:j<(r.map kj).length:=by simp;omega
   have hlm':j<(r'.map kj).length:=by simp;omega
   refine qb ?_;intros;refine qd (t:=b !=b') rfl (fun he=>?_) (fun he=>?_)
   ·refine qb ?_;intros;refine qf ⟨_,rfl,rfl,?_⟩;rw [decide_eq_false];intro e;subst e;rw [hr] at hr';obtain rfl:=zsi hr';rw [hb] at hb';obtain rfl:=zsi hb';simp at he
   ·have he:b=b':=by simpa using he
    subst he;refine qb ?_;intros;refine⟨m2-1,oM,_,_,_,[],?wk2,j+1,oM,?_,rfl,rfl,rfl⟩
    case wk2=>exact ql
    rw [List.take_add_one,List.take_add_one,hb,hb',htj]
  ·simp at ht2;obtain rfl:j=r.length:=by omega
   rw [List.take_length,List.take_of_length_le (by omega)] at htj;refine qb ?_;intros;refine⟨m-1,oM,_,_,_,[],?wk3,k+1,oM,OQ hr hr' htk htj,rfl,rfl,rfl⟩
   case wk3=>exact ql
 ·have ht:k=d.length:=by have:=xP ht;omega
  subst ht;rw [List.take_length,List.take_of_length_le (by omega)] at htk;refine qb ?_;intros;refine qf ⟨_,rfl,rfl,?_⟩;rw [decide_eq_true htk]
end Go.Ag

namespace Go.Ag
open Go.Ab Go.Proofs
section
variable{w h:Int}{d:qK}{i y n nw:Nat}
end
end Go.Ag

namespace Go.Ag
open Go.Ab Go.Proofs
def cS(p:Pic)(l:List (List qc))(a b c:Int)(rec:Bk):Bx:=[(0,.cells (jR p)),(1,.cells [.f (.c (.int .i64 a))]),(2,.cells [.f (.c (.int .i64 b))]),(3,.cells [.f (.c (.int .i64 c))]),(4,.cells [.f (.sl 1 l.length (l.map qL))]),(5,.cells [.f (.c (.int .i64 l.length))]),(6,rec)]
def YV(st:LoopState)(j:Option Code)(fid:FuncId)(sg bd:Code):Bk:=.mp (.lp st j fid fG.n [1,2,3,4,5] [34,35] sg bd) [.ptr 0 0,.ptr 1 0,.ptr 2 0,.ptr 3 0,.ptr 4 0]
theorem T7 {Z0:Nat->Prop} {lo anc:Nat} {β0:qw} {H1:Hp} {pc:Pic} {l:List (List qc)} {i k:Nat} {a b:List qc} (ha:l[i]?=some a) (hb:l[k]?=some b) (hsm:∀c∈l,(∀q∈c,zP q=true)/\c.length<=256)
 {fid:FuncId} {sg bd:Code} (hsg:xS Tryz.prog 1 fG.n sg=some (.seq (.ops mN 0) (.ops mM 0))) (hbd:xS Tryz.prog 1 fG.n bd=some uJ)
 {base rs:Nat} {Q:qq->Bx->Nat->Prop} {r:List SOper} {A:List Nat} {E:qq} {S:Bx} {nk:Nat} {id:Nat} {dst:Option Nat} {aid:Option Nat} {ws:List Nat} {keep:Bool} {x y z:Opd}
 (hnk:nk=7) (hS:yu (cS pc l 0 0 0 (YV .ready none fid sg bd)) S)
 (hx:ro E x=some (.one (.yl 6))) (hvs:X4 E [y,z]=some [.int i,.int k]) (hT:YT E=true)
 (h1:x8 a b<=pc.gap->DPW (parK Z0 lo anc β0 H1) base 0 Q r [] A (xk E dst (.bool false)) (cS pc l i k 140 (YV .done (some .ret) fid sg bd)) 7)
 (h2:¬x8 a b<=pc.gap->DPW (parK Z0 lo anc β0 H1) base 0 Q r [] A (xk E dst (.bool true)) (cS pc l 0 0 0 (YV .ready none fid sg bd)) 7):
 DPW (parK Z0 lo anc β0 H1) base rs Q (⟨id,dst,.cv x [y,z],none,aid,ws,keep⟩::r) [] A E S nk:=by
 subst hnk;have h6:lk S 6=some (YV .ready none fid sg bd):=hS 6 _ rfl;refine M8 (R:=fun d S' nk'=>(x8 a b<=pc.gap/\d=.bool false/\yu (cS pc l i k 140 (YV .done (some .ret) fid sg bd)) S'/\nk'=7)\/(¬x8 a b<=pc.gap/\d=.bool true/\yu (cS pc l 0 0 0 (YV .ready none fid sg bd)) S'/\nk'=7)) hx hvs h6 rfl rfl hT hsg hbd (fun ρ Z β H=>?_) ?_
 ·have mixp:((parK Z0 lo anc β0 H1).round ρ Z 7 β H).P.follows .mixedOrders=true:=j3;refine qu (E0:=[(34,.int i),(35,.int k),(1,.one (.ptr 0 0)),(2,.one (.ptr 1 0)),(3,.one (.ptr 2 0)),(4,.one (.ptr 3 0)),(5,.one (.ptr 4 0))]) (S0:=cS pc l 0 0 0 (YV .ready none fid sg bd)) (qe rfl (qe rfl (qe rfl (qe rfl (qe rfl (qe rfl (qe rfl (qy _)))))))) hS ?_;have e1:=jv ha;have e2:=jv hb;have hi:=(zgs ha).1;have hk:=(zgs hb).1;have hsa:=hsm a (zmg ha);have hsb:=hsm b (zmg hb);refine qb ?_;intros;refine⟨rfl,_,_,_,_,_,_,_,_,_,rfl,rfl,?_⟩;refine qb ?_;intros;refine qk rfl rfl (JI (kL hsa.1) (kL hsb.1) oM oM) ?_;rintro _ rfl;refine qb ?_;intros;refine qd rfl (fun hd=>?_) (fun hd=>?_)
  ·have hd:=xL hd;refine qb ?_;intros;refine qf ?_;exact⟨_,_,_,_,_,_,_,_,_,rfl,.inl ⟨hd,rfl,qe rfl (qe rfl (qe rfl (qe rfl (qe rfl (qe rfl (qe rfl (qy _))))))),rfl⟩⟩
  ·have hd:=xP hd;refine qb ?_;intros;exact⟨_,_,_,_,_,_,_,_,_,rfl,.inr ⟨hd,rfl,qe rfl (qe rfl (qe rfl (qe rfl (qe rfl (qe rfl (qe rfl (qy _))))))),rfl⟩⟩
 ·rintro _ S' _ (⟨hd,rfl,hs,rfl⟩|⟨hd,rfl,hs,rfl⟩)
  ·exact yB (zK _) hs (h1 hd)
  ·exact yB (zK _) hs (h2 hd)
end Go.Ag
