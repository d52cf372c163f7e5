/- -/
import Derived.Test.YtbfbplnghpdmhaaGreatDoorAb21
set_option linter.unusedSimpArgs false
set_option maxHeartbeats 16000000
set_option linter.unusedVariables false
namespace Go.Ag
open Go.Ab Go.Proofs
theorem uD{p:Pic}(hv:qx p=true){i y x:Nat}(h:(p.w/2).toNat-1<=x):ya p i ((x:Int),(y:Int))=false:=by
 have hh:=(qT hv).2.2.1;simp only [yz,xD,xV] at hh;obtain⟨⟨⟨hw1,hw2⟩,hw3⟩,_⟩:=hh;have:kH p ((x:Int),(y:Int))=false:=by
  rw [Bool.eq_false_iff];intro h2;simp only [kH,xD,xV] at h2;omega
 rw [ya,this,Bool.false_and]
theorem E4{p:Pic}{A:List Bool}{i:Nat}(hv:qx p=true)(hF:Y9 p)(hA:n9 p A)(hi:i<p.fs.length):DK 69 [Xu p A,.int i] fun d=>d=qz (jh p i):=by
 refine qD qbt rfl xa fun Z0 lo=>?_;have hh:=(qT hv).2.2.1;simp only [yz,xD,xV] at hh;obtain⟨⟨⟨hw1,hw2⟩,hw3⟩,⟨hh1,hh2⟩,hh3⟩:=hh;rw [Int.tmod_eq_emod_of_nonneg (by omega)] at hw3 hh3;obtain⟨nw,hnw⟩:∃nw:Nat,nw=(p.w/2).toNat-1:=⟨_,rfl⟩;obtain⟨nh,hnh⟩:∃nh:Nat,nh=(p.h/3).toNat:=⟨_,rfl⟩;have hw4:p.w=2*((nw:Int)+1):=by omega
 have hh4:p.h=3*(nh:Int):=by omega
 have hnw2:nw<30:=by omega
 have hnh2:nh<=20:=by omega
 have w1:IntKind.i64.wrap (p.w.tdiv 2)=((nw+1:Nat):Int):=by rw [Int.tdiv_eq_ediv_of_nonneg (by omega),qo (by omega) (by omega)];omega
 have w2:IntKind.i64.wrap (p.h.tdiv 3)=(nh:Int):=by rw [Int.tdiv_eq_ediv_of_nonneg (by omega),qo (by omega) (by omega)];omega
 have hlast:∀y:Nat,ya p i ((nw:Int),(y:Int))=false:=fun y=>uD (x:=nw) hv oM;refine qb ?_;intros;rw [w2];refine vD 5 2 rfl ?_;refine qm (fun m E S nk=>∃(y:Nat) (out:List qc),y+m=nh/\out=QW p i nw y/\E=[(0,Xu p A),(1,.int i),(5,.one (.own 0 0 out.length 2)),(14,.int nh),(15,.int y)]/\S=[(0,.data (out.flatMap qh))]/\nk=1)
  ⟨nh,_,_,_,[],?wk,0,[],oM,rfl,rfl,rfl,rfl⟩ ?_
 case wk=>exact ql
 rintro m E S nk ⟨y,out,hy,ho,rfl,rfl,rfl⟩;refine qb ?_;intros;refine qd rfl (fun ht=>?_) (fun ht=>?_)
 ·have ht:y<nh:=by have:=xL ht;omega
  have hcl:=Yq p i nw y;have hcm:y*nw<=20*30:=Nat.mul_le_mul oM oM;refine qb ?_;intros;rw [w1];refine qm (fun m E S nk=>∃(x:Nat) (o2:List qc),x+m=nw+1/\o2=out++kR p i y x/\E=[(0,Xu p A),(1,.int i),(5,.one (.own 0 0 o2.length 2)),(14,.int nh),(15,.int y),(6,.int y),(23,.int (nw+1:Nat)),(24,.int x)]/\S=[(0,.data (o2.flatMap qh))]/\nk=1)
   ⟨nw+1,_,_,_,[],?wk2,0,out,by omega,by simp [kR],rfl,rfl,rfl⟩ ?_
  case wk2=>exact ql
  rintro m2 E S nk ⟨x,o2,hx,ho2,rfl,rfl,rfl⟩;have hrl:=VG p i y x;have hol:o2.length<=1000:=by rw [ho2,List.length_append,ho];omega
  have hfl:=xc o2;refine qb ?_;intros;refine qd rfl (fun ht2=>?_) (fun ht2=>?_)
  ·have ht2:x<nw+1:=by have:=xL ht2;omega
   refine qb ?_;intros;refine qk rfl rfl (EX (i:=i) (q:=((x:Int),(y:Int))) hv hF hA hi (by unfold qE;simp only;omega)) ?_;rintro _ rfl;refine qb ?_;intros;refine qd rfl (fun hf=>?_) (fun hf=>?_)
   ·refine qb ?_;intros;refine qY (m:=1) (q:=qh ((x:Int),(y:Int))) rfl rfl rfl (qI _ hfl) ⟨rfl,rfl,_,rfl,rfl⟩ oM oM (by decide) rfl ?_;rw [show o2.flatMap qh++qh ((x:Int),(y:Int))=(o2++[((x:Int),(y:Int))]).flatMap qh by simp,show o2.length+1=(o2++[((x:Int),(y:Int))]).length by simp];refine qb ?_;intros;refine⟨m2-1,by omega,_,_,_,[(0,3)],?wk3,x+1,o2++[((x:Int),(y:Int))],by omega,by rw [CB hf,ho2,List.append_assoc],rfl,rfl,rfl⟩
    case wk3=>exact ql
   ·refine qb ?_;intros;refine⟨m2-1,by omega,_,_,_,[],?wk4,x+1,o2,by omega,by rw [iM hf,ho2],rfl,rfl,rfl⟩
    case wk4=>exact ql
  ·have ht2:x=nw+1:=by have:=xP ht2;omega
   subst ht2;rw [iM (hlast y)] at ho2;refine qb ?_;intros;refine⟨m-1,by omega,_,_,_,[],?wk5,y+1,o2,by omega,by rw [JM,ho2,ho],rfl,rfl,rfl⟩
   case wk5=>exact ql
 ·have ht:y=nh:=by have:=xP ht;omega
  subst ht;have hfl:=xc out;refine qb ?_;intros;refine qu (qe (k:=4) rfl (qy _)) (qe (k:=0) rfl (qy _)) ?_;refine xn 0 rfl qR qR ?_;refine qf ⟨_,rfl,rfl,?_⟩;rw [jh,<-hnw,<-hnh,<-ho];rfl
def wx(g:Int)(l:List qc)(c:qc)(k:Nat):Bool:=(List.range k).all fun j=>!jT g l.length c j (xH l j)
theorem uC{g:Int}{l:List qc}{c b:qc}{k:Nat}(h:l[k]?=some b):wx g l c (k+1)=(wx g l c k&&!jT g l.length c k b):=by
 unfold wx;rw [List.range_succ,List.all_append,List.all_cons,List.all_nil,Bool.and_true,xT h]
def QC(f:qc->List qc)(N:Nat):List qc->List qc
 |[]=>[]
 |c::cs=>if (f c).length=N then f c else QC f N cs
def yq(g:Int)(all:List (List qc)):Nat->List qc->List qc
 |0,l=>l
 |n+1,l=>QC (fun c=>if wx g l c l.length=true then yq g all n (l++[c]) else []) all.length ((all[l.length]?).getD [])
theorem R6{p:Par}{base rs:Nat}{Q:qq->Bx->Nat->Prop}{r:List SOper}{W:Wt}{A:List Nat}{E:qq}{S:Bx}{nk:Nat}{t:Nat}(e:Nat){x y:DC}(ht:lk E t=some (.agg [.f (.c .nils),x,y]))(h:DPW p base rs Q r W A ((t,.agg [.f (.sl e 0 []),x,y])::E) S nk):DPW p base rs Q r W A E S nk:=.mk fun Z β H F c hS hE hC hA=>by
 refine h.run Z β H F c hS (fun k d hd=>?_) hC hA;rw [qQ] at hd;split at hd
 ·rename_i e;subst e;obtain rfl:=zsi hd;obtain⟨v,hv,cs,rfl,hr⟩:=hE _ _ ht
  match cs,hr with
  |[c1,c2,c3],⟨h1,h2,h3,_⟩=>
   have h1:RF Z H (.c .nils) c1:=h1;cases h1;exact⟨_,hv,_,rfl,RF.nil _,h2,h3,trivial⟩
 ·exact hE k d hd
def zp(p:Pic)(i:Nat):List (List qc):=(List.range i).map (jh p)
def kN(p:Pic)(i:Nat):List qc:=yq p.gap (zp p (i+1)) (i+1) []
abbrev cT:=List qc × Int × Int
def qqv(r:cT):DV:=.agg [.f (.sl 2 r.1.length (r.1.flatMap qh)),.f (.c (.int .i64 r.2.1)),.f (.c (.int .i64 r.2.2))]
inductive PlcR (p:Pic):cT->Prop
 |bad (i:Nat) (hi:i<p.fs.length) (hb:(kN p i).length<=i) (hok:∀j,j<i->¬(kN p j).length<=j):PlcR p ([],(i:Int),150)
 |ok (hok:∀j,j<p.fs.length->¬(kN p j).length<=j):PlcR p (kN p (p.fs.length-1),((kN p (p.fs.length-1)).length:Int),0)
theorem YE{p:Pic}(hv:qx p=true)(i:Nat):(∀q∈jh p i,qE 1000000 q)/\(jh p i).length<1000000:=by
 have hh:=(qT hv).2.2.1;simp only [yz,xD,xV] at hh;have h1:(p.w/2).toNat-1<=30:=by omega
 have h2:(p.h/3).toNat<=20:=by omega
 refine⟨fun q hq=>?_,?_⟩
 ·unfold jh QW at hq;obtain⟨y,hy,hq⟩:=List.mem_flatMap.1 hq;unfold kR at hq;obtain⟨x,hx,rfl⟩:=List.mem_map.1 (List.mem_filter.1 hq).1;have:=List.mem_range.1 hx;have:=List.mem_range.1 hy;unfold qE;simp only;omega
 ·have h3:=Yq p i ((p.w/2).toNat-1) (p.h/3).toNat;have h4:(p.h/3).toNat*((p.w/2).toNat-1)<=20*30:=Nat.mul_le_mul h2 h1;unfold jh;omega
structure LegL (g:Int) (all:List (List qc)) (l:List qc):Prop where
 le:l.length<=all.length
 ch:∀(i:Nat) (q:qc),l[i]?=some q->q∈(all[i]?).getD []
 ap:∀(i k:Nat) (a b:qc),k<i->l[i]?=some a->l[k]?=some b->jT g i a k b=false
theorem XA(g:Int)(i k:Nat)(a b:qc):jT g i a k b=jT g k b i a:=by unfold jT;rw [Yp]
theorem LegL.nil(g:Int)(all:List (List qc)):LegL g all []:=⟨Nat.zero_le _,fun _ _ h=>by simp at h,fun _ _ _ _ _ h=>by simp at h⟩
theorem LegL.take{g:Int}{all:List (List qc)}{l:List qc}(h:LegL g all l)(n:Nat):LegL g all (l.take n):=by
 have e:∀{i:Nat} {q:qc},(l.take n)[i]?=some q->l[i]?=some q:=fun {i q} hi=>by
  rw [List.getElem?_take] at hi;split at hi
  ·exact hi
  ·cases hi
 exact⟨by rw [List.length_take];have:=h.le;omega,fun i q hi=>h.ch i q (e hi),fun i k a b hk ha hb=>h.ap i k a b hk (e ha) (e hb)⟩
theorem LegL.all{g:Int}{all all':List (List qc)}{l:List qc}(h:LegL g all l)(hl:l.length<=all'.length)(he:∀i,i<l.length->all'[i]?=all[i]?):LegL g all' l:=
 ⟨hl,fun i q hi=>by rw [he i (zgs hi).1];exact h.ch i q hi,h.ap⟩
theorem WS{g:Int}{l:List qc}{c:qc}:wx g l c l.length=true↔∀(j:Nat) (b:qc),l[j]?=some b->jT g l.length c j b=false:=by
 unfold wx;rw [List.all_eq_true];constructor
 ·intro h j b hb;have:=h j (List.mem_range.2 (zgs hb).1);rw [xT hb] at this;simpa using this
 ·intro h j hj;obtain⟨b,hb⟩:∃r,l[j]?=some r:=⟨_,zge (List.mem_range.1 hj)⟩;rw [xT hb,h j b hb];rfl
theorem Kt{α:Type}{l:List α}{c q:α}{i:Nat}(h:(l++[c])[i]?=some q):l[i]?=some q\/(i=l.length/\q=c):=by
 rcases Nat.lt_trichotomy i l.length with hi|hi|hi
 ·rw [List.getElem?_append_left hi] at h;exact .inl h
 ·subst hi;simp at h;exact .inr ⟨rfl,h.symm⟩
 ·rw [List.getElem?_eq_none (by simp;omega)] at h;cases h
theorem LegL.snoc{g:Int}{all:List (List qc)}{l:List qc}{c:qc}(h:LegL g all l)(hl:l.length<all.length)(hc:c∈(all[l.length]?).getD [])(hf:wx g l c l.length=true):LegL g all (l++[c]):=by
 refine⟨by rw [List.length_append,List.length_singleton];omega,fun i q hi=>?_,fun i k a b hk ha hb=>?_⟩
 ·rcases Kt hi with hi|⟨rfl,rfl⟩
  ·exact h.ch i q hi
  ·exact hc
 ·rcases Kt ha with g1|⟨g1,g2⟩
  ·rcases Kt hb with g3|⟨g3,g4⟩
   ·exact h.ap i k a b hk g1 g3
   ·have:=(zgs g1).1;omega
  ·rcases Kt hb with g3|⟨g3,g4⟩
   ·rw [g1,g2];exact WS.1 hf k b g3
   ·omega
theorem Z5{f:qc->List qc}{N:Nat}:∀cs:List qc,(QC f N cs=[]/\∀c∈cs,(f c).length≠N)\/∃(i:Nat) (c:qc),cs[i]?=some c/\(∀x∈cs.take i,(f x).length≠N)/\(f c).length=N/\QC f N cs=f c
 |[]=>.inl ⟨rfl,fun c hc=>by cases hc⟩
 |c::cs=>by
  by_cases h:(f c).length=N
  ·exact .inr ⟨0,c,rfl,fun x hx=>by simp at hx,h,by rw [QC,if_pos h]⟩
  ·rcases Z5 cs with⟨h1,h2⟩|⟨i,d,h1,h2,h3,h4⟩
   ·refine .inl ⟨by rw [QC,if_neg h,h1],fun x hx=>?_⟩;rcases List.mem_cons.1 hx with rfl|hx
    ·exact h
    ·exact h2 x hx
   ·refine .inr ⟨i+1,d,by simpa using h1,fun x hx=>?_,h3,by rw [QC,if_neg h,h4]⟩;rw [List.take_succ_cons] at hx;rcases List.mem_cons.1 hx with rfl|hx
    ·exact h
    ·exact h2 x hx
theorem OL{f:qc->List qc}{N:Nat}{cs:List qc}{i:Nat}{c:qc}(h:cs[i]?=some c)(hb:∀x∈cs.take i,(f x).length≠N)(hc:(f c).length=N):QC f N cs=f c:=by
 induction cs generalizing i with
 |nil=>simp at h
 |cons x cs ih=>
  cases i with
  |zero=>simp at h;subst h;rw [QC,if_pos hc]
  |succ i=>
   rw [QC,if_neg (hb x (by simp)),ih (by simpa using h) fun y hy=>hb y (by rw [List.take_succ_cons];exact List.mem_cons_of_mem _ hy)]
def QF(g:Int)(all:List (List qc))(n:Nat)(l:List qc)(c:qc):List qc:=if wx g l c l.length=true then yq g all n (l++[c]) else []
theorem Ks(g:Int)(all:List (List qc))(n:Nat)(l:List qc):yq g all (n+1) l=QC (QF g all n l) all.length ((all[l.length]?).getD []):=rfl
theorem hU{g:Int}{all:List (List qc)}:∀{n:Nat} {l:List qc},l.length+n=all.length->(yq g all n l).length=all.length\/yq g all n l=[]
 |0,l,h=>.inl (by rw [yq];omega)
 |n+1,l,h=>by
  rw [Ks];rcases Z5 (f:=QF g all n l) (N:=all.length) ((all[l.length]?).getD []) with⟨h1,_⟩|⟨_,c,_,_,h3,h4⟩
  ·exact .inr h1
  ·rw [h4];exact .inl h3
theorem QG{g:Int}{all:List (List qc)}:∀{n:Nat} {l:List qc},LegL g all l->l.length+n=all.length->(yq g all n l).length=all.length->LegL g all (yq g all n l)/\∃t,yq g all n l=l++t
 |0,l,hl,_,_=>⟨hl,[],by rw [yq,List.append_nil]⟩
 |n+1,l,hl,hn,hlen=>by
  rw [Ks] at hlen ⊢;rcases Z5 (f:=QF g all n l) (N:=all.length) ((all[l.length]?).getD []) with⟨h1,_⟩|⟨i,c,h1,_,h3,h4⟩
  ·rw [h1] at hlen;simp at hlen;omega
  ·rw [h4];have hpos:0<all.length:=by omega
   unfold QF at h3 ⊢;by_cases hf:wx g l c l.length=true
   ·rw [if_pos hf] at h3 ⊢;obtain⟨g1,t,g2⟩:=QG (hl.snoc (by omega) (zmg h1) hf) (by rw [List.length_append,List.length_singleton];omega) h3;exact⟨g1,c::t,by rw [g2,List.append_assoc];rfl⟩
   ·rw [if_neg hf] at h3;simp at h3;omega
theorem Wi{α:Type}{m:List α}{i:Nat}{c:α}(h:m[i]?=some c):m.take (i+1)=m.take i++[c]:=by
 obtain⟨hi,rfl⟩:=zgs h;rw [List.take_add_one,h];rfl
theorem PP{g:Int}{all:List (List qc)}{m:List qc}{i:Nat}{c:qc}(hm:LegL g all m)(hi:m[i]?=some c):wx g (m.take i) c (m.take i).length=true:=by
 have hl:(m.take i).length=i:=by rw [List.length_take];have:=(zgs hi).1;omega
 refine WS.2 fun j b hb=>?_;rw [hl];have hj:=(zgs hb).1;rw [hl] at hj;rw [List.getElem?_take,if_pos hj] at hb;exact hm.ap i j c b hj hi hb
theorem J1{g:Int}{all:List (List qc)}{m:List qc}(hm:LegL g all m)(hlen:m.length=all.length):∀{n i:Nat},i+n=all.length->(yq g all n (m.take i)).length=all.length
 |0,i,h=>by rw [yq,List.length_take];omega
 |n+1,i,h=>by
  obtain⟨c,hc⟩:∃c,m[i]?=some c:=⟨_,zge oM⟩;have hl:(m.take i).length=i:=by rw [List.length_take];omega
  have ih:=J1 hm hlen (n:=n) (i:=i+1) oM;rw [Wi hc] at ih;rw [Ks,hl];have hs:(QF g all n (m.take i) c).length=all.length:=by rw [QF,if_pos (PP hm hc)];exact ih
  rcases Z5 (f:=QF g all n (m.take i)) (N:=all.length) ((all[i]?).getD []) with⟨_,h2⟩|⟨_,_,_,_,h3,h4⟩
  ·exact absurd hs (h2 c (hm.ch i c hc))
  ·rw [h4];exact h3
def FL(B:Nat)(L l:List qc):Prop:=∀j,j<l.length->B.testBit j=true->L[j]?=l[j]?
def JT(g:Int)(all:List (List qc))(k B:Nat)(l:List qc):Prop:=∀L,LegL g all L->k<L.length->¬FL B L l
def ji(g:Int)(all:List (List qc))(k B:Nat)(l:List qc)(cs:List qc):Prop:=∀L,LegL g all L->k<L.length->FL B L l->∀q∈cs,L[l.length]?≠some q
theorem ji.nil{g:Int}{all:List (List qc)}{k B:Nat}{l:List qc}:ji g all k B l []:=fun _ _ _ _ q hq=>by cases hq
theorem ji.end{g:Int}{all:List (List qc)}{k B:Nat}{l C:List qc}(hC:all[l.length]?=some C)(hk:l.length<=k)(h:ji g all k B l C):JT g all k B l:=fun L hL hlen ha=>by
 obtain⟨q,hq⟩:∃q,L[l.length]?=some q:=⟨_,zge oM⟩;have:=hL.ch _ q hq;rw [hC] at this;exact h L hL hlen ha q this hq
theorem ji.mono{g:Int}{all:List (List qc)}{k k' B B':Nat}{l C:List qc}(h:ji g all k B l C)(hk:k<=k')(hB:∀j,j<l.length->B.testBit j=true->B'.testBit j=true):ji g all k' B' l C:=fun L hL hlen ha=>h L hL oM fun j hj hb=>ha j hj (hB j hj hb)
theorem ji.clash{g:Int}{all:List (List qc)}{k B j:Nat}{l C:List qc}{c b:qc}(h:ji g all k B l C)(hb:l[j]?=some b)(hB:B.testBit j=true)(hc:jT g j b l.length c=true):ji g all k B l (C++[c]):=fun L hL hlen ha q hq e=>by
 rcases List.mem_append.1 hq with hq|hq
 ·exact h L hL hlen ha q hq e
 ·rw [List.mem_singleton] at hq;subst hq;have hj:=(zgs hb).1;have h1:=ha j hj hB;rw [hb] at h1;rw [XA,hL.ap l.length j q b hj e h1] at hc;cases hc
theorem ji.fail{g:Int}{all:List (List qc)}{k B B':Nat}{l C:List qc}{c:qc}(h:ji g all k B l C)(hs:JT g all k B' (l++[c]))(hB:∀j,j<l.length->B'.testBit j=true->B.testBit j=true):ji g all k B l (C++[c]):=fun L hL hlen ha q hq e=>by
 rcases List.mem_append.1 hq with hq|hq
 ·exact h L hL hlen ha q hq e
 ·rw [List.mem_singleton] at hq;subst hq;refine hs L hL hlen fun j hj hb=>?_;by_cases hjl:j<l.length
  ·rw [List.getElem?_append_left hjl];exact ha j hjl (hB j hjl hb)
  ·have:j=l.length:=by rw [List.length_append,List.length_singleton] at hj;omega
   subst this;rw [e];simp
theorem JT.drop{g:Int}{all:List (List qc)}{k B:Nat}{l:List qc}{c:qc}(hs:JT g all k B (l++[c]))(hB:B.testBit l.length=false):JT g all k B l:=fun L hL hlen ha=>hs L hL hlen fun j hj hb=>by
 by_cases hjl:j<l.length
 ·rw [List.getElem?_append_left hjl];exact ha j hjl hb
 ·have:j=l.length:=by rw [List.length_append,List.length_singleton] at hj;omega
  subst this;rw [hB] at hb;cases hb
theorem ji.step{g:Int}{all:List (List qc)}{k B n:Nat}{l C:List qc}(hl:LegL g all l)(hn:l.length+(n+1)=all.length)(hk:k<all.length)(h:ji g all k B l C)(hC:∀c∈C,c∈(all[l.length]?).getD []):∀c∈C,(QF g all n l c).length≠all.length:=fun c hc hlen=>by
 unfold QF at hlen;by_cases hf:wx g l c l.length=true
 ·rw [if_pos hf] at hlen;obtain⟨g1,t,g2⟩:=QG (hl.snoc (by omega) (hC c hc) hf) (by rw [List.length_append,List.length_singleton];omega) hlen;refine h _ g1 oM (fun j hj _=>?_) c hc ?_
  ·rw [g2,List.append_assoc,List.getElem?_append_left hj]
  ·rw [g2,List.append_assoc];simp
 ·rw [if_neg hf] at hlen;simp at hlen;omega
theorem SN{p:Pic}{l:List qc}(hFi:Xr p)(hF:Y9 p)(hl:∀q∈l,qE 1000000 q):DK 43 [yW p,qz l] fun d=>d=.bool (qx p&&yQ p l):=by
 refine qD qbR rfl xa fun Z0 lo=>?_;have hcv:=W9 hFi;by_cases hlen:l.length=p.fs.length
 ·have b1:((l.length:Int)!=(p.fs.length:Int))=false:=by rw [hlen];simp
  refine qU ?_;intros;refine qk rfl rfl hcv ?_;rintro _ rfl;cases hv:qx p with
  |false=>
   refine qb ?_;intros;refine qd rfl (fun _=>?_) (fun h=>by cases h);refine qb ?_;intros;exact qf ⟨_,rfl,rfl,rfl⟩
  |true=>
   have hl8:=(qT hv).1;have hlp:(true&&yQ p l)=(List.range l.length).all (QO p l):=by
    rw [yQ,decide_eq_true hlen,YW,decide_eq_true (by omega)];simp only [Bool.true_and]
   rw [hlp];refine qb ?_;intros;refine qd rfl (fun h=>by cases h) (fun _=>?_);refine qb ?_;intros;refine qk rfl rfl (nD hv) ?_;rintro _ ⟨A,hA,rfl⟩;refine qb ?_;intros;refine qm (fun m E S nk=>∃i:Nat,i+m=l.length/\(∀j,j<i->QO p l j=true)/\E=[(1,qz l),(5,Xu p A),(22,qz l),(23,.int l.length),(24,.int i)]/\S=[]/\nk=0)
    ⟨l.length,_,_,_,[],?wk,0,oM,fun j hj=>oM,rfl,rfl,rfl⟩ ?_
   case wk=>exact ql
   rintro m E S nk ⟨i,hi,hok,rfl,rfl,rfl⟩;refine qb ?_;intros;refine qd rfl (fun hi2=>?_) (fun hi2=>?_)
   ·have hi2:i<l.length:=by have:=xL hi2;omega
    obtain⟨q,hq⟩:∃r,l[i]?=some r:=⟨_,zge hi2⟩;have e1:=xi hq;have hqs:=hl q (zmg hq);have hqa:=xT hq;refine qb ?_;intros;refine qk rfl rfl (EX (i:=i) (q:=q) hv hF hA oM hqs) ?_;rintro _ rfl;refine qb ?_;intros;refine qd rfl (fun hf=>?_) (fun hf=>?_)
    ·have hf:ya p i q=false:=by simpa using hf
     refine qb ?_;intros;refine qf ⟨_,rfl,rfl,?_⟩;rw [WB hi2 (by rw [QO,hqa,hf,Bool.false_and])]
    ·have hf:ya p i q=true:=by simpa using hf
     refine qb ?_;intros;refine kr 0 (fs:=qh q) rfl ?_;refine qm (fun m E S nk=>∃k:Nat,k+m=i/\(∀j,j<k->jT p.gap i q j (xH l j)=false)/\E=[(1,qz l),(5,Xu p A),(22,qz l),(23,.int l.length),(24,.int i),(6,.int i),(7,.one (.fptr (qh q))),(34,.int i),(35,.int k)]/\S=[]/\nk=0)
      ⟨i,_,_,_,[],?wk2,0,oM,fun j hj=>oM,rfl,rfl,rfl⟩ ?_
     case wk2=>exact ql
     rintro m2 E S nk ⟨k,hk,hok2,rfl,rfl,rfl⟩;refine qb ?_;intros;refine qd rfl (fun hk2=>?_) (fun hk2=>?_)
     ·have hk2:k<i:=by have:=xL hk2;omega
      obtain⟨b,hb⟩:∃r,l[k]?=some r:=⟨_,zge oM⟩;have e2:=xi hb;have hbs:=hl b (zmg hb);have hba:=xT hb;have hcl:=r7 (p:=p) (A:=A) (i:=k) (k:=i) oM oM hbs hqs;rw [XA] at hcl;refine qb ?_;intros;refine qk rfl rfl hcl ?_;rintro _ rfl;refine qb ?_;intros;refine qd rfl (fun hd=>?_) (fun hd=>?_)
      ·refine qb ?_;intros;refine qf ⟨_,rfl,rfl,?_⟩;rw [WB hi2 (by rw [QO,hqa,WB hk2 (by rw [hba,hd];rfl),Bool.and_false])]
      ·refine qb ?_;intros;refine⟨m2-1,oM,_,_,_,[],?wk3,k+1,oM,?hno,rfl,rfl,rfl⟩
       case hno=>
        intro j hj;by_cases hjk:j=k
        ·subst hjk;rw [hba];exact hd
        ·exact hok2 j oM
       case wk3=>exact ql
     ·have hk2:k=i:=by have:=xP hk2;omega
      subst hk2;refine qb ?_;intros;refine⟨m-1,oM,_,_,_,[],?wk4,k+1,oM,?hno2,rfl,rfl,rfl⟩
      case hno2=>
       intro j hj;by_cases hjk:j=k
       ·subst hjk;rw [QO,hqa,hf,Bool.true_and];exact aY fun x hx=>by rw [hok2 x hx];rfl
       ·exact hok j oM
      case wk4=>exact ql
   ·have hi2:i=l.length:=by have:=xP hi2;omega
    subst hi2;refine qb ?_;intros;refine qf ⟨_,rfl,rfl,?_⟩;rw [aY hok]
 ·have b1:((l.length:Int)!=(p.fs.length:Int))=true:=by
   have:¬(l.length:Int)=p.fs.length:=by omega
   simpa using this
  refine qU ?_;intros;refine qd rfl (fun _=>?_) (fun h=>by cases h);refine qU ?_;intros;refine qf ⟨_,rfl,rfl,?_⟩;rw [yQ,decide_eq_false hlen,Bool.false_and,Bool.and_false]
abbrev AW(f:FuncId)(a:Nat)(ds:List DV)(S:Bx)(nk:Nat)(R:DV->Bx->Nat->Prop):Prop:=∀Z0 lo anc β0 H1,anc<=a->OG (parK Z0 lo anc β0 H1) a f ds S nk R
theorem KU {f:FuncId} {a:Nat} {sf:SFn} (hf:qG Tryz.prog 1 f=some sf) {ds:List DV} {S:Bx} {nk:Nat} {R:DV->Bx->Nat->Prop} (hn:Nat.ble ds.length sf.n=true) (hank:a<=nk)
 (h:∀Z β H lo,DPS (parK Z lo a β H) sf.n sf.code (c6 (parK Z lo a β H) sf.res R) (QY ds 0) S nk):AW f a ds S nk R:=fun Z0 lo anc β0 H1 ha=>qaB (p:=parK Z0 lo anc β0 H1) hf hn ha hank fun Z β H=>h Z β H lo
def Jo(a b c:FD):Bk:=.cells [.f a,.f b,.f c]
theorem GL{cs:List (List qc)}{i:Nat}{x:List qc}(h:cs[i]?=some x):xK (cs.map qL) ((i:Int).toNat) 1=some [qL x]:=by
 have:=VE h;rw [Nat.mul_one] at this;exact this
theorem dZ{p:Pic}{all:List (List qc)}{fa fb fc:FD}(ha8:1<=all.length/\all.length<=8)(hs:∀c∈all,(∀q∈c,qE 1000000 q)/\c.length<1000000):∀(n:Nat) {l:List qc},l.length+n=all.length->(∀q∈l,qE 1000000 q)->
 AW 49 2 [yW p,qz l,.one (.own 0 0 all.length 1)] [(0,.data (all.map qL)),(1,Jo fa fb fc)] 2 fun d S' _=>d=qz (yq p.gap all n l)/\S'=[(0,.data (all.map qL)),(1,Jo fa fb fc)]
 |0,l,hl,hsl=>by
  refine KU IW rfl oM fun Z β H lo=>?_;have b1:((l.length:Int)==(all.length:Int))=true:=by rw [<-hl];simp
  refine qU ?_;intros;refine qd rfl (fun _=>?_) (fun h=>by cases h);refine qU ?_;intros;exact qf ⟨_,rfl,rfl,_,qe rfl (qe rfl (qy _)),rfl,rfl⟩
 |n+1,l,hl,hsl=>by
  have ih:=fun c (hc:qE 1000000 c)=>dZ (p:=p) (fa:=fa) (fb:=fb) (fc:=fc) ha8 hs n (l:=l++[c]) (by rw [List.length_append,List.length_singleton];omega) (fun q hq=>by
   rcases List.mem_append.1 hq with hq|hq
   ·exact hsl q hq
   ·rw [List.mem_singleton] at hq;rw [hq];exact hc)
  refine KU IW rfl oM fun Z β H lo=>?_;have b1:((l.length:Int)==(all.length:Int))=false:=by
   have:¬(l.length:Int)=all.length:=by omega
   simpa using this
  obtain⟨C,hC⟩:∃r,all[l.length]?=some r:=⟨_,zge oM⟩;have hCs:=hs C (zmg hC);have e0:=GL hC;have hlen:all[l.length]?.getD []=C:=by rw [hC];rfl
  have hlf:=xc l;rw [yq,hlen];generalize hf:(fun c=>if wx p.gap l c l.length=true then yq p.gap all n (l++[c]) else [])=f
  refine jp ?_;refine jq j3 (fun base=>?_);refine Xm rfl ?_;refine zJ rfl ?_;refine yA ?_;refine kr 2 (fs:=yZ p) rfl ?_;refine qU ?_;intros;refine qd rfl (fun h=>by cases h) (fun _=>?_);clear b1;refine qb ?_;intros;refine qm (fun m E S nk=>∃j:Nat,j+m=C.length/\QC f all.length C=QC f all.length (C.drop j)/\E=[(1,qz l),(2,.one (.own 0 0 all.length 1)),(3,.one (.fptr (yZ p))),(7,.int l.length),(8,.int j)]/\S=[(0,.data (all.map qL)),(1,Jo fa fb fc)]/\nk=2)
   ⟨C.length,_,_,_,[],?wk,0,oM,rfl,rfl,rfl,rfl⟩ ?_
  case wk=>exact⟨ze,⟨rfl,rfl,rfl,rfl,rfl,rfl,trivial⟩,rfl,rfl⟩
  rintro m E S nk ⟨j,hj,htr,rfl,rfl,rfl⟩;refine qb ?_;intros;refine qd rfl (fun hj2=>?_) (fun hj2=>?_)
  ·have hj2:j<C.length:=by have:=xL hj2;omega
   obtain⟨c,hc⟩:∃r,C[j]?=some r:=⟨_,zge hj2⟩;have e1:=xi hc;have hcs:=hCs.1 c (zmg hc);have hdr:C.drop j=c::C.drop (j+1):=by
    rw [List.drop_eq_getElem_cons hj2];rw [(zgs hc).2]
   rw [hdr,QC] at htr;have n1:=z7 l.length c;refine qb ?_;intros;refine qm (fun m E S nk=>∃(k:Nat) (w:Bool),k+m=l.length/\w=wx p.gap l c k/\E=[(1,qz l),(2,.one (.own 0 0 all.length 1)),(3,.one (.fptr (yZ p))),(7,.int l.length),(8,.int j),(9,.bool w),(10,.int k)]/\S=[(0,.data (all.map qL)),(1,Jo fa fb fc)]/\nk=2)
    ⟨l.length,_,_,_,[],?wk2,0,true,oM,rfl,rfl,rfl,rfl⟩ ?_
   case wk2=>exact⟨ze,⟨rfl,rfl,rfl,rfl,rfl,rfl,trivial⟩,rfl,rfl⟩
   rintro m2 E S nk ⟨k,w,hk,hw,rfl,rfl,rfl⟩;refine qb ?_;intros;refine qd rfl (fun hk2=>?_) (fun hk2=>?_)
   ·have hk2:k<l.length:=by have:=xL hk2;omega
    obtain⟨b,hb⟩:∃r,l[k]?=some r:=⟨_,zge hk2⟩;have e2:=xi hb;have hbs:=hsl b (zmg hb);have n2:=z7 k b;have hfs:=uC (g:=p.gap) (c:=c) hb;rw [<-hw] at hfs;clear hw;cases w with
    |false=>
     refine qb ?_;intros;refine⟨m2-1,oM,_,_,_,[],?wk3,k+1,false,oM,hfs.symm,rfl,rfl,rfl⟩
     case wk3=>exact⟨ze,⟨rfl,rfl,rfl,rfl,rfl,rfl,trivial⟩,rfl,rfl⟩
    |true=>
     refine qb ?_;intros;refine qk rfl rfl (Zf (i:=l.length) (q:=c) oM hcs) ?_;rintro _ rfl;refine qb ?_;intros;refine qk rfl rfl (Zf (i:=k) (q:=b) oM hbs) ?_;rintro _ rfl;refine qb ?_;intros;refine qk rfl rfl (v6 (vu hcs) (vu hbs) oM oM) ?_;rintro _ rfl;have b2:decide (x8 (qS l.length c) (qS k b)>p.gap)=wx p.gap l c (k+1):=by
      rw [hfs,Bool.true_and,jT];by_cases h:x8 (qS l.length c) (qS k b)<=p.gap
      ·rw [decide_eq_true h,decide_eq_false (by omega)];rfl
      ·rw [decide_eq_false h,decide_eq_true (by omega)];rfl
     clear hfs;refine qU ?_;intros;refine⟨m2-1,oM,_,_,_,[],?wk4,k+1,_,oM,rfl,rfl,rfl,rfl⟩
     case wk4=>exact⟨ze,⟨rfl,rfl,rfl,rfl,rfl,rfl,trivial⟩,rfl,rfl⟩
   ·have hk2:k=l.length:=by have:=xP hk2;omega
    subst hk2;have hfc:f c=if w=true then yq p.gap all n (l++[c]) else []:=by rw [<-hf,hw]
    clear hw;cases w with
    |false=>
     refine qb ?_;intros;refine qd rfl (fun _=>?_) (fun h=>by cases h);refine qb ?_;intros;refine⟨m-1,by omega,_,_,_,[],?wk5,j+1,by omega,by rw [htr,if_neg (by rw [hfc];simp;omega)],rfl,rfl,rfl⟩
     case wk5=>exact⟨ze,⟨rfl,rfl,rfl,rfl,rfl,rfl,trivial⟩,rfl,rfl⟩
    |true=>
     rw [if_pos rfl] at hfc;refine qb ?_;intros;refine qd rfl (fun h=>by cases h) (fun _=>?_);refine qb ?_;intros;refine qY (m:=l.length) (q:=l.flatMap qh) (l':=[]) rfl rfl rfl rfl ⟨rfl,rfl,rfl⟩ oM oM (by decide) rfl ?_;refine qb ?_;intros;refine qY (m:=1) (q:=qh c) rfl rfl rfl (qI _ (by rw [List.nil_append,hlf,Nat.zero_add])) ⟨rfl,rfl,_,rfl,rfl⟩ (by omega) (by omega) (by decide) rfl ?_;have hf4:([]++l.flatMap qh++qh c).length=(0+l.length+1)*2:=by
      rw [List.nil_append,List.length_append,hlf,show (qh c).length=2 from rfl];omega
     have h4:DV.one (.f (.sl 2 (0+l.length+1) ([]++l.flatMap qh++qh c)))=qz (l++[c]):=by
      rw [qz,List.nil_append,Nat.zero_add];simp
     refine XQ 5 rfl qR qR ?_;refine EF (E0:=[(1,qz l),(2,.one (.own 0 0 all.length 1)),(3,.one (.fptr (yZ p))),(7,.int l.length),(8,.int j),(61,yW p),(71,qz (l++[c])),(72,.one (.own 0 0 all.length 1))]) (S0:=[(0,.data (all.map qL)),(1,Jo fa fb fc)]) (n0:=2) (a:=2) [] ⟨⟨rfl,rfl,rfl,rfl,rfl,rfl,rfl,rfl,rfl,rfl,rfl,rfl,congrArg some h4,rfl,rfl,rfl,trivial⟩,⟨rfl,rfl,rfl,rfl,rfl,rfl,trivial⟩,rfl,rfl⟩ rfl rfl rfl ⟨ze,trivial,rfl,rfl⟩ (ih c hcs _ _ _ _ _ (Nat.le_refl _)) ?_;rintro _ S' nk' ⟨rfl,rfl⟩;rw [<-hfc];refine qb ?_;intros;refine qd rfl (fun hb=>?_) (fun hb=>?_)
     ·have hb:(f c).length=all.length:=by
       have h:((f c).length:Int)=all.length:=by simpa using hb
       omega
      refine qb ?_;intros;refine qf ⟨_,rfl,rfl,_,qe rfl (qe rfl (qy _)),?_,rfl⟩;rw [htr,if_pos hb];rfl
     ·have hb:¬(f c).length=all.length:=fun h=>by
       rw [h] at hb;simp at hb
      refine qb ?_;intros;refine⟨m-1,by omega,_,_,_,[],?wk6,j+1,by omega,by rw [htr,if_neg hb],rfl,rfl,rfl⟩
      case wk6=>exact⟨ze,⟨rfl,rfl,rfl,rfl,rfl,rfl,trivial⟩,rfl,rfl⟩
  ·have hj2:j=C.length:=by have:=xP hj2;omega
   subst hj2;rw [List.drop_length] at htr;rw [htr];refine qb ?_;intros;refine cG 6 2 rfl ?_;exact qf ⟨_,rfl,rfl,_,qe rfl (qe rfl (qy _)),rfl,rfl⟩
theorem sP{p:Pic}{all:List (List qc)}{fa fb fc:FD}(ha8:1<=all.length/\all.length<=8)(hs:∀c∈all,(∀q∈c,qE 1000000 q)/\c.length<1000000):
 AW 49 2 [yW p,.one (.f (.c .nils)),.one (.own 0 0 all.length 1)] [(0,.data (all.map qL)),(1,Jo fa fb fc)] 2 fun d S' _=>d=qz (yq p.gap all all.length [])/\S'=[(0,.data (all.map qL)),(1,Jo fa fb fc)]:=fun Z0 lo anc β0 H1 ha Z β H args hS hag=>by
 refine dZ (p:=p) (fa:=fa) (fb:=fb) (fc:=fc) ha8 hs all.length (l:=[]) (by simp) (fun q hq=>by cases hq) Z0 lo anc β0 H1 ha Z β H args hS ?_
 match args,hag with
 |[v1,v2,v3],⟨h1,⟨c,hv,hc⟩,h3⟩=>
  refine⟨h1,⟨c,hv,?_⟩,h3⟩;cases hc;exact (RF.nil 2:RF Z H (.sl 2 0 []) .nils)
theorem Ko(p:Pic)(i:Nat):zp p (i+1)=zp p i++[jh p i]:=by simp [zp,List.range_succ]
theorem zo(p:Pic)(i:Nat):(zp p i).length=i:=by simp [zp]
def OB(p:Pic):Nat->List qc
 |0=>[]
 |i+1=>kN p i
theorem V4{p:Pic}(hv:qx p=true):DK 17 [yW p] fun d=>∃r,PlcR p r/\d=qqv r:=by
 refine qD qce rfl xa fun Z0 lo=>?_;have hl8:=(qT hv).1;refine jp ?_;refine jq j3 (fun base=>?_);refine Xm rfl ?_;refine Xm rfl ?_;refine yA ?_;refine kr 0 (fs:=yZ p) rfl ?_;refine qb ?_;intros;refine xn 3 rfl qR qR ?_;refine qm (fun m E S nk=>∃i:Nat,i+m=p.fs.length/\(∀j,j<i->¬(kN p j).length<=j)/\E=[(1,.one (.fptr (yZ p))),(2,.one (.ptr 1 0)),(3,.one (.own 0 0 i 1)),(4,qz (OB p i)),(5,.int i)]/\S=[(0,.data ((zp p i).map qL)),(1,Jo (.c .nils) (.c (.int .i64 0)) (.c (.int .i64 0)))]/\nk=2)
  ⟨p.fs.length,_,_,_,[(0,2)],?wk,0,oM,fun j hj=>oM,rfl,rfl,rfl⟩ ?_
 case wk=>exact⟨ze,⟨rfl,rfl,rfl,rfl,rfl,rfl,trivial⟩,rfl,rfl⟩
 rintro m E S nk ⟨i,hi,hok,rfl,rfl,rfl⟩;refine qb ?_;intros;refine qd rfl (fun hi2=>?_) (fun hi2=>?_)
 ·have hi2:i<p.fs.length:=by have:=xL hi2;omega
  have hal:=zo p i;have hml:((zp p i).map qL).length=i*1:=by rw [List.length_map];omega
  have hsr:=sP (p:=p) (all:=zp p (i+1)) (fa:=.c .nils) (fb:=.c (.int .i64 0)) (fc:=.c (.int .i64 0)) (by rw [zo];omega) (fun c hc=>by
   obtain⟨k,hk,rfl⟩:=List.mem_map.1 hc;exact YE hv k)
  rw [zo,Ko,List.map_append] at hsr;have hst:yq p.gap (zp p i++[jh p i]) (i+1) []=kN p i:=by rw [kN,Ko]
  rw [hst] at hsr;refine qb ?_;intros;refine qk rfl rfl (SU hv hi2) ?_;rintro _ rfl;refine qb ?_;intros;refine qY (m:=1) (q:=[qL (jh p i)]) rfl rfl rfl (qI _ hml) ⟨rfl,rfl,_,rfl,rfl⟩ oM oM (by decide) rfl ?_;refine qb ?_;intros;have hmm:(zp p i).map qL++[jh p i].map qL=(zp p (i+1)).map qL:=by rw [Ko,List.map_append]
  refine EF (E0:=[(1,.one (.fptr (yZ p))),(2,.one (.ptr 1 0)),(3,.one (.own 0 0 (i+1) 1)),(5,.int i),(22,yW p),(23,.one (.own 0 0 (i+1) 1))]) (S0:=[(0,.data ((zp p i).map qL++[jh p i].map qL)),(1,Jo (.c .nils) (.c (.int .i64 0)) (.c (.int .i64 0)))]) (n0:=2) (a:=2) [(0,3)] ⟨ze,⟨rfl,rfl,rfl,rfl,rfl,rfl,trivial⟩,rfl,rfl⟩ rfl rfl rfl ⟨ze,trivial,rfl,rfl⟩ (hsr _ _ _ _ _ (Nat.zero_le _)) ?_;rintro _ S' nk' ⟨rfl,rfl⟩;refine qb ?_;intros;refine qd rfl (fun hb=>?_) (fun hb=>?_)
  ·have hb:=xL hb;refine jp ?_;refine jq j3 (fun base=>?_);refine zJ rfl ?_;refine zJ rfl ?_;refine R6 (t:=30) 2 rfl ?_;refine qb ?_;intros;exact qf ⟨_,rfl,rfl,([],(i:Int),150),.bad i hi2 oM hok,rfl⟩
  ·have hb:=xP hb;refine qb ?_;intros;refine⟨m-1,oM,_,_,_,[],?wk2,i+1,oM,fun j hj=>?_,rfl,rfl,rfl⟩
   case wk2=>exact⟨ze,⟨congrArg (fun z=>some (Bk.data z)) hmm,rfl,rfl,rfl,rfl,rfl,trivial⟩,rfl,rfl⟩
   by_cases hji:j=i
   ·subst hji;omega
   ·exact hok j oM
 ·have hi2:i=p.fs.length:=by have:=xP hi2;omega
  subst hi2;have hbest:OB p p.fs.length=kN p (p.fs.length-1):=by
   obtain⟨k,hk⟩:∃k,p.fs.length=k+1:=⟨p.fs.length-1,oM⟩;rw [hk];rfl
  rw [hbest];refine qb ?_;intros;exact qf ⟨_,rfl,rfl,_,.ok hok,rfl⟩
theorem fW{n:Int}(h1:0<=n)(h2:n<18446744073709551616):IntKind.u64.wrap n=n:=by
 simp [IntKind.wrap,IntKind.signed,IntKind.bits];omega
theorem ZR{a:Nat}(ha:a<256):(BitVec.ofInt 64 (a:Int)).toNat=a:=by
 rw [BitVec.ofInt_natCast,BitVec.toNat_ofNat,Nat.mod_eq_of_lt (by omega)]
theorem KB{k:Nat}(hk:k<8):2^k<256:=Nat.pow_lt_pow_right oM hk
theorem i5{a b:Nat}(ha:a<256)(hb:b<256):a|||b<256:=Nat.or_lt_two_pow (n:=8) ha hb
theorem qpG{k:Nat}(hk:k<8):jW .shl .u64 1 .i64 (k:Int)=some (.int .u64 ((2^k:Nat):Int)):=by
 have h1:¬(k:Int)<0:=by omega
 have h2:=KB hk;have h3:min (k:Int).toNat IntKind.u64.bits=k:=by
  show min k 64=k
  omega
 simp only [jW,if_neg h1,h3];rw [Int.one_mul,show (2:Int)^k=((2^k:Nat):Int) by push_cast;rfl];generalize 2^k=m at h2 ⊢;rw [fW (by omega) (by omega)]
theorem quc{a b:Nat}(ha:a<256)(hb:b<256):jW .or .u64 (a:Int) .u64 (b:Int)=some (.int .u64 ((a|||b:Nat):Int)):=by
 have h:=i5 ha hb;simp only [jW,ne_eq,not_true_eq_false,if_false,reduceIte];show some (C.int .u64 (IntKind.u64.wrap ((BitVec.ofInt 64 (a:Int)|||BitVec.ofInt 64 (b:Int)).toNat:Nat)))=_;rw [BitVec.toNat_or,ZR ha,ZR hb,fW (by omega) (by omega)]
theorem qpF{a k:Nat}(hk:k<8):jW .shr .u64 (a:Int) .i64 (k:Int)=some (.int .u64 ((a/2^k:Nat):Int)):=by
 have h1:¬(k:Int)<0:=by omega
 have h3:min (k:Int).toNat IntKind.u64.bits=k:=by
  show min k 64=k
  omega
 simp only [jW,if_neg h1,h3];rw [Int.fdiv_eq_ediv_of_nonneg _ (Int.le_of_lt (Int.pow_pos (by omega))),show (2:Int)^k=((2^k:Nat):Int) by push_cast;rfl];rfl
theorem qct{a:Nat}(ha:a<256):jW .and .u64 (a:Int) .u64 1=some (.int .u64 ((a % 2:Nat):Int)):=by
 simp only [jW,ne_eq,not_true_eq_false,if_false,reduceIte];show some (C.int .u64 (IntKind.u64.wrap ((BitVec.ofInt 64 (a:Int)&&& BitVec.ofInt 64 ((1:Nat):Int)).toNat:Nat)))=_;rw [BitVec.toNat_and,ZR ha,ZR (by omega),Nat.and_one_is_mod,fW (by omega) (by omega)]
def Yn(W i:Nat):Nat:=(BitVec.ofInt 64 (W:Int)&&& ~~~ BitVec.ofInt 64 ((2^i:Nat):Int)).toNat
theorem V1{W i:Nat}(hW:W<256):Yn W i<256:=by
 unfold Yn;rw [BitVec.toNat_and,ZR hW];exact Nat.lt_of_le_of_lt Nat.and_le_left hW
theorem EJ{W i j:Nat}(hW:W<256)(hi:i<8)(hj:j<8)(hne:j≠i)(h:W.testBit j=true):(Yn W i).testBit j=true:=by
 unfold Yn;rw [BitVec.toNat_and,ZR hW,Nat.testBit_and,h,Bool.true_and,BitVec.testBit_toNat,BitVec.getLsbD_not,<-BitVec.testBit_toNat,ZR (KB hi),Nat.testBit_two_pow_of_ne (fun e=>hne e.symm)];simp;omega
theorem LH{W i:Nat}(hW:W<256):jW .andNot .u64 (W:Int) .u64 ((2^i:Nat):Int)=some (.int .u64 (Yn W i:Int)):=by
 have h:=V1 (i:=i) hW;simp only [jW,ne_eq,not_true_eq_false,if_false,reduceIte];show some (C.int .u64 (IntKind.u64.wrap (Yn W i:Nat)))=_;rw [fW (by omega) (by omega)]
theorem qt7{W i:Nat}:(((W/2^i % 2:Nat):Int)==0)=!W.testBit i:=by
 rw [Nat.testBit_eq_decide_div_mod_eq];rcases Nat.mod_two_eq_zero_or_one (W/2^i) with h|h<;>rw [h]<;>rfl
theorem LX{k:Nat}(hk:k<8):IntKind.u64.wrap (1*2^min (k:Int).toNat IntKind.u64.bits)=((2^k:Nat):Int):=by
 have h:=qpG hk;simp only [jW,if_neg (show¬(k:Int)<0 by omega),zoi,C.int.injEq,true_and] at h;exact h
theorem UD{a b:Nat}(ha:a<256)(hb:b<256):IntKind.u64.wrap ((BitVec.ofInt IntKind.u64.bits (a:Int)|||BitVec.ofInt IntKind.u64.bits (b:Int)).toNat:Nat)=((a|||b:Nat):Int):=by
 have h:=quc ha hb;simp only [jW,ne_eq,not_true_eq_false,if_false,reduceIte,zoi,C.int.injEq,true_and] at h;exact h
theorem qcy{a k:Nat}(hk:k<8):(a:Int).fdiv (2^min (k:Int).toNat IntKind.u64.bits)=((a/2^k:Nat):Int):=by
 have h:=qpF (a:=a) hk;simp only [jW,if_neg (show¬(k:Int)<0 by omega),zoi,C.int.injEq,true_and] at h;exact h
theorem UE{a:Nat}(ha:a<256):IntKind.u64.wrap ((BitVec.ofInt IntKind.u64.bits (a:Int)&&& BitVec.ofInt IntKind.u64.bits 1).toNat:Nat)=((a % 2:Nat):Int):=by
 have h:=qct ha;simp only [jW,ne_eq,not_true_eq_false,if_false,reduceIte,zoi,C.int.injEq,true_and] at h;exact h
theorem FV{W i:Nat}(hW:W<256):IntKind.u64.wrap ((BitVec.ofInt IntKind.u64.bits (W:Int)&&& ~~~ BitVec.ofInt IntKind.u64.bits ((2^i:Nat):Int)).toNat:Nat)=((Yn W i:Nat):Int):=by
 have h:=LH (i:=i) hW;simp only [jW,ne_eq,not_true_eq_false,if_false,reduceIte,zoi,C.int.injEq,true_and] at h;exact h
abbrev AE:List (Nat × Nat):=[(0,0),(1,0),(2,0),(3,0),(4,0)]
abbrev VZ(p:Pic)(A:List Bool)(all:List (List qc))(k i:Nat)(D:List FD):Bx:=[(0,.cells [.own 5 0 i 2]),(1,.cells [.f (.c (.int .i64 k))]),(2,.cells [.f (.sl 1 all.length (all.map qL))]),(3,.cells [.fptr (Z6 p (qp p).length ((qp p).map yD) A)]),(4,.cells [.fn 70 AE]),(5,.data D)]
def oF(p:Pic)(all:List (List qc))(m:Nat):Prop:=∃L,LegL p.gap all L/\L.length=m
abbrev aJ(B:Nat):DV:=.one (.f (.c (.int .u64 (B:Int))))
inductive TryR (p:Pic) (A:List Bool) (all:List (List qc)) (n:Nat) (l:List qc) (mst:Nat):DV->Bx->Nat->Prop
 |found (k:Nat) (D:List FD) (hl:(yq p.gap all n l).length=all.length) (hD:xK D 0 (all.length*2)=some ((yq p.gap all n l).flatMap qh)):TryR p A all n l mst (.tup [.bool true,aJ 0]) (VZ p A all k all.length D) 6
 |fail (k B:Nat) (D:List FD) (hB:B<256) (h1:mst<=k) (h2:l.length<=k) (h3:k<all.length) (ha:oF p all k) (hF:JT p.gap all k B l) (hD:xK D 0 (l.length*2)=some (l.flatMap qh)):TryR p A all n l mst (.tup [.bool false,aJ B]) (VZ p A all k l.length D) 6
theorem g9{α:Type}{D q r:List α}{n i m:Nat}(h:xK D 0 n=some q)(h2:xK q i m=some r):xK D i m=some r:=by
 obtain⟨h1,rfl⟩:=zV h;obtain⟨h3,rfl⟩:=zV h2;rw [List.drop_zero] at *;rw [List.length_take] at h3;rw [yj (by omega),List.drop_take,List.take_take];congr 2;omega
theorem LU{p:Pic}{A:List Bool}{all:List (List qc)}(ha8:1<=all.length/\all.length<=8)(hs:∀c∈all,(∀q∈c,qE 1000000 q)/\c.length<1000000):∀(n:Nat) {l:List qc} {i mst:Nat} {D:List FD},l.length=i->i+n=all.length->LegL p.gap all l->mst<all.length->oF p all mst->xK D 0 (i*2)=some (l.flatMap qh)->
 AW 70 5 [.one (.ptr 0 0),.one (.ptr 1 0),.one (.ptr 2 0),.one (.ptr 3 0),.one (.ptr 4 0)] (VZ p A all mst i D) 6 (TryR p A all n l mst)
 |0,l,i,mst,D,hil,hl,hL,hm,hat,hD=>by
  subst hil;refine KU IV rfl oM fun Z β H lo=>?_;obtain⟨m1,hm1⟩:∃m1:Nat,max (mst:Int) (l.length:Int)=(m1:Int):=⟨max mst l.length,oM⟩;have b1:((l.length:Int)==(all.length:Int))=true:=by
   have:l.length=all.length:=by omega
   rw [this];simp
  refine qU ?_;intros;refine m7 ?_;refine qU ?_;intros;rw [hm1];refine qd rfl (fun _=>?_) (fun h=>by cases h);refine qU ?_;intros;have hla:l.length=all.length:=by omega
  have hr:=TryR.found (p:=p) (A:=A) (all:=all) (n:=0) (l:=l) (mst:=mst) m1 D hla (by rw [<-hla];exact hD);rw [<-hla] at hr;exact qf ⟨_,rfl,rfl,_,zK _,hr⟩
 |n+1,l,i,mst,D,hil,hl,hL,hm,hat,hD=>by
  have hls:∀q∈l,qE 1000000 q:=fun q hq=>by
   obtain⟨j,hj⟩:=List.getElem?_of_mem hq;have h1:=hL.ch j q hj;cases hc:all[j]? with
   |none=>rw [hc] at h1;cases h1
   |some c=>rw [hc] at h1;exact (hs c (zmg hc)).1 q h1
  have ih:=fun (c:qc) {k:Nat} {D:List FD} (hf:wx p.gap l c l.length=true) (hc:c∈(all[l.length]?).getD [])=>LU (p:=p) (A:=A) ha8 hs n (l:=l++[c]) (i:=i+1) (mst:=k) (D:=D) (by rw [List.length_append,List.length_singleton];omega) (by omega) (hL.snoc (by omega) hc hf);subst hil;refine KU IV rfl oM fun Z β H lo=>?_;obtain⟨m1,hm1⟩:∃m1:Nat,max (mst:Int) (l.length:Int)=(m1:Int):=⟨max mst l.length,oM⟩;have hat1:oF p all m1:=by
   by_cases h:mst<=l.length
   ·rw [show m1=l.length by omega];exact⟨l,hL,rfl⟩
   ·rw [show m1=mst by omega];exact hat
  have b1:((l.length:Int)==(all.length:Int))=false:=by
   have:¬(l.length:Int)=all.length:=by omega
   simpa using this
  obtain⟨C,hC⟩:∃r,all[l.length]?=some r:=⟨_,zge oM⟩;have hCs:=hs C (zmg hC);have hCg:(all[l.length]?).getD []=C:=by rw [hC];rfl
  have e0:xK (all.map qL) (l.length*1) 1=some [qL C]:=VE hC;have hlf:=xc l;have hi8:l.length<8:=by omega
  refine qU ?_;intros;refine m7 ?_;refine qU ?_;intros;rw [hm1];refine qd rfl (fun h=>by cases h) (fun _=>?_);clear b1;refine qb ?_;intros;refine qm (fun m E S nk=>∃(j B k:Nat) (D:List FD),j+m=C.length/\B<256/\mst<=k/\l.length<=k/\k<all.length/\oF p all k/\ji p.gap all k B l (C.take j)/\xK D 0 (l.length*2)=some (l.flatMap qh)/\E=[(0,.one (.ptr 0 0)),(1,.one (.ptr 1 0)),(2,.one (.ptr 2 0)),(3,.one (.ptr 3 0)),(4,.one (.ptr 4 0)),(7,.int l.length),(8,aJ B),(27,qz C),(28,.int C.length),(29,.int j)]/\S=VZ p A all k l.length D/\nk=6)
   ⟨C.length,_,_,_,[],?wk,0,0,m1,D,oM,oM,oM,oM,oM,hat1,ji.nil,hD,rfl,rfl,rfl⟩ ?_
  case wk=>exact⟨ze,⟨rfl,rfl,rfl,rfl,rfl,rfl,rfl,rfl,rfl,rfl,rfl,rfl,rfl,rfl,rfl,rfl,rfl,rfl,trivial⟩,rfl,rfl⟩
  clear hD hat1 hm1 hat;clear D m1;rintro m E S nk ⟨j,B,k,D,hj,hB,hmk,hlk,hkN,hat,hF,hD,rfl,rfl,rfl⟩;refine qb ?_;intros;refine qd rfl (fun hj2=>?_) (fun hj2=>?_)
  ·have hj2:j<C.length:=by have:=xL hj2;omega
   obtain⟨q,hq⟩:∃r,C[j]?=some r:=⟨_,zge hj2⟩;have e1:=xi hq;have hqs:=hCs.1 q (zmg hq);have htk:C.take (j+1)=C.take j++[q]:=Wi hq;refine qb ?_;intros;refine kr 6 (fs:=qh q) rfl ?_;refine qm (fun m E S nk=>∃k2:Nat,k2+m=l.length/\(∀(j:Nat) b,j<k2->l[j]?=some b->jT p.gap l.length q j b=false)/\E=[(0,.one (.ptr 0 0)),(1,.one (.ptr 1 0)),(2,.one (.ptr 2 0)),(3,.one (.ptr 3 0)),(4,.one (.ptr 4 0)),(7,.int l.length),(8,aJ B),(27,qz C),(28,.int C.length),(29,.int j),(10,.one (.fptr (qh q))),(33,.one (.own 5 0 l.length 2)),(34,.int l.length),(35,.int k2)]/\S=VZ p A all k l.length D/\nk=6)
    ⟨l.length,_,_,_,[],?wk2,0,oM,fun j b hj=>oM,rfl,rfl,rfl⟩ ?_
   case wk2=>exact⟨ze,⟨rfl,rfl,rfl,rfl,rfl,rfl,rfl,rfl,rfl,rfl,rfl,rfl,rfl,rfl,rfl,rfl,rfl,rfl,trivial⟩,rfl,rfl⟩
   rintro m2 E S nk ⟨k2,hk2m,hok,rfl,rfl,rfl⟩;refine qb ?_;intros;refine qd rfl (fun hk2=>?_) (fun hk2=>?_)
   ·have hk2:k2<l.length:=by have:=xL hk2;omega
    obtain⟨b,hb⟩:∃r,l[k2]?=some r:=⟨_,zge hk2⟩;have hbs:=hls b (zmg hb);have e2:xK D ((k2:Int).toNat*2) 2=some (qh b):=g9 hD (xi hb);have hcl:=r7 (p:=p) (A:=A) (i:=k2) (k:=l.length) oM oM hbs hqs;refine qb ?_;intros;refine qk rfl rfl hcl ?_;rintro _ rfl;refine qb ?_;intros;refine qd rfl (fun hd=>?_) (fun hd=>?_)
    ·refine qb ?_;intros;rw [LX (k:=k2) (by omega),UD hB (KB (by omega))];refine⟨m-1,oM,_,_,_,[],?wk3,j+1,B|||2^k2,k,D,oM,i5 hB (KB oM),hmk,hlk,hkN,hat,?_,hD,rfl,rfl,rfl⟩
     case wk3=>exact⟨ze,⟨rfl,rfl,rfl,rfl,rfl,rfl,rfl,rfl,rfl,rfl,rfl,rfl,rfl,rfl,rfl,rfl,rfl,rfl,trivial⟩,rfl,rfl⟩
     rw [htk];refine ji.clash (j:=k2) (hF.mono (Nat.le_refl _) fun x _ hx=>?_) hb ?_ hd
     ·rw [Nat.testBit_or,hx,Bool.true_or]
     ·rw [Nat.testBit_or,Nat.testBit_two_pow_self,Bool.or_true]
    ·refine qb ?_;intros;refine⟨m2-1,oM,_,_,_,[],?wk4,k2+1,oM,fun x b' hx hb'=>?_,rfl,rfl,rfl⟩
     case wk4=>exact⟨ze,⟨rfl,rfl,rfl,rfl,rfl,rfl,rfl,rfl,rfl,rfl,rfl,rfl,rfl,rfl,rfl,rfl,rfl,rfl,trivial⟩,rfl,rfl⟩
     by_cases hxk:x=k2
     ·subst hxk;rw [hb] at hb';obtain rfl:=zsi hb';rw [XA];exact hd
     ·exact hok x b' oM hb'
   ·have hk2:k2=l.length:=by have:=xP hk2;omega
    subst hk2;have hfree:wx p.gap l q l.length=true:=WS.2 fun x b hb=>hok x b (zgs hb).1 hb;have hqC:q∈(all[l.length]?).getD []:=by rw [hCg];exact zmg hq
    have hstep:QF p.gap all n l q=yq p.gap all n (l++[q]):=by rw [QF,if_pos hfree]
    have hsnf:(l++[q]).flatMap qh=l.flatMap qh++qh q:=by simp
    have hfl1:(l.flatMap qh++qh q).length=(l.length+1)*2:=by rw [List.length_append,hlf,show (qh q).length=2 from rfl];omega
    refine qb ?_;intros;refine qY (k:=5) (m:=1) (q:=qh q) rfl rfl rfl hD ⟨rfl,rfl,_,rfl,rfl⟩ oM oM (by decide) rfl ?_;refine qb ?_;intros;refine rT (E0:=[(0,.one (.ptr 0 0)),(1,.one (.ptr 1 0)),(2,.one (.ptr 2 0)),(3,.one (.ptr 3 0)),(4,.one (.ptr 4 0)),(7,.int l.length),(8,aJ B),(27,qz C),(28,.int C.length),(29,.int j),(56,.one (.fn 70 AE))]) (S0:=VZ p A all k (l.length+1) (l.flatMap qh++qh q)) (n0:=6) (a:=5) [(5,7)] ⟨ze,⟨rfl,rfl,rfl,rfl,rfl,rfl,rfl,rfl,rfl,rfl,rfl,rfl,rfl,rfl,rfl,rfl,rfl,rfl,trivial⟩,rfl,rfl⟩ rfl G2 rfl rfl rfl ⟨ze,trivial,rfl,rfl⟩ (ih q hfree hqC hkN hat (by rw [hsnf];exact qI _ hfl1) _ _ _ _ _ (Nat.le_refl _)) ?_;intro d S' nk' hR;cases hR with
    |found k' D' hlen hsub=>
     refine qb ?_;intros;refine qd rfl (fun _=>?_) (fun h=>by cases h);refine qb ?_;intros;have hCf:=ji.step (n:=n) hL (by omega) hkN hF fun c hc=>by rw [hCg];exact List.mem_of_mem_take hc
     have hs1:yq p.gap all (n+1) l=yq p.gap all n (l++[q]):=by
      rw [Ks,hCg,OL hq hCf (by rw [hstep];exact hlen),hstep]
     exact qf ⟨_,rfl,rfl,_,zK _,.found k' D' (by rw [hs1];exact hlen) (by rw [hs1];exact hsub)⟩
    |fail k' W D' hW hk1 hk2 hk3 hat' hFS hsub=>
     rw [List.length_append,List.length_singleton] at hk2 hsub;rw [List.length_append,List.length_singleton];have hD2:xK D' 0 (l.length*2)=some (l.flatMap qh):=by
      refine g9 hsub ?_;rw [hsnf,yj (by rw [hfl1];omega),List.drop_zero,<-hlf,List.take_left]
     have hF2:ji p.gap all k' B l (C.take j):=hF.mono hk1 fun _ _ h=>h;refine qb ?_;intros;refine qd rfl (fun h=>by cases h) (fun _=>?_);refine qb ?_;intros;refine YZ (o':=0) (n':=l.length) rfl rfl rfl (Nat.zero_le _) oM oM oM ?_;refine qb ?_;intros;rw [qcy (a:=W) (k:=l.length) hi8,UE (a:=W/2^l.length) (Nat.lt_of_le_of_lt (Nat.div_le_self _ _) hW),qt7];refine qd rfl (fun hb=>?_) (fun hb=>?_)
     ·refine qb ?_;intros;exact qf ⟨_,rfl,rfl,_,zK _,.fail k' W D' hW (by omega) (by omega) hk3 hat' (hFS.drop (by simpa using hb)) hD2⟩
     ·refine qb ?_;intros;rw [LX (k:=l.length) hi8,FV (i:=l.length) hW,UD hB (V1 hW)];refine⟨m-1,oM,_,_,_,[],?wk5,j+1,B|||Yn W l.length,k',D',oM,i5 hB (V1 hW),oM,oM,hk3,hat',?_,hD2,rfl,rfl,rfl⟩
      case wk5=>exact⟨ze,⟨rfl,rfl,rfl,rfl,rfl,rfl,rfl,rfl,rfl,rfl,rfl,rfl,rfl,rfl,rfl,rfl,rfl,rfl,trivial⟩,rfl,rfl⟩
      rw [htk];refine ji.fail (hF2.mono (Nat.le_refl _) fun x _ hx=>?_) hFS fun x hx hxW=>?_
      ·rw [Nat.testBit_or,hx,Bool.true_or]
      ·rw [Nat.testBit_or,EJ hW hi8 (by omega) (by omega) hxW,Bool.or_true]
  ·have hj2:j=C.length:=by have:=xP hj2;omega
   subst hj2;rw [List.take_length] at hF;refine qb ?_;intros;exact qf ⟨_,rfl,rfl,_,zK _,.fail k B D hB hmk hlk hkN hat (hF.end hC hlk) hD⟩
theorem uW{p:Par}{n:Nat}{Q:Exit->qq->Bx->Nat->Prop}{E:qq}{S:Bx}{nk:Nat}{s:SC}(k m:Nat){l:List FD}(hk:lk S k=some (.data l))(h:DPS p n s Q E (put k (.data (l.take m)) S) nk):DPS p n s Q E S nk:=.mk fun Z β H F hS hE=>by
 refine h.run Z β H F ?_ hE;refine⟨hS.wf,hS.lo,hS.z,hS.zlo,hS.zz,hS.glob,hS.nk,hS.bd,fun κ x hκ=>?_,fun κ κ' x x' b N N' hj hj'=>?_,hS.blo,hS.anch,hS.ancn⟩
 ·rw [Zl hk rfl] at hκ;split at hκ
  ·rename_i e;split at hκ
   ·rename_i e2;obtain rfl:=vZ e e2;obtain rfl:=zsi hκ;obtain⟨s,hs,hbx⟩:=hS.box (k,0) _ (xX hk rfl);refine⟨s,hs,?_⟩;cases s with
    |nil=>
     have:l.length=0:=hbx;show (l.take m).length=0;rw [List.length_take,this];simp
    |blk b N=>
     obtain⟨h1,h2,h3,cs,rest,h4,h5,h6⟩:=hbx;refine⟨h1,h2,h3,cs.take m,cs.drop m++rest,?_,?_,qg.take h6 m⟩
     ·rw [<-List.append_assoc,List.take_append_drop];exact h4
     ·rw [<-List.append_assoc,List.take_append_drop];exact h5
   ·cases hκ
  ·exact hS.box κ x hκ
 ·have f:∀i z,lk (put k (.data (l.take m)) S) i=some z->∃z',lk S i=some z':=fun i z hz=>by
   rw [yx] at hz;split at hz
   ·cases hl:lk S i with
    |none=>rw [hl] at hz;cases hz
    |some q=>exact⟨q,rfl⟩
   ·exact⟨z,hz⟩
  obtain⟨z1,e1⟩:=f _ x hj;obtain⟨z2,e2⟩:=f _ x' hj';exact hS.inj κ κ' z1 z2 b N N' e1 e2
def X0(l:List FD)(k:Nat):List FD:=l.take k++List.replicate (l.length-k) (.c .nils)
theorem HB{l:List FD}{k:Nat}{x:FD}(h:l[k]?=some x):(X0 l k).set k x=X0 l (k+1):=by
 have hk:=(zgs h).1;have h1:(l.take k).length=k:=by rw [List.length_take];omega
 unfold X0;rw [List.set_append_right _ _ (by omega),h1,Nat.sub_self,show l.length-k=(l.length-(k+1))+1 by omega,List.replicate_succ,List.set_cons_zero,List.take_add_one,h];simp
theorem HC{l:List FD}{k:Nat}(h:k<=l.length):(X0 l k).length=l.length:=by
 unfold X0;rw [List.length_append,List.length_take,List.length_replicate];omega
theorem wO{p:Pic}{n j:Nat}(h:j<n):(zp p n)[j]?=some (jh p j):=by simp [zp,h]
theorem pW{p:Pic}{n j:Nat}{L:List qc}(h:LegL p.gap (zp p n) L)(hj:j<L.length):¬(kN p j).length<=j:=by
 have hn:=h.le;rw [zo] at hn;have hl:(L.take (j+1)).length=j+1:=by rw [List.length_take];omega
 have h1:LegL p.gap (zp p (j+1)) (L.take (j+1)):=(h.take (j+1)).all (by rw [hl,zo];omega) fun i hi=>by
  rw [hl] at hi;rw [wO (by omega),wO (by omega)]
 have h2:=J1 h1 (by rw [hl,zo]) (n:=j+1) (i:=0) (by rw [zo];omega);rw [zo,List.take_zero] at h2;unfold kN;omega
theorem U2{p:Pic}(h1:1<=p.fs.length)(hl:(yq p.gap (zp p p.fs.length) p.fs.length []).length=p.fs.length):PlcR p (yq p.gap (zp p p.fs.length) p.fs.length [],(p.fs.length:Int),0):=by
 have hs:=(QG (LegL.nil p.gap (zp p p.fs.length)) (n:=p.fs.length) (by rw [zo];simp) (by rw [hl,zo])).1;have he:yq p.gap (zp p p.fs.length) p.fs.length []=kN p (p.fs.length-1):=by
  obtain⟨k,hk⟩:∃k,p.fs.length=k+1:=⟨p.fs.length-1,oM⟩;rw [hk];rfl
 have hok:=PlcR.ok (p:=p) fun j hj=>pW hs oM;rw [<-he,hl] at hok;exact hok
theorem O2{p:Pic}{k B:Nat}(hk:k<p.fs.length)(ha:oF p (zp p p.fs.length) k)(hF:JT p.gap (zp p p.fs.length) k B []):PlcR p ([],(k:Int),150):=by
 obtain⟨L,hL,hlen⟩:=ha;refine .bad k hk ?_ fun j hj=>pW hL oM;rcases hU (g:=p.gap) (all:=zp p (k+1)) (n:=k+1) (l:=[]) (by rw [zo];simp) with h|h
 ·exfalso;rw [zo] at h;have hs:=(QG (LegL.nil p.gap (zp p (k+1))) (n:=k+1) (by rw [zo];simp) (by rw [h,zo])).1;have h2:LegL p.gap (zp p p.fs.length) (yq p.gap (zp p (k+1)) (k+1) []):=hs.all (by rw [h,zo];omega) fun i hi=>by
   rw [h] at hi;rw [wO (by omega),wO (by omega)]
  exact hF _ h2 (by omega) fun j hj=>by simp at hj
 ·unfold kN;rw [h];simp
def U3(r:cT):DV:=.tup [qz r.1,.int r.2.1,.int r.2.2]
theorem JH{p:Pic}(hFi:Xr p)(hFe:Y9 p):DK 35 [yW p] fun d=>∃r,(qx p=true->PlcR p r)/\(qx p=false->r=([],0,150))/\d=U3 r:=by
 refine qD qbX rfl xa fun Z0 lo=>?_;have hcv:=W9 hFi;refine jp ?_;refine jq j3 (fun base=>?_);refine Xm rfl ?_;refine zJ rfl ?_;refine zJ rfl ?_;refine zJ rfl ?_;refine yA ?_;refine kr 0 (fs:=yZ p) rfl ?_;refine qb ?_;intros;refine qk rfl rfl hcv ?_;rintro _ rfl;cases hv:qx p with
 |false=>
  refine qb ?_;intros;refine qd rfl (fun _=>?_) (fun h=>by cases h);refine qb ?_;intros;refine cG 2 2 rfl ?_;exact qf ⟨_,rfl,rfl,([],0,150),fun h=>(by cases h),fun _=>rfl,rfl⟩
 |true=>
  have hl8:=(qT hv).1;refine qb ?_;intros;refine qd rfl (fun h=>by cases h) (fun _=>?_);refine qb ?_;intros;refine qk rfl rfl (nD hv) ?_;rintro _ ⟨A,hA,rfl⟩;refine qb ?_;intros;refine uV (n:=p.fs.length) (m:=p.fs.length) [.c .nils] rfl rfl ⟨rfl,rfl,trivial⟩ rfl (by decide) (Nat.le_refl _) oM oM ?_;refine qb ?_;intros;have hal:=zo p p.fs.length;have hml:((zp p p.fs.length).map qL).length=p.fs.length:=by rw [List.length_map,hal]
  refine qm (fun m E S nk=>∃i:Nat,i+m=p.fs.length/\E=[(5,.one (.ptr 1 0)),(6,.one (.ptr 3 0)),(23,.int p.fs.length),(24,.int i)]/\S=[(1,.cells [.fptr (Z6 p (qp p).length ((qp p).map yD) A)]),(2,.data (X0 ((zp p p.fs.length).map qL) i)),(3,.cells [.own 2 0 p.fs.length 1])]/\nk=4)
   ⟨p.fs.length,_,_,_,[],?wk,0,oM,rfl,rfl,rfl⟩ ?_
  case wk=>exact⟨ze,⟨rfl,rfl,rfl,by rw [X0,hml,Ya];rfl,rfl,rfl,rfl,rfl,rfl,trivial⟩,rfl,rfl⟩
  rintro m E S nk ⟨i,hi,rfl,rfl,rfl⟩;refine qb ?_;intros;refine qd rfl (fun hi2=>?_) (fun hi2=>?_)
  ·have hi2:i<p.fs.length:=by have:=xL hi2;omega
   have hx:((zp p p.fs.length).map qL)[i]?=some (qL (jh p i)):=by rw [List.getElem?_map,wO hi2];rfl
   have hset:=HB hx;refine qb ?_;intros;refine qk rfl rfl (E4 hv hFe hA hi2) ?_;rintro _ rfl;refine qb ?_;intros;refine vB (k:=2) (o:=i) (l:=[.f (qL (jh p i))]) rfl rfl rfl rfl rfl (show i+1<=(X0 ((zp p p.fs.length).map qL) i).length by rw [HC (by omega),hml];omega) rfl ?_;rw [show Q2 (.data (X0 ((zp p p.fs.length).map qL) i)) i [.f (qL (jh p i))]=.data (X0 ((zp p p.fs.length).map qL) (i+1)) from congrArg Bk.data hset];refine qb ?_;intros;refine⟨m-1,oM,_,_,_,[],?wk2,i+1,oM,rfl,rfl,rfl⟩
   case wk2=>exact⟨ze,⟨rfl,rfl,rfl,rfl,rfl,rfl,rfl,rfl,rfl,trivial⟩,rfl,rfl⟩
  ·have hi2:i=p.fs.length:=by have:=xP hi2;omega
   subst hi2;have hfil:X0 ((zp p p.fs.length).map qL) p.fs.length=(zp p p.fs.length).map qL:=by rw [X0,hml,List.take_of_length_le (by omega)];simp
   rw [hfil];have hfl:((zp p p.fs.length).map qL).length=p.fs.length*1:=by omega
   refine xn 2 rfl qR qR ?_;refine y6 ?_;refine jp ?_;refine jq j3 (fun base=>?_);refine Xm rfl ?_;refine yA ?_;refine m6 4 0 2 rfl rfl ?_;refine qb ?_;intros;have htry:=LU (p:=p) (A:=A) (all:=zp p p.fs.length) (by rw [hal];exact hl8) (fun c hc=>by
    obtain⟨k,hk,rfl⟩:=List.mem_map.1 hc;exact YE hv k) p.fs.length (l:=[]) (i:=0) (mst:=0) (D:=[]) rfl (by rw [hal];omega) (LegL.nil _ _) (by rw [hal];omega) ⟨[],LegL.nil _ _,rfl⟩ rfl
   refine rT (E0:=[(8,.one (.ptr 0 0)),(9,.one (.ptr 1 0)),(36,.one (.fn 70 AE))]) (S0:=VZ p A (zp p p.fs.length) 0 0 []) (n0:=6) (a:=5) [(0,4),(1,6),(2,3),(3,1),(4,7),(5,5)] ⟨ze,⟨rfl,rfl,rfl,rfl,rfl,rfl,by rw [hal];rfl,rfl,rfl,rfl,rfl,rfl,rfl,rfl,rfl,rfl,rfl,rfl,trivial⟩,rfl,rfl⟩ rfl G2 rfl rfl rfl ⟨ze,trivial,rfl,rfl⟩ (htry _ _ _ _ _ (Nat.zero_le _)) ?_;intro d S' nk' hR;cases hR with
   |found k D hlen hsub=>
    rw [hal] at hlen hsub ⊢;have hpl:=U2 hl8.1 hlen;have hfl2:=xc (yq p.gap (zp p p.fs.length) p.fs.length []);rw [hlen] at hfl2;obtain⟨hs1,hs2⟩:=zV hsub;rw [List.drop_zero] at hs2;have hpd:qz (yq p.gap (zp p p.fs.length) p.fs.length [])=.one (.f (.sl 2 p.fs.length (D.take (p.fs.length*2)))):=by rw [qz,hlen,hs2]
    have hfl3:(D.take (p.fs.length*2)).length=p.fs.length*2:=by rw [<-hs2];exact hfl2
    refine qb ?_;intros;refine qd rfl (fun h=>by cases h) (fun _=>?_);refine qb ?_;intros;refine qu (qe (k:=2) rfl (qe (k:=3) rfl (qe (k:=4) rfl (qy _)))) (qe (k:=5) rfl (qy _)) ?_;refine uW 5 (p.fs.length*2) rfl ?_;refine xn 5 rfl qR qR ?_;refine qf ⟨_,rfl,rfl,_,fun _=>hpl,fun h=>(by cases h),?_⟩;rw [U3,hpd];rfl
   |fail k B D hB h1 h2 h3 ha hF hD=>
    rw [hal] at h3;have hpl:=O2 h3 ha hF;refine qb ?_;intros;refine qd rfl (fun _=>?_) (fun h=>by cases h);refine qb ?_;intros;refine cG 2 2 rfl ?_;exact qf ⟨_,rfl,rfl,_,fun _=>hpl,fun h=>(by cases h),rfl⟩
structure Rw where
 x0:Int
 x1:Int
 x2:Int
 x3:Int
 x4:Int
 x5:Int
def XG(x:Rw):List FD:=[.c (.int .u8 x.x0),.c (.int .u8 x.x1),.c (.int .u8 x.x2),.c (.int .u8 x.x3),.c (.int .u8 x.x4),.c (.int .u8 x.x5)]
def rwD(x:Rw):DV:=.agg ((XG x).map .f)
def ZF(n:Int):Prop:=0<=n/\n<256
def Rw.ok(x:Rw):Prop:=(ZF x.x0/\ZF x.x1/\ZF x.x2)/\ZF x.x3/\ZF x.x4/\ZF x.x5
def fA(x:Rw)(w:Int):Int:=x.x1.tmod w
def fB(x:Rw)(h:Int):Int:=x.x2.tmod h
def fR(x:Rw)(w:Int):Int:=min (fA x w+(1+x.x3.tmod 8)) (w-1)
def fL(x:Rw)(h:Int):Int:=min (fB x h+(1+x.x4.tmod 8)) (h-1)
def jx(x:Rw)(w h:Int):Ft:=
 if x.x0.tmod 3=0 then ⟨1,0,[(fA x w,fB x h)]⟩
 else if x.x0.tmod 3=1 then ⟨2,0,[(fA x w,fB x h),(fR x w,fL x h)]++if x.x5.tmod 2=1 then [(fA x w,fL x h)] else []⟩
 else ⟨3,(x.x0.tdiv 3).tmod 4,[(fA x w,fB x h),(fR x w,fB x h),(fR x w,fL x h)]++if x.x5.tmod 2=1 then [(fA x w,fL x h)] else []⟩
theorem EY{x:Rw}{w h:Int}(hx:x.ok)(hw:4<=w/\w<=60)(hh:3<=h/\h<=60):DK 29 [rwD x,.int w,.int h] fun d=>d=e8 (jx x w h):=by
 refine qD qb2 rfl xa fun Z0 lo=>?_;obtain⟨⟨hx0,hx1,hx2⟩,hx3,hx4,hx5⟩:=hx;unfold ZF at *;have w1:IntKind.i64.wrap x.x1=x.x1:=qo oM oM;have w2:IntKind.i64.wrap x.x2=x.x2:=qo oM oM;have w3:IntKind.i64.wrap x.x3=x.x3:=qo oM oM;have w4:IntKind.i64.wrap x.x4=x.x4:=qo oM oM;have t1:0<=x.x1.tmod w/\x.x1.tmod w<w:=⟨Int.tmod_nonneg _ hx1.1,Int.tmod_lt_of_pos _ oM⟩;have t2:0<=x.x2.tmod h/\x.x2.tmod h<h:=⟨Int.tmod_nonneg _ hx2.1,Int.tmod_lt_of_pos _ oM⟩;have t3:0<=x.x3.tmod 8/\x.x3.tmod 8<8:=⟨Int.tmod_nonneg _ hx3.1,Int.tmod_lt_of_pos _ oM⟩;have t4:0<=x.x4.tmod 8/\x.x4.tmod 8<8:=⟨Int.tmod_nonneg _ hx4.1,Int.tmod_lt_of_pos _ oM⟩;refine qb ?_;intros;rw [w1];refine b8 rfl rfl oM ?_;refine qb ?_;intros;rw [w2];refine b8 rfl rfl oM ?_;refine qb ?_;intros;have q1:0<=x.x0.tdiv 3/\x.x0.tdiv 3<256:=by rw [Int.tdiv_eq_ediv_of_nonneg hx0.1];omega
 have u1:IntKind.u8.wrap (x.x0.tdiv 3)=x.x0.tdiv 3:=by
  simp [IntKind.wrap,IntKind.signed,IntKind.bits];omega
 have t5:0<=(x.x0.tdiv 3).tmod 4/\(x.x0.tdiv 3).tmod 4<4:=⟨Int.tmod_nonneg _ q1.1,Int.tmod_lt_of_pos _ oM⟩;have t6:0<=x.x0.tmod 3/\x.x0.tmod 3<3:=⟨Int.tmod_nonneg _ hx0.1,Int.tmod_lt_of_pos _ oM⟩;have hK:IntKind.i64.wrap (1+IntKind.i64.wrap (x.x0.tmod 3))=1+x.x0.tmod 3:=by rw [qo (n:=x.x0.tmod 3) (by omega) (by omega),qo (by omega) (by omega)]
 have hT:IntKind.i64.wrap ((IntKind.u8.wrap (x.x0.tdiv 3)).tmod 4)=(x.x0.tdiv 3).tmod 4:=by rw [u1,qo (by omega) (by omega)]
 have hR:min (IntKind.i64.wrap (x.x1.tmod w+IntKind.i64.wrap (1+(IntKind.i64.wrap x.x3).tmod 8))) (IntKind.i64.wrap (w-1))=fR x w:=by
  rw [w3,qo (n:=1+x.x3.tmod 8) (by omega) (by omega),qo (n:=x.x1.tmod w+(1+x.x3.tmod 8)) (by omega) (by omega),qo (n:=w-1) (by omega) (by omega)];rfl
 have hL:min (IntKind.i64.wrap (x.x2.tmod h+IntKind.i64.wrap (1+(IntKind.i64.wrap x.x4).tmod 8))) (IntKind.i64.wrap (h-1))=fL x h:=by
  rw [w4,qo (n:=1+x.x4.tmod 8) (by omega) (by omega),qo (n:=x.x2.tmod h+(1+x.x4.tmod 8)) (by omega) (by omega),qo (n:=h-1) (by omega) (by omega)];rfl
 refine qu (E0:=[(3,.one (.ptr 0 0)),(6,.one (.ptr 1 0)),(7,.int (fA x w)),(8,.int (fB x h)),(11,.int (fR x w)),(12,.int (fL x h)),(13,.one (.ptr 2 0)),(14,.one (.ptr 3 0)),(15,.int (1+x.x0.tmod 3)),(16,.int ((x.x0.tdiv 3).tmod 4)),(68,.bool (1+x.x0.tmod 3==1))])
  (S0:=[(0,.cells ((XG x).map .f)),(1,.cells [.f (.c (.int .i64 0)),.f (.c (.int .i64 0)),.f (.c .nils)]),(2,.cells [.f (.c (.int .i64 (fA x w))),.f (.c (.int .i64 (fB x h)))]),(3,.cells [.f (.c (.int .i64 (fR x w))),.f (.c (.int .i64 (fL x h)))])])
  (qe rfl (qe rfl (qe rfl (qe rfl (qe (congrArg (fun z=>some (DV.int z)) hR) (qe (congrArg (fun z=>some (DV.int z)) hL) (qe rfl (qe rfl (qe (congrArg (fun z=>some (DV.int z)) hK) (qe (congrArg (fun z=>some (DV.int z)) hT) (qe (congrArg (fun z=>some (DV.bool (z==1))) hK) (qy _))))))))))))
  (qe rfl (qe rfl (qe rfl (qe (by rw [<-hR,<-hL];rfl) (qy _))))) ?_
 refine qd rfl (fun h1=>?_) (fun h1=>?_)
 ·have h1:x.x0.tmod 3=0:=by
   have:1+x.x0.tmod 3=1:=by simpa using h1
   omega
  refine qb ?_;intros;refine qu (E0:=[(6,.one (.ptr 1 0))]) (S0:=[(1,.cells [.f (.c (.int .i64 (1+x.x0.tmod 3))),.f (.c (.int .i64 0)),.own 4 0 1 2]),(4,.data (qh (fA x w,fB x h)))]) (qe rfl (qy _)) (qe rfl (qe rfl (qy _))) ?_;refine xn 4 rfl qR qR ?_;refine qf ⟨_,rfl,rfl,?_⟩;rw [jx,if_pos h1,h1];rfl
 ·have h1:¬x.x0.tmod 3=0:=fun h=>by rw [h] at h1;simp at h1
  refine qb ?_;intros;refine qd rfl (fun h2=>?_) (fun h2=>?_)
  ·have h2:x.x0.tmod 3=1:=by
    have:1+x.x0.tmod 3=2:=by simpa using h2
    omega
   refine qb ?_;intros;refine qd rfl (fun h5=>?_) (fun h5=>?_)
   ·have h5:x.x5.tmod 2=1:=by simpa using h5
    refine qb ?_;intros;refine qY (m:=1) (q:=qh (fA x w,fL x h)) (l:=qh (fA x w,fB x h)++qh (fR x w,fL x h)) rfl rfl rfl rfl ⟨rfl,rfl,_,rfl,rfl⟩ oM oM (by decide) rfl ?_;refine qb ?_;intros;refine qu (E0:=[(6,.one (.ptr 1 0))]) (S0:=[(1,.cells [.f (.c (.int .i64 (1+x.x0.tmod 3))),.f (.c (.int .i64 0)),.own 6 0 3 2]),(6,.data [.c (.int .i64 (fA x w)),.c (.int .i64 (fB x h)),.c (.int .i64 (fR x w)),.c (.int .i64 (fL x h)),.c (.int .i64 (fA x w)),.c (.int .i64 (fL x h))])]) (qe rfl (qy _)) (qe rfl (qe rfl (qy _))) ?_;refine xn 6 rfl qR qR ?_;refine qf ⟨_,rfl,rfl,?_⟩;rw [jx,if_neg h1,if_pos h2,if_pos h5,h2];rfl
   ·have h5:¬x.x5.tmod 2=1:=by simpa using h5
    refine qb ?_;intros;refine qu (E0:=[(6,.one (.ptr 1 0))]) (S0:=[(1,.cells [.f (.c (.int .i64 (1+x.x0.tmod 3))),.f (.c (.int .i64 0)),.own 4 0 2 2]),(4,.data [.c (.int .i64 (fA x w)),.c (.int .i64 (fB x h)),.c (.int .i64 (fR x w)),.c (.int .i64 (fL x h))])]) (qe rfl (qy _)) (qe rfl (qe rfl (qy _))) ?_;refine xn 4 rfl qR qR ?_;refine qf ⟨_,rfl,rfl,?_⟩;rw [jx,if_neg h1,if_pos h2,if_neg h5,h2];rfl
  ·have h2:¬x.x0.tmod 3=1:=fun h=>by rw [h] at h2;simp at h2
   have h3:x.x0.tmod 3=2:=by omega
   refine qb ?_;intros;refine qd rfl (fun h5=>?_) (fun h5=>?_)
   ·have h5:x.x5.tmod 2=1:=by simpa using h5
    refine qb ?_;intros;refine qY (m:=1) (q:=qh (fA x w,fL x h)) (l:=qh (fA x w,fB x h)++qh (fR x w,fB x h)++qh (fR x w,fL x h)) rfl rfl rfl rfl ⟨rfl,rfl,_,rfl,rfl⟩ oM oM (by decide) rfl ?_;refine qb ?_;intros;refine qu (E0:=[(6,.one (.ptr 1 0))]) (S0:=[(1,.cells [.f (.c (.int .i64 (1+x.x0.tmod 3))),.f (.c (.int .i64 ((x.x0.tdiv 3).tmod 4))),.own 6 0 4 2]),(6,.data [.c (.int .i64 (fA x w)),.c (.int .i64 (fB x h)),.c (.int .i64 (fR x w)),.c (.int .i64 (fB x h)),.c (.int .i64 (fR x w)),.c (.int .i64 (fL x h)),.c (.int .i64 (fA x w)),.c (.int .i64 (fL x h))])]) (qe rfl (qy _)) (qe rfl (qe rfl (qy _))) ?_;refine xn 6 rfl qR qR ?_;refine qf ⟨_,rfl,rfl,?_⟩;rw [jx,if_neg h1,if_neg h2,if_pos h5,h3];rfl
   ·have h5:¬x.x5.tmod 2=1:=by simpa using h5
    refine qb ?_;intros;refine qu (E0:=[(6,.one (.ptr 1 0))]) (S0:=[(1,.cells [.f (.c (.int .i64 (1+x.x0.tmod 3))),.f (.c (.int .i64 ((x.x0.tdiv 3).tmod 4))),.own 4 0 3 2]),(4,.data [.c (.int .i64 (fA x w)),.c (.int .i64 (fB x h)),.c (.int .i64 (fR x w)),.c (.int .i64 (fB x h)),.c (.int .i64 (fR x w)),.c (.int .i64 (fL x h))])]) (qe rfl (qy _)) (qe rfl (qe rfl (qy _))) ?_;refine xn 4 rfl qR qR ?_;refine qf ⟨_,rfl,rfl,?_⟩;rw [jx,if_neg h1,if_neg h2,if_neg h5,h3];rfl
structure Raw where
 w:Int
 h:Int
 g:Int
 f:List Rw
def Raw.ok(x:Raw):Prop:=(ZF x.w/\ZF x.h/\ZF x.g)/\∀r∈x.f,r.ok
def GI(x:Raw):List DC:=[.f (.c (.int .u8 x.w)),.f (.c (.int .u8 x.h)),.f (.c (.int .u8 x.g)),.f (.sl 6 x.f.length (x.f.flatMap XG))]
def VJ(x:Raw):DV:=.agg (GI x)
def mW(x:Raw):Int:=12+2*x.w.tmod 13
def mH(x:Raw):Int:=12+3*x.h.tmod 9
def mG(x:Raw):Int:=2+x.g.tmod 3
def tM:Ft:=⟨1,0,[(1,1)]⟩
def mF(x:Raw):List Ft:=match (x.f.take 4).map (fun r=>jx r (mW x) (mH x)) with
 |[]=>[tM]
 |l=>l
def yw(x:Raw):Pic:=⟨mW x,mH x,mG x,mF x⟩
theorem UT{l:List Rw}{i:Nat}{x:Rw}(h:l[i]?=some x):xK (l.flatMap XG) (i*6) 6=some (XG x):=XE (e:=6) (fun _=>rfl) h
theorem EV{x:Raw}(hx:x.ok):DK 8 [VJ x] fun d=>d=yW (yw x):=by
 refine qD cp8 rfl xa fun Z0 lo=>?_;obtain⟨⟨hw,hh,hg⟩,hf⟩:=hx;unfold ZF at hw hh hg;have t1:0<=x.w.tmod 13/\x.w.tmod 13<13:=⟨Int.tmod_nonneg _ hw.1,Int.tmod_lt_of_pos _ oM⟩;have t2:0<=x.h.tmod 9/\x.h.tmod 9<9:=⟨Int.tmod_nonneg _ hh.1,Int.tmod_lt_of_pos _ oM⟩;have t3:0<=x.g.tmod 3/\x.g.tmod 3<3:=⟨Int.tmod_nonneg _ hg.1,Int.tmod_lt_of_pos _ oM⟩;have hW:IntKind.i64.wrap (12+IntKind.i64.wrap (2*IntKind.i64.wrap (x.w.tmod 13)))=mW x:=by
  rw [qo (n:=x.w.tmod 13) (by omega) (by omega),qo (n:=2*x.w.tmod 13) (by omega) (by omega),qo (by omega) (by omega)];rfl
 have hH:IntKind.i64.wrap (12+IntKind.i64.wrap (3*IntKind.i64.wrap (x.h.tmod 9)))=mH x:=by
  rw [qo (n:=x.h.tmod 9) (by omega) (by omega),qo (n:=3*x.h.tmod 9) (by omega) (by omega),qo (by omega) (by omega)];rfl
 have hG:IntKind.i64.wrap (2+IntKind.i64.wrap (x.g.tmod 3))=mG x:=by
  rw [qo (n:=x.g.tmod 3) (by omega) (by omega),qo (by omega) (by omega)];rfl
 refine qb ?_;intros;refine qu (E0:=[(1,.one (.ptr 0 0)),(2,.one (.ptr 1 0)),(3,.one (.ptr 2 0)),(4,.int 0)])
  (S0:=[(0,.cells (GI x)),(1,.cells [.f (.c (.int .i64 0)),.f (.c (.int .i64 0)),.f (.c (.int .i64 0)),.f (.c .nils)]),(2,.cells [.f (.c (.int .i64 (mW x))),.f (.c (.int .i64 (mH x))),.f (.c (.int .i64 (mG x))),.f (.c .nils)])])
  (qe rfl (qe rfl (qe rfl (qe rfl (qy _)))))
  (qe rfl (qe rfl (qe (by rw [<-hW,<-hH,<-hG];rfl) (qy _)))) ?_
 refine V0 2 3 3 rfl rfl ?_;refine qm (fun m E S nk=>∃(i:Nat) (out:List Ft),i+m=min x.f.length 4/\out=(x.f.take i).map (fun r=>jx r (mW x) (mH x))/\E=[(1,.one (.ptr 0 0)),(2,.one (.ptr 1 0)),(3,.one (.ptr 2 0)),(4,.int i)]/\
  S=[(0,.cells (GI x)),(1,.cells [.f (.c (.int .i64 0)),.f (.c (.int .i64 0)),.f (.c (.int .i64 0)),.f (.c .nils)]),(2,.cells [.f (.c (.int .i64 (mW x))),.f (.c (.int .i64 (mH x))),.f (.c (.int .i64 (mG x))),.own 3 0 out.length 3]),(3,.data (out.flatMap zt))]/\nk=4)
  ⟨min x.f.length 4,_,_,_,[],?wk,0,[],oM,rfl,rfl,rfl,rfl⟩ ?_
 case wk=>exact ql
 rintro m E S nk ⟨i,out,hi,ho,rfl,rfl,rfl⟩;refine qb ?_;intros;refine qd rfl (fun ht=>?_) (fun ht=>?_)
 ·rw [Xy,xD] at ht;have h1:=xL ht.1;have h2:=xL ht.2;obtain⟨r,hr⟩:∃r,x.f[i]?=some r:=⟨_,zge oM⟩;have e1:=UT hr;have hol:out.length=i:=by rw [ho,List.length_map,List.length_take];omega
  have hfl:=KN out;refine qb ?_;intros;refine qk rfl rfl (EY (x:=r) (w:=mW x) (h:=mH x) (hf r (zmg hr)) (by unfold mW;omega) (by unfold mH;omega)) ?_;rintro _ rfl;refine qb ?_;intros;refine qY (m:=1) (q:=zt (jx r (mW x) (mH x))) rfl rfl rfl (qI _ hfl) ⟨rfl,rfl,_,rfl,rfl⟩ oM oM (by decide) rfl ?_;rw [show out.flatMap zt++zt (jx r (mW x) (mH x))=(out++[jx r (mW x) (mH x)]).flatMap zt by simp,show out.length+1=(out++[jx r (mW x) (mH x)]).length by simp];refine ym rfl ?_;refine qb ?_;intros;refine⟨m-1,by omega,_,_,_,[(3,5)],?wk1,i+1,out++[jx r (mW x) (mH x)],by omega,by rw [List.take_add_one,hr,ho];simp,rfl,rfl,rfl⟩
  case wk1=>exact ql
 ·rw [Xy] at ht;have hi4:i=min x.f.length 4:=by
   rcases Bool.and_eq_false_iff.1 ht with h|h
   ·have:=xP h;omega
   ·have:=xP h;omega
  have ho4:out=(x.f.take 4).map (fun r=>jx r (mW x) (mH x)):=by
   rw [ho,hi4];by_cases h4:x.f.length<=4
   ·rw [List.take_of_length_le (by omega),List.take_of_length_le h4]
   ·rw [show min x.f.length 4=4 by omega]
  clear ho;refine qb ?_;intros;refine qd rfl (fun hz=>?_) (fun hz=>?_)
  ·have hz:out=[]:=by
    have h:(out.length:Int)=0:=by simpa using hz
    exact List.length_eq_zero_iff.1 oM
   have hmF:mF x=[tM]:=by rw [mF,<-ho4,hz]
   clear ho4;subst hz;refine qu (qe (k:=2) rfl (qe (k:=3) rfl (qy _))) (zK _) ?_
   iterate 4 (first|(refine Zm rfl rfl ?_)|(refine Zn rfl rfl ?_)|(refine ZO rfl ?_)|(refine ZP rfl rfl ?_)|(refine ZQ rfl rfl ?_)|(refine Y0 rfl Qy Qy ?_)|(refine W1 rfl rfl ?_)|(refine W0 rfl rfl ?_)|(refine zJ rfl ?_)|(refine jG rfl ?_)|(refine jy rfl ?_)|(refine cA rfl Qy ?_)|(refine cB rfl Qy ?_)|(refine W3 rfl rfl oM oM ?_)|(refine W4 rfl rfl oM oM ?_)|(refine W2 rfl rfl oM oM ?_)|(refine W5 rfl rfl oM (by decide) aM ?_)|(refine zU rfl rfl oM (by decide) aM ?_)|(refine jG (jf rfl rfl aM rfl) ?_)|(refine jy (jf rfl rfl aM rfl) ?_)|(refine jG (jd rfl rfl aM) ?_)|(refine jy (jd rfl rfl aM) ?_)|(refine jG (je rfl rfl aM aM) ?_)|(refine jy (je rfl rfl aM aM) ?_)|(refine Xm rfl ?_)|(refine cE rfl rfl rfl ?_)|(refine vB rfl rfl rfl rfl rfl (Nat.le_of_ble_eq_true rfl) rfl ?_)|(refine yA ?_)|(refine jp ?_)|(refine jq j3 (fun base=>?_))|(refine Xn ?_)|(refine Qi ?_)|(refine y6 ?_))
   have hq2:(qh (1,1)).length=1*2:=rfl;refine XQ 4 rfl qR qR ?_;refine qb ?_;intros;refine qu (qe (k:=2) rfl (qy _)) (qe (k:=1) rfl (qe (k:=5) rfl (qy _))) ?_;have hq3:(zt tM).length=1*3:=rfl;refine xn 5 rfl qR qR ?_;refine qf ⟨_,rfl,rfl,?_⟩;rw [yw,hmF];rfl
  ·have hz:out≠[]:=fun h=>by
    subst h;cases hz
   have hmF:mF x=out:=by
    rw [mF,<-ho4];cases out with
    |nil=>exact absurd rfl hz
    |cons=>rfl
   have hfl:=KN out;refine qb ?_;intros;refine qu (qe (k:=2) rfl (qy _)) (qe (k:=1) rfl (qe (k:=3) rfl (qy _))) ?_;refine xn 3 rfl qR qR ?_;refine qf ⟨_,rfl,rfl,?_⟩;rw [yw,hmF];rfl
def AI(a:qc):List qc:=(List.range 9).flatMap fun (y:Nat)=>(List.range 9).map fun (x:Nat)=>(a.1+(x:Int),a.2+(y:Int))
theorem I2(a:qc):(AI a).length=81:=rfl
theorem I1{a p:qc}(h:xJ a (a.1+8,a.2+8) p):p∈AI a:=by
 obtain⟨p1,p2⟩:=p;unfold xJ at h;simp only at h;simp only [AI,List.mem_flatMap,List.mem_map,List.mem_range,zpi];exact⟨(p2-a.2).toNat,oM,(p1-a.1).toNat,oM,oM,oM⟩
theorem oI{f:Ft}{a:qc}(hv:zd f=true)(h:∀q∈f.pts,xJ a (a.1+8,a.2+8) q):(xd f).length<=256:=by
 have:=wA (J3 hv) (b:=AI a) fun p hp=>I1 (Xw h p hp);rw [I2] at this;omega
theorem DO{x:Rw}{w h:Int}(hx:x.ok)(hw:0<w)(hh:0<h):∀q∈(jx x w h).pts,xJ (fA x w,fB x h) (fA x w+8,fB x h+8) q:=by
 obtain⟨⟨_,hx1,hx2⟩,hx3,hx4,_⟩:=hx;unfold ZF at *;have t1:0<=x.x1.tmod w/\x.x1.tmod w<w:=⟨Int.tmod_nonneg _ hx1.1,Int.tmod_lt_of_pos _ hw⟩;have t2:0<=x.x2.tmod h/\x.x2.tmod h<h:=⟨Int.tmod_nonneg _ hx2.1,Int.tmod_lt_of_pos _ hh⟩;have t3:0<=x.x3.tmod 8/\x.x3.tmod 8<8:=⟨Int.tmod_nonneg _ hx3.1,Int.tmod_lt_of_pos _ oM⟩;have t4:0<=x.x4.tmod 8/\x.x4.tmod 8<8:=⟨Int.tmod_nonneg _ hx4.1,Int.tmod_lt_of_pos _ oM⟩;have hR:fA x w<=fR x w/\fR x w<=fA x w+8:=by unfold fR fA;omega
 have hL:fB x h<=fL x h/\fL x h<=fB x h+8:=by unfold fL fB;omega
 have b1:xJ (fA x w,fB x h) (fA x w+8,fB x h+8) (fA x w,fB x h):=by unfold xJ;simp only;omega
 have b2:xJ (fA x w,fB x h) (fA x w+8,fB x h+8) (fR x w,fL x h):=by unfold xJ;simp only;omega
 have b3:xJ (fA x w,fB x h) (fA x w+8,fB x h+8) (fA x w,fL x h):=by unfold xJ;simp only;omega
 have b4:xJ (fA x w,fB x h) (fA x w+8,fB x h+8) (fR x w,fB x h):=by unfold xJ;simp only;omega
 intro q hq;unfold jx at hq;split at hq
 ·simp only [List.mem_singleton] at hq;subst hq;exact b1
 ·split at hq
  ·simp only [List.mem_append,List.mem_cons,List.not_mem_nil,or_false] at hq;rcases hq with (rfl|rfl)|hq
   ·exact b1
   ·exact b2
   ·split at hq
    ·simp only [List.mem_singleton] at hq;subst hq;exact b3
    ·cases hq
  ·simp only [List.mem_append,List.mem_cons,List.not_mem_nil,or_false] at hq;rcases hq with (rfl|rfl|rfl)|hq
   ·exact b1
   ·exact b4
   ·exact b2
   ·split at hq
    ·simp only [List.mem_singleton] at hq;subst hq;exact b3
    ·cases hq
theorem DN{x:Rw}{w h:Int}:(jx x w h).pts.length<=4:=by
 unfold jx;split
 ·exact Nat.le_add_left 1 3
 ·split
  ·split<;>simp
  ·split<;>simp
theorem C7{x:Raw}{f:Ft}(h:f∈mF x):f=tM\/∃r∈x.f,f=jx r (mW x) (mH x):=by
 unfold mF at h;split at h
 ·simp only [List.mem_singleton] at h;exact .inl h
 ·rename_i l hl;obtain⟨r,hr,rfl⟩:=List.mem_map.1 h;exact .inr ⟨r,List.mem_of_mem_take hr,rfl⟩
theorem bL(x:Raw):1<=(mF x).length/\(mF x).length<=4:=by
 unfold mF;split
 ·decide
 ·rename_i l hl;refine⟨?_,?_⟩
  ·cases h:(x.f.take 4).map (fun r=>jx r (mW x) (mH x)) with
   |nil=>exact absurd h hl
   |cons=>simp
  ·rw [List.length_map,List.length_take];omega
theorem U9{x:Raw}(hx:x.ok):(12<=mW x/\mW x<=36)/\(12<=mH x/\mH x<=36)/\2<=mG x/\mG x<=4:=by
 obtain⟨⟨hw,hh,hg⟩,hf⟩:=hx;unfold ZF at hw hh hg;have t1:0<=x.w.tmod 13/\x.w.tmod 13<13:=⟨Int.tmod_nonneg _ hw.1,Int.tmod_lt_of_pos _ oM⟩;have t2:0<=x.h.tmod 9/\x.h.tmod 9<9:=⟨Int.tmod_nonneg _ hh.1,Int.tmod_lt_of_pos _ oM⟩;have t3:0<=x.g.tmod 3/\x.g.tmod 3<3:=⟨Int.tmod_nonneg _ hg.1,Int.tmod_lt_of_pos _ oM⟩;unfold mW mH mG;omega
theorem Yg(x:Raw):Xr (yw x):=by
 refine⟨?_,fun f hf=>?_⟩
 ·have:=bL x;show (mF x).length<1000;omega
 ·rcases C7 hf with rfl|⟨r,_,rfl⟩
  ·decide
  ·have:=DN (x:=r) (w:=mW x) (h:=mH x);omega
theorem rL{f:Ft}{q:qc}(h1:f.kind=1)(h2:f.pts=[q]):(xd f).length<=256:=by
 unfold xd;rw [if_pos h1,h2];exact Nat.le_add_left 1 255
theorem VR{x:Raw}(hx:x.ok):Y9 (yw x):=fun f hf hv=>by
 have hb:=U9 hx;rcases C7 hf with rfl|⟨r,hr,rfl⟩
 ·exact rL (q:=(1,1)) rfl rfl
 ·exact oI hv (DO (hx.2 r hr) oM oM)
def Qf(x:Raw):Raw:=⟨x.w,x.h,x.g,x.f.take (min x.f.length 3)⟩
def bK(x:Raw):Pic:=yw (Qf x)
theorem YN{x:Raw}(hx:x.ok):(Qf x).ok:=⟨hx.1,fun r hr=>hx.2 r (List.mem_of_mem_take hr)⟩
theorem pI(l:List Rw):(l.flatMap XG).length=l.length*6:=YB (f:=XG) (e:=6) (fun _=>rfl) l
theorem GA{l:List Rw}{k:Nat}(hk:k<=l.length):xK (l.flatMap XG) (0*6) (k*6)=some ((l.take k).flatMap XG):=by
 have h1:l.flatMap XG=(l.take k).flatMap XG++(l.drop k).flatMap XG:=by rw [<-List.flatMap_append,List.take_append_drop]
 have h2:((l.take k).flatMap XG).length=k*6:=by rw [pI,List.length_take];omega
 rw [yj (by rw [pI];omega),Nat.zero_mul,List.drop_zero,h1,<-h2,List.take_left]
theorem r5{x:Raw}(hx:x.ok):DK 19 [VJ x] fun d=>d=.tup [yW (bK x),.bool (qx (bK x))]:=by
 refine qD qcc rfl xa fun Z0 lo=>?_;have hm:=EV (YN hx);have hF:=Yg (Qf x);have hl:(Qf x).f.length=min x.f.length 3:=by simp only [Qf,List.length_take];omega
 obtain⟨k,hk⟩:∃k:Nat,k=min x.f.length 3:=⟨_,rfl⟩;have hk2:min (x.f.length:Int) 3=((k:Nat):Int):=by omega
 refine qb ?_;intros;rw [hk2];refine EB (q:=(x.f.take k).flatMap XG) (n':=k) rfl rfl rfl oM oM oM (GA oM) ?_;refine qb ?_;intros;subst hk;refine qk (ds:=[VJ (Qf x)]) (congrArg (fun z=>some [DV.agg [.f (.c (.int .u8 x.w)),.f (.c (.int .u8 x.h)),.f (.c (.int .u8 x.g)),.f (.sl 6 z ((x.f.take (min x.f.length 3)).flatMap XG))]]) hl.symm) rfl hm ?_;rintro _ rfl;have hv:=JF hF;unfold bK;generalize yw (Qf x)=p at *;refine qb ?_;intros;refine qk rfl rfl hv ?_;rintro _ rfl;refine qb ?_;intros;exact qf ⟨_,rfl,rfl,rfl⟩
theorem KQ:∀{l:List qc} {i:Nat} {q:qc},l[i]?=some q->(l.flatMap qh)[2*i]?=some (.c (.int .i64 q.1))/\(l.flatMap qh)[2*i+1]?=some (.c (.int .i64 q.2))
 |[],i,q,h=>by simp at h
 |y::l,0,q,h=>by
  simp at h;subst h;exact⟨rfl,rfl⟩
 |y::l,i+1,q,h=>by
  have ih:=KQ (l:=l) (i:=i) (q:=q) (by simpa using h);exact ih
def Jf(q:qc):Ft:=⟨1,0,[q]⟩
end Go.Ag

namespace Go.Ag
open Go.Ab Go.Proofs
theorem PlcR.uniq{p:Pic}{a b:cT}(ha:PlcR p a)(hb:PlcR p b):a=b:=by
 cases ha with
 |bad i hi h1 h2=>
  cases hb with
  |bad j hj h3 h4=>
   have:i=j:=by
    rcases Nat.lt_trichotomy i j with h|h|h
    ·exact absurd h1 (h4 i h)
    ·exact h
    ·exact absurd h3 (h2 j h)
   rw [this]
  |ok h3=>exact absurd h1 (h3 i hi)
 |ok h1=>
  cases hb with
  |bad j hj h3 h4=>exact absurd h3 (h1 j hj)
  |ok h3=>rfl
end Go.Ag

namespace Go.Ag
open Go.Ab Go.Proofs
theorem pY{p:Pic}(h1:1<=p.fs.length)(hok:∀j,j<p.fs.length->¬(kN p j).length<=j):(kN p (p.fs.length-1)).length=p.fs.length:=by
 have h:=hok (p.fs.length-1) oM;rcases hU (g:=p.gap) (all:=zp p (p.fs.length-1+1)) (n:=p.fs.length-1+1) (l:=[]) (by rw [zo];simp) with h2|h2
 ·rw [zo] at h2;unfold kN;omega
 ·unfold kN at h;rw [h2] at h;exact absurd (Nat.zero_le _) h
theorem XT{p:Pic}(hv:qx p=true){i:Nat}{q:qc}:q∈jh p i↔ya p i q=true:=by
 have hh:=(qT hv).2.2.1;simp only [yz,xD,xV] at hh;obtain⟨⟨⟨hw1,hw2⟩,hw3⟩,⟨hh1,hh2⟩,hh3⟩:=hh;rw [Int.tmod_eq_emod_of_nonneg (by omega)] at hw3 hh3;constructor
 ·intro h;unfold jh QW kR at h;obtain⟨y,_,h⟩:=List.mem_flatMap.1 h;exact (List.mem_filter.1 h).2
 ·intro h;have h2:=h;rw [ya,xD] at h2;have h3:=h2.1;simp only [kH,xD,xV] at h3;unfold jh QW kR;refine List.mem_flatMap.2 ⟨q.2.toNat,List.mem_range.2 oM,List.mem_filter.2 ⟨List.mem_map.2 ⟨q.1.toNat,List.mem_range.2 oM,?_⟩,h⟩⟩
  ext
  ·simp only;omega
  ·simp only;omega
theorem X8{p:Pic}(hv:qx p=true){l:List qc}:YW p l=true↔LegL p.gap (zp p p.fs.length) l:=by
 unfold YW;rw [xD,xV,List.all_eq_true];constructor
 ·rintro ⟨h1,h2⟩;refine⟨by rw [zo];exact h1,fun i q hq=>?_,fun i k a b hk ha hb=>?_⟩
  ·have hi:=(zgs hq).1;have:=h2 i (List.mem_range.2 hi);rw [QO,xD,xT hq] at this;rw [wO (by omega)];exact (XT hv).2 this.1
  ·have hi:=(zgs ha).1;have:=h2 i (List.mem_range.2 hi);rw [QO,xD,xT ha] at this;have:=List.all_eq_true.1 this.2 k (List.mem_range.2 hk);rw [xT hb] at this;simpa using this
 ·intro h;have hle:=h.le;rw [zo] at hle;refine⟨hle,fun i hi=>?_⟩;have hi:=List.mem_range.1 hi;obtain⟨q,hq⟩:∃q,l[i]?=some q:=⟨_,zge hi⟩;rw [QO,xD,xT hq];refine⟨?_,?_⟩
  ·have:=h.ch i q hq;rw [wO (by omega)] at this;exact (XT hv).1 this
  ·rw [List.all_eq_true];intro k hk;have hk:=List.mem_range.1 hk;obtain⟨b,hb⟩:∃q,l[k]?=some q:=⟨_,zge oM⟩;rw [xT hb,h.ap i k q b hk hq hb];rfl
theorem F9{p:Pic}(h1:1<=p.fs.length):kN p (p.fs.length-1)=yq p.gap (zp p p.fs.length) p.fs.length []:=by
 obtain⟨k,hk⟩:∃k,p.fs.length=k+1:=⟨p.fs.length-1,oM⟩;rw [hk];rfl
theorem O1{p:Pic}(h1:1<=p.fs.length)(hok:∀j,j<p.fs.length->¬(kN p j).length<=j):LegL p.gap (zp p p.fs.length) (kN p (p.fs.length-1)):=by
 have hl:=pY h1 hok;rw [F9 h1] at hl ⊢;exact (QG (LegL.nil _ _) (n:=p.fs.length) (by rw [zo];simp) (by rw [hl,zo])).1
theorem wT{l:List qc}(h:qJ l):qr l=l:=qJ.ext (xg l) h fun _=>qO
theorem lQ{i:Nat}{q:qc}:∀r∈qS i q,xy r (qM q 1)<=2/\xy (qM q 1) r<=2:=fun r hr=>by
 unfold qS wQ at hr;obtain⟨k,hk,rfl⟩:=List.mem_map.1 hr;have:=List.mem_range.1 (List.mem_filter.1 hk).1;simp only [xy,qM];omega
theorem C9{g:Int}(hg:2<=g)(i:Nat)(q:qc):Q3 g (qS i q)=true:=(dL (Xj i q)).2 fun x hx y hy=>by
 have h1:=(lQ x hx).1;have h2:=(lQ y hy).2;exact (Conn.step (Conn.step (.base hx) (X9 i q) oM) hy oM)
def wu(p:Pic)(i:Nat):List qc:=((qp p)[i]?).getD []
def qC(p:Pic)(l:List qc)(n:Nat):List (List qc):=(List.range n).flatMap fun i=>[wu p i,qS i (xH l i)]
theorem Vh(p:Pic)(l:List qc)(n:Nat):qC p l (n+1)=qC p l n++[wu p n,qS n (xH l n)]:=by
 simp [qC,List.range_succ]
theorem zO{p:Pic}{l:List qc}{n:Nat}{a:List qc}:a∈qC p l n↔∃i,i<n/\(a=wu p i\/a=qS i (xH l i)):=by
 unfold qC;rw [List.mem_flatMap];constructor
 ·rintro ⟨i,hi,ha⟩;exact⟨i,List.mem_range.1 hi,by simpa using ha⟩
 ·rintro ⟨i,hi,ha⟩;exact⟨i,List.mem_range.2 hi,by simpa using ha⟩
theorem vp(p:Pic)(l:List qc)(n:Nat):(qC p l n).length=2*n:=by
 induction n with
 |zero=>rfl
 |succ n ih=>rw [Vh,List.length_append,ih];simp only [List.length_cons,List.length_nil];omega
theorem Zz{p:Pic}{i:Nat}(h:i<(qp p).length):(qp p)[i]?=some (wu p i):=by
 rw [wu,zge h];rfl
theorem oK{p:Pic}{l:List qc}(h2:2<=p.gap)(hg:jK p.gap (qp p)):jK p.gap (qC p l (qp p).length):=fun a ha=>by
 obtain⟨i,hi,rfl|rfl⟩:=zO.1 ha
 ·exact hg _ (zmg (Zz hi))
 ·exact C9 h2 _ _
theorem KJ{p:Pic}{i k:Nat}{q:qc}(hf:ya p i q=true)(hk:k<(qp p).length):¬x8 (qS i q) (wu p k)<=p.gap:=by
 rw [ya,xD,xD] at hf;have:=List.all_eq_true.1 hf.2.1 _ (zmg (Zz hk));rw [ZM] at this;simpa using this
theorem Yv{p:Pic}{l:List qc}(hfit:∀i q,l[i]?=some q->ya p i q=true)(hap:∀(i k:Nat) (a b:qc),k<i->l[i]?=some a->l[k]?=some b->jT p.gap i a k b=false)(hg:jJ p.gap (qp p)):∀n,n<=l.length->n<=(qp p).length->(qC p l n).Pairwise fun a b=>¬x8 a b<=p.gap
 |0,_,_=>List.Pairwise.nil
 |n+1,h1,h2=>by
  have ih:=Yv hfit hap hg n oM oM;obtain⟨q,hq⟩:∃q,l[n]?=some q:=⟨_,zge oM⟩;have hqf:=hfit n q hq;rw [Vh,xT hq];refine List.pairwise_append.2 ⟨ih,?_,fun a ha b hb=>?_⟩
  ·refine List.pairwise_cons.2 ⟨fun b hb=>?_,List.pairwise_singleton _ _⟩;rw [List.mem_singleton] at hb;rw [hb,Yp];exact KJ hqf oM
  ·obtain⟨i,hi,ha⟩:=zO.1 ha;obtain⟨r,hr⟩:∃q,l[i]?=some q:=⟨_,zge oM⟩;rw [xT hr] at ha;simp only [List.mem_cons,List.not_mem_nil,or_false] at hb;rcases ha with rfl|rfl
   ·rcases hb with rfl|rfl
    ·exact hg i n _ _ hi (Zz oM) (Zz oM)
    ·rw [Yp];exact KJ hqf oM
   ·rcases hb with rfl|rfl
    ·exact KJ (hfit i r hr) oM
    ·have:=hap n i q r hi hq hr;rw [XA,jT] at this;simpa using this
theorem G6{g:Int}{l:List (List qc)}(h:l.Pairwise fun a b=>¬x8 a b<=g):jJ g l:=fun i k a b hik ha hb=>by
 have:=List.pairwise_iff_getElem.1 h i k (zgs ha).1 (zgs hb).1 hik;rw [(zgs ha).2,(zgs hb).2] at this;exact this
theorem iV{f:Ft}(hv:zd f=true):qJ (xd f):=by
 unfold xd;split
 ·rename_i h1;have hk:=(jl hv).2.2;unfold yk at hk;rw [if_pos h1] at hk;simp at hk;obtain⟨q,hq⟩:=List.length_eq_one_iff.1 hk.1;rw [hq];exact List.pairwise_singleton _ _
 ·split
  ·exact xg _
  ·exact xg _
theorem VN{p:Pic}(hv:qx p=true)(i:Nat):qJ (wu p i):=by
 unfold wu;cases h:(qp p)[i]? with
 |none=>exact List.Pairwise.nil
 |some l=>
  obtain⟨f,hf,rfl⟩:=List.mem_map.1 (zmg h);exact iV (zM hv f hf)
theorem bB{p:Pic}(hv:qx p=true){l:List qc}(hl:LegL p.gap (zp p p.fs.length) l)(hlen:l.length=p.fs.length)(hg1:jK p.gap (qp p))(hg2:jJ p.gap (qp p)){c:List (List qc)}(hc:ClS p.gap (qr (qC p l p.fs.length).flatten) c):c.length=2*p.fs.length/\∀a∈qC p l p.fs.length,qr a∈c:=by
 have hgap:2<=p.gap/\p.gap<=6:=by
  have:=(qT hv).2.2.2;simp only [jF,xD,xV] at this;exact this.1
 have hpl:(qp p).length=p.fs.length:=by simp [qp]
 have hfit:∀i q,l[i]?=some q->ya p i q=true:=fun i q hq=>by
  have h1:=hl.ch i q hq;have h2:=(zgs hq).1;rw [wO (by omega)] at h1;exact (XT hv).1 h1
 have hw:=(AQ (g:=p.gap) (l:=qC p l p.fs.length) (fun a ha=>?_) oM hc).1 ⟨?_,G6 (Yv hfit hl.ap hg2 _ oM oM)⟩
 ·rw [vp] at hw;exact⟨hw.1,fun a ha=>nO (hw.2 a ha)⟩
 ·obtain⟨i,hi,rfl|rfl⟩:=zO.1 ha
  ·exact wY hv _ (zmg (Zz oM))
  ·exact Xj _ _
 ·have:=oK (p:=p) (l:=l) hgap.1 hg1;rw [hpl] at this;exact this
theorem wE{p:Pic}(hv:qx p=true)(hF:Y9 p)(i:Nat):(wu p i).length<=256:=by
 unfold wu;cases h:(qp p)[i]? with
 |none=>simp
 |some l=>
  obtain⟨f,hf,rfl⟩:=List.mem_map.1 (zmg h);exact hF f hf (zM hv f hf)
end Go.Ag
