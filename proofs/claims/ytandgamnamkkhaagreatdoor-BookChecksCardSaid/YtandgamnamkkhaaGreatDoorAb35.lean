/- -/
import Derived.Test.YtandgamnamkkhaaGreatDoorAb34
set_option linter.unusedSimpArgs false
set_option maxHeartbeats 16000000
set_option linter.unusedVariables false
set_option maxRecDepth 8000
namespace Go.Ah
open Go.Ab
theorem Conn.mono{g g':Int}{l l':List qd}{p x:qd}(h:Conn g l p x)(hg:g<=g')(hl:∀y∈l,y∈l'):Conn g' l' p x:=by
 induction h with
 |base h=>exact .base (hl _ h)
 |step _ h2 h3 ih=>exact .step ih (hl _ h2) oM
theorem Conn.trans{g:Int}{l:List qd}{p x y:qd}(h1:Conn g l p x)(h2:Conn g l x y):Conn g l p y:=by
 induction h2 with
 |base _=>exact h1
 |step _ h2 h3 ih=>exact .step ih h2 h3
theorem Conn.symm{g:Int}{l:List qd}{p x:qd}(h:Conn g l p x):Conn g l x p:=by
 induction h with
 |base h=>exact .base h
 |step h1 h2 h3 ih=>exact Conn.trans (.step (.base h2) h1.mem (by rw [C1];exact h3)) ih
theorem ClS.congr{g g':Int}(hc:∀(l:List qd) (p x:qd),Conn g l p x↔Conn g' l p x){l:List qd}{cs:List (List qd)}(h:ClS g l cs):ClS g' l cs:=by
 induction h with
 |nil=>exact .nil
 |cons h1 h2 _ ih=>exact .cons h1 (fun x=>(h2 x).trans (hc _ _ _)) ih
theorem Conn.small{g:Int}(hg:g<=0){l:List qd}{p x:qd}:Conn g l p x↔p∈l/\x=p:=by
 constructor
 ·intro h;refine⟨h.start,?_⟩;induction h with
  |base _=>rfl
  | @step a b h1 h2 h3 ih=>
   have h5:=K6 a b;have:=(far_zero a b).1 oM;rw [<-this,ih]
 ·rintro ⟨h,rfl⟩;exact .base h
theorem ClS.mem{g:Int}{l:List qd}{cs:List (List qd)}(h:ClS g l cs):∀c∈cs,∀x∈c,x∈l:=by
 induction h with
 |nil=>intro c hc;cases hc
 |cons h1 h2 _ ih=>
  intro c hc x hx;rcases List.mem_cons.1 hc with rfl|hc
  ·exact ((h2 x).1 hx).mem
  ·exact (yX.1 (ih c hc x hx)).1
theorem ClS.rows{g:Int}{l:List qd}{cs:List (List qd)}(h:ClS g l cs):∀c∈cs,qS c:=by
 induction h with
 |nil=>intro c hc;cases hc
 |cons h1 h2 _ ih=>
  intro c hc;rcases List.mem_cons.1 hc with rfl|hc
  ·exact h1
  ·exact ih c hc
theorem ClS.cover{g:Int}{l:List qd}{cs:List (List qd)}(h:ClS g l cs):∀x∈l,∃c∈cs,x∈c:=by
 induction h with
 |nil=>intro c hc;cases hc
 | @cons p r c cs h1 h2 _ ih=>
  intro x hx;by_cases hc:x∈c
  ·exact⟨c,by simp,hc⟩
  ·obtain⟨d,hd,hx⟩:=ih x (yX.2 ⟨hx,hc⟩);exact⟨d,by simp [hd],hx⟩
theorem ClS.closed{g:Int}{l:List qd}{cs:List (List qd)}(h:ClS g l cs):∀c∈cs,∀x∈c,∀y∈l,xg x y<=g->y∈c:=by
 induction h with
 |nil=>intro c hc;cases hc
 | @cons p r c cs h1 h2 h3 ih=>
  intro d hd x hx y hy hf;rcases List.mem_cons.1 hd with rfl|hd
  ·exact (h2 y).2 (.step ((h2 x).1 hx) hy hf)
  ·have hxm:=yX.1 (h3.mem d hd x hx);by_cases hyc:y∈c
   ·exact absurd ((h2 x).2 (.step ((h2 y).1 hyc) hxm.1 (by rw [C1];exact hf))) hxm.2
   ·exact ih d hd x hx y (yX.2 ⟨hy,hyc⟩) hf
theorem ClS.first{g:Int}{l:List qd}{cs:List (List qd)}(hl:qS l)(h:ClS g l cs):∀c∈cs,∃p t,c=p::t/\∀x,x∈c↔Conn g c p x:=by
 induction h with
 |nil=>intro c hc;cases hc
 | @cons p r c cs h1 h2 h3 ih=>
  intro d hd;rcases List.mem_cons.1 hd with rfl|hd
  ·have hp:p∈d:=(h2 p).2 (.base (by simp));have hin:∀x,Conn g (p::r) p x->Conn g d p x:=fun x hx=>by
    induction hx with
    |base _=>exact .base hp
    |step k1 k2 k3 ih=>exact .step ih ((h2 _).2 (.step k1 k2 k3)) k3
   have hdc:∀x,x∈d↔Conn g d p x:=fun x=>⟨fun hx=>hin x ((h2 x).1 hx),fun hx=>hx.mem⟩;cases d with
   |nil=>cases hp
   |cons a t=>
    have hap:a=p:=by
     rcases List.mem_cons.1 hp with e|e
     ·exact e.symm
     ·rw [qS,List.pairwise_cons] at h1;have ha:=h1.1 p e;have hal:=((h2 a).1 (by simp)).mem;rcases List.mem_cons.1 hal with e2|e2
      ·exact e2
      ·rw [qS,List.pairwise_cons] at hl;exact absurd (vB ha (hl.1 a e2)) jY
    subst hap;exact⟨a,t,rfl,hdc⟩
  ·exact ih (hl.minus c) d hd
def hd(c:List qd):qd:=c.headD (0,0)
theorem ClS.heads{g:Int}{l:List qd}{cs:List (List qd)}(hl:qS l)(h:ClS g l cs):qS (cs.map hd):=by
 induction h with
 |nil=>exact List.Pairwise.nil
 | @cons p r c cs h1 h2 h3 ih=>
  obtain⟨q,t,hc,hq⟩:=(ClS.cons h1 h2 h3).first hl c (by simp);have hp:p∈c:=(h2 p).2 (.base (by simp));have hqp:q=p:=by
   rw [hc] at hp h1;rcases List.mem_cons.1 hp with e|e
   ·exact e.symm
   ·rw [qS,List.pairwise_cons] at h1;have ha:=h1.1 p e;have hal:=((h2 q).1 (by rw [hc];simp)).mem;rcases List.mem_cons.1 hal with e2|e2
    ·exact e2
    ·rw [qS,List.pairwise_cons] at hl;exact absurd (vB ha (hl.1 q e2)) jY
  rw [List.map_cons,qS,List.pairwise_cons];refine⟨fun y hy=>?_,ih (hl.minus c)⟩;obtain⟨d,hdm,rfl⟩:=List.mem_map.1 hy;obtain⟨a,t',hd',_⟩:=h3.first (hl.minus c) d hdm;have h5:a∈minus (p::r) c:=h3.mem d hdm a (by rw [hd'];simp);have h6:=yX.1 h5;have:qO p a=true:=by
   rcases List.mem_cons.1 h6.1 with e|e
   ·subst e;exact absurd hp h6.2
   ·rw [qS,List.pairwise_cons] at hl;exact hl.1 a e
  rw [hc,hd',hqp];exact this
theorem ClS.part{g:Int}{l:List qd}{cs:List (List qd)}(hl:qS l)(h:ClS g l cs){c:List qd}(hc:c∈cs):ClS g c [c]:=by
 obtain⟨p,t,rfl,hp⟩:=h.first hl c hc;refine .cons (h.rows _ hc) hp ?_;have:minus (p::t) (p::t)=[]:=by
  unfold minus;exact List.filter_eq_nil_iff.2 fun x hx=>by simp only [decide_eq_true hx];decide
 rw [this];exact .nil
theorem ClS.fewer{g g':Int}{l:List qd}{cs cs':List (List qd)}(hl:qS l)(h:ClS g l cs)(h':ClS g' l cs')(hg:g<=g'):cs'.length<=cs.length:=by
 have hn:=(h'.heads hl).nodup;have:=wD hn (b:=cs.map hd) fun x hx=>by
  obtain⟨c',hc',rfl⟩:=List.mem_map.1 hx;obtain⟨p,t,hpt,hp⟩:=h'.first hl c' hc';have hpl:p∈l:=h'.mem c' hc' p (by rw [hpt];simp);obtain⟨c,hc,hpc⟩:=h.cover p hpl;obtain⟨q,s,hqs,hq⟩:=h.first hl c hc;refine List.mem_map.2 ⟨c,hc,?_⟩;have hqp:q∈c':=by
   have h1:Conn g l p q:=(((hq p).1 hpc).mono (Int.le_refl g) (h.mem c hc)).symm;clear hq hqs;have h2:p∈c':=by rw [hpt];simp
   induction h1 with
   |base _=>exact h2
   |step _ k2 k3 ih=>exact h'.closed c' hc' _ ih _ k2 oM
  have h3:=h'.rows c' hc';have h4:=h.rows c hc;have:q=p:=by
   rw [hpt] at hqp h3;rw [hqs] at hpc h4;rw [qS,List.pairwise_cons] at h3 h4;rcases List.mem_cons.1 hqp with e|e
   ·exact e
   ·rcases List.mem_cons.1 hpc with e2|e2
    ·exact e2.symm
    ·exact absurd (vB (h3.1 q e) (h4.1 p e2)) jY
  rw [hqs,hpt,this];rfl
 simpa using this
end Go.Ah

namespace Go.Ah
open Go.Ab Go.Proofs
theorem ClS.conn{g:Int}{l:List qd}{cs:List (List qd)}(hl:qS l)(h:ClS g l cs){c:List qd}(hc:c∈cs){x y:qd}(hx:x∈c)(hy:y∈c):Conn g c x y:=by
 obtain⟨p,t,_,hp⟩:=h.first hl c hc;exact ((hp x).1 hx).symm.trans ((hp y).1 hy)
theorem ClS.nodup{g:Int}{l:List qd}{cs:List (List qd)}(hl:qS l)(h:ClS g l cs):cs.Nodup:=
 List.Pairwise.of_map hd (fun _ _ hne e=>hne (by rw [e])) (h.heads hl).nodup
theorem nJ{a b:List qd}(ha:a≠[])(hb:b≠[]){g:Int}:xC a b<=g↔∃x∈a,∃y∈b,xg x y<=g:=by
 obtain⟨⟨x,hx,y,hy,h1⟩,h2⟩:=X9 ha hb;constructor
 ·intro h;exact⟨x,hx,y,hy,oM⟩
 ·rintro ⟨x,hx,y,hy,h⟩;have:=h2 x hx y hy;omega
end Go.Ah

namespace Go.Ah
open Go.Ab Go.Proofs
def mv(v q:qd):qd:=(q.1+v.1,q.2+v.2)
structure Like (g:Int) (l l':List (List qd)) (F:List qd->List qd):Prop where
 map:l'=l.map F
 cl:∀a∈l,ZQ g (F a)=ZQ g a
 ds:∀a∈l,∀b∈l,xC (F a) (F b)=xC a b
theorem Like.at{g:Int}{l l':List (List qd)}{F:List qd->List qd}(h:Like g l l' F){i:Nat}{a':List qd}(ha:l'[i]?=some a'):∃a,l[i]?=some a/\a'=F a:=by
 rw [h.map,List.getElem?_map] at ha;obtain⟨a,h1,h2⟩:=Option.map_eq_some_iff.1 ha;exact⟨a,h1,h2.symm⟩
theorem Like.to{g:Int}{l l':List (List qd)}{F:List qd->List qd}(h:Like g l l' F){i:Nat}{a:List qd}(ha:l[i]?=some a):l'[i]?=some (F a):=by
 rw [h.map,List.getElem?_map,ha];rfl
theorem oU{f:Ft}(hv:xB f=true):qN f≠[]:=fun e=>by
 obtain⟨⟨hn1,_⟩,_⟩:=yS hv;have h:=Vu hv (kR (L:=f.pts) (i:=0) oM);rw [e] at h;cases h
theorem eN{p:Pic}(hv:qJ p=true):∀a∈qz p,a≠[]:=fun a ha=>by
 obtain⟨f,hf,rfl⟩:=List.mem_map.1 ha;exact oU (yb hv f hf)
def QG(A:List Bool)(P:Nat->Nat->Prop):Prop:=A.length=3600/\∀y x,y<60->x<60->(A[y*60+x]?=some true↔P y x)
theorem QG.congr{A:List Bool}{P Q:Nat->Nat->Prop}(h:QG A P)(he:∀y x,y<60->x<60->(P y x↔Q y x)):QG A Q:=⟨h.1,fun y x hy hx=>(h.2 y x hy hx).trans (he y x hy hx)⟩
theorem QG.none:QG (List.replicate 3600 false) fun _ _=>False:=⟨List.length_replicate,fun y x hy hx=>by
 rw [List.getElem?_replicate,if_pos (by omega)];simp⟩
theorem QG.set{A:List Bool}{P:Nat->Nat->Prop}(h:QG A P){y x:Nat}(hy:y<60)(hx:x<60):QG (A.set (y*60+x) true) fun j i=>P j i\/(j=y/\i=x):=by
 refine⟨by rw [List.length_set];exact h.1,fun j i hj hi=>?_⟩;rw [List.getElem?_set];by_cases e:y*60+x=j*60+i
 ·have:j=y/\i=x:=by omega
  rw [if_pos e,if_pos (by rw [h.1];omega)];exact⟨fun _=>.inr this,fun _=>rfl⟩
 ·rw [if_neg e,h.2 j i hj hi];constructor
  ·exact .inl
  ·rintro (h|⟨rfl,rfl⟩)
   ·exact h
   ·exact absurd rfl e
theorem QG.at{A:List Bool}{P:Nat->Nat->Prop}(h:QG A P){y x:Nat}(hy:y<60)(hx:x<60):∃b,A[y*60+x]?=some b/\(b=true↔P y x):=by
 obtain⟨b,hb⟩:∃b,A[y*60+x]?=some b:=⟨_,zge (by rw [h.1];omega)⟩;refine⟨b,hb,?_⟩;rw [<-h.2 y x hy hx,hb];simp
def J7(p:Pic)(q:qd)(j i:Nat):Prop:=(i:Int)<p.w/\(j:Int)<p.h/\xg q ((i:Int),(j:Int))<=p.gap
def we(p:Pic)(l:List qd)(j i:Nat):Prop:=∃q∈l,J7 p q j i
theorem o7{p:Pic}{l:List qd}{q:qd}{j i:Nat}:we p (l++[q]) j i↔we p l j i\/J7 p q j i:=by
 unfold we;constructor
 ·rintro ⟨r,hr,h⟩;rcases List.mem_append.1 hr with hr|hr
  ·exact .inl ⟨r,hr,h⟩
  ·rw [List.mem_singleton] at hr;subst hr;exact .inr h
 ·rintro (⟨r,hr,h⟩|h)
  ·exact⟨r,List.mem_append_left _ hr,h⟩
  ·exact⟨q,by simp,h⟩
theorem Xp{p:Pic}{q:qd}{j i:Nat}:J7 p q j i↔(i:Int)<p.w/\(j:Int)<p.h/\q.1-p.gap<=(i:Int)/\(i:Int)<=q.1+p.gap/\q.2-p.gap<=(j:Int)/\(j:Int)<=q.2+p.gap:=by
 unfold J7 xg;constructor
 ·rintro ⟨h1,h2,h3⟩;simp only at h3;refine⟨h1,h2,?_⟩;omega
 ·rintro ⟨h1,h2,h3⟩;refine⟨h1,h2,?_⟩;simp only;omega
def KM(p:Pic)(l:List qd)(q:qd)(y:Int)(j i:Nat):Prop:=we p l j i\/(J7 p q j i/\(j:Int)<y)
def KN(p:Pic)(l:List qd)(q:qd)(y x:Int)(j i:Nat):Prop:=we p l j i\/(J7 p q j i/\((j:Int)<y\/((j:Int)=y/\(i:Int)<x)))
theorem tS{p:Pic}{l:List qd}{q:qd}{j i:Nat}:we p l j i↔KM p l q (max 0 (q.2-p.gap)) j i:=by
 unfold KM;rw [Xp];constructor
 ·exact .inl
 ·rintro (h|h)
  ·exact h
  ·omega
theorem HM{p:Pic}{l:List qd}{q:qd}{y:Int}{j i:Nat}(h:¬y<=min (p.h-1) (q.2+p.gap)):KM p l q y j i↔we p (l++[q]) j i:=by
 unfold KM;rw [o7,Xp];constructor
 ·rintro (h|h)
  ·exact .inl h
  ·exact .inr h.1
 ·rintro (h|h)
  ·exact .inl h
  ·exact .inr ⟨h,oM⟩
theorem tT{p:Pic}{l:List qd}{q:qd}{y:Int}{j i:Nat}:KM p l q y j i↔KN p l q y (max 0 (q.1-p.gap)) j i:=by
 unfold KM KN;rw [Xp];constructor
 ·rintro (h|h)
  ·exact .inl h
  ·exact .inr ⟨h.1,.inl h.2⟩
 ·rintro (h|⟨h,h2⟩)
  ·exact .inl h
  ·exact .inr ⟨h,oM⟩
theorem HN{p:Pic}{l:List qd}{q:qd}{y x:Int}{j i:Nat}(h:¬x<=min (p.w-1) (q.1+p.gap)):KN p l q y x j i↔KM p l q (y+1) j i:=by
 unfold KM KN;rw [Xp];constructor
 ·rintro (h|⟨h,h2⟩)
  ·exact .inl h
  ·exact .inr ⟨h,oM⟩
 ·rintro (h|⟨h,h2⟩)
  ·exact .inl h
  ·exact .inr ⟨h,oM⟩
theorem CL{p:Pic}{l:List qd}{q:qd}{y x:Nat}{j i:Nat}(h1:max 0 (q.2-p.gap)<=(y:Int))(h2:(y:Int)<=min (p.h-1) (q.2+p.gap))(h3:max 0 (q.1-p.gap)<=(x:Int))(h4:(x:Int)<=min (p.w-1) (q.1+p.gap)):(KN p l q y x j i\/(j=y/\i=x))↔KN p l q y ((x:Int)+1) j i:=by
 unfold KN;rw [Xp];constructor
 ·rintro ((h|⟨h,h2⟩)|⟨rfl,rfl⟩)
  ·exact .inl h
  ·exact .inr ⟨h,oM⟩
  ·exact .inr ⟨oM,oM⟩
 ·rintro (h|⟨h,h2⟩)
  ·exact .inl (.inl h)
  ·by_cases e:j=y/\i=x
   ·exact .inr e
   ·exact .inl (.inr ⟨h,oM⟩)
def xQ(p:Pic)(d:DC)(A:List Bool):List DC:=yL p++d::A.map bC
def bF(b:Bool):FD:=.c (.bool b)
def XP(p:Pic)(n:Nat)(rows:List FD)(A:List Bool):List FD:=[.c (.int .i64 p.w),.c (.int .i64 p.h),.c (.int .i64 p.gap),.sl 3 p.fs.length (p.fs.flatMap w8),.sl 1 n rows]++A.map bF
theorem HB(p:Pic)(n:Nat)(rows:List FD)(A:List Bool):xQ p (.f (.sl 1 n rows)) A=(XP p n rows A).map .f:=by
 simp [xQ,XP,yL,bC,bF]
theorem sO(p:Pic)(d:DC)(A:List Bool)(n:Nat)(b:Bool):(xQ p d A).set (5+n) (bC b)=xQ p d (A.set n b):=by
 simp only [xQ,yL,List.cons_append,List.nil_append];rw [show 5+n=n+1+1+1+1+1 by omega];simp only [List.set_cons_succ,List.map_set]
def XO(p:Pic)(A:List Bool):DV:=.one (.fptr (XP p (qz p).length ((qz p).map fun l=>.sl 2 l.length (l.flatMap qh)) A))
def iS(p:Pic)(A:List Bool):Prop:=QG A (we p (qz p).flatten)
theorem HT{p:Pic}{i:Nat}{q:qd}(h0:0<=q.1/\0<=q.2)(h1:2*(q.1+2)<=p.w)(h2:3*(q.2+1)<=p.h):∀r∈xO i q,(0<=r.1/\r.1<p.w)/\0<=r.2/\r.2<p.h:=fun r hr=>by
 unfold xO wP at hr;obtain⟨k,hk,rfl⟩:=List.mem_map.1 hr;have:=List.mem_range.1 (List.mem_filter.1 hk).1;simp only [qC];omega
theorem pB(i:Nat)(q:qd):qC q 1∈xO i q:=by
 unfold xO wP;exact List.mem_map.2 ⟨1,List.mem_filter.2 ⟨by simp,(show UL 60 3=true by kernel_rfl)⟩,rfl⟩
theorem mD(i:Nat)(q:qd):xO i q≠[]:=fun e=>by
 have:=pB i q;rw [e] at this;cases this
end Go.Ah

namespace Go.Ab
def OI(k:Nat)(l:List FD):DC->DC
 |.ptr j o=>match Nat.beq j k with
  |true=>.fptr (l.drop o)
  |false=>.ptr j o
 |d=>d
def Ed(k:Nat)(l:List FD):DV->DV
 |.one d=>.one (OI k l d)
 |d=>d
section
variable{p:Par}{base rs n:Nat}{W:Wt}{A:List Nat}{E:qo}{S:Bx}{nk:Nat}
theorem BL{Z:Nat->Prop}{β:qq}{H:Hp}:∀{fs:List FD} {cs:List C},qe (RD Z H β) (fs.map .f) cs->qe (RF Z H) fs cs
 |[],[],_=>trivial
 |_::_,_::_,h=>⟨h.1,BL h.2⟩
 |[],_::_,h=>h.elim
 |_::_,[],h=>h.elim
theorem HY{Z:Nat->Prop}{β:qq}{H:Hp}{F:T V}(hS:SR p Z β H S nk)(hE:ER Z β H E F){k:Nat}{fs:List FD}(hk:lk S k=some (.cells (fs.map .f))):
 ∃Z',SR p Z' β H (jn k S) nk/\ER Z' β H (wr (Ed k fs) E) F/\xd Z H Z' H/\∀b,Z' b↔Z b\/∃N,β (k,0)=some (.blk b N):=by
 have hZ:xd Z H (fun b=>Z b\/∃N,β (k,0)=some (.blk b N)) H:=fun b hb=>⟨.inl hb,fun _ _ h=>h⟩;obtain⟨s0,hs0,hb0⟩:=hS.box (k,0) _ (xL hk rfl);have hC:∀d c,RD Z H β d c->RD (fun b=>Z b\/∃N,β (k,0)=some (.blk b N)) H β (OI k fs d) c:=fun d c hr=>by
  cases d with
  |ptr j o=>
   simp only [OI];by_cases hj:j=k
   ·subst hj;rw [jU];obtain⟨b,N,h1,rfl⟩:=hr;rw [hs0] at h1;obtain rfl:=zsi h1;obtain⟨_,_,_,cs,rest,hrow,_,hrel⟩:=hb0;have hrel:qe (RD Z H β) (fs.map .f) cs:=hrel;have hrow:zM H b (cs++rest):=hrow;have ha:=(BL hrel).mono fun _ _=>RF.mono hZ;have hlen:fs.length=cs.length:=ha.len;refine⟨b,o,cs.drop o,rfl,.inr ⟨N,hs0⟩,?_,ha.drop o⟩;by_cases ho:o<=cs.length
    ·have h1:=QK (m:=o) (jR hrow.2 (m:=cs.length) (by rw [List.length_append];omega)) (by omega);rw [List.length_drop,hlen];rw [Nat.zero_add,List.take_append_of_le_length (Nat.le_refl _),List.take_length] at h1;exact h1
    ·rw [List.drop_of_length_le (by omega),List.drop_of_length_le (by omega)];rfl
   ·rw [jg hj];exact hr
  |own j o n e=>exact RD.mono (d:=.own j o n e) hZ (xD.refl β) hr
  |trow j i o n=>exact RD.mono (d:=.trow j i o n) hZ (xD.refl β) hr
  |f d=>exact RD.mono (d:=.f d) hZ (xD.refl β) hr
  |g b o=>exact hr
  |tptr j i o=>exact hr
  |fptr q=>exact RD.mono (d:=.fptr q) hZ (xD.refl β) hr
  |fn f caps=>exact hr
  |any=>trivial
  |om j=>exact hr
  |yl j=>exact hr
  |fz f ls=>exact RD.mono (d:=.fz f ls) hZ (xD.refl β) hr
 refine⟨fun b=>Z b\/∃N,β (k,0)=some (.blk b N),⟨hS.wf,hS.lo,fun b hb=>hb.elim (hS.z b) fun⟨N,h⟩=>hS.bd _ b N h,fun b hb=>?_,fun b hb=>.inl (hS.zz b hb),fun b bk hb=>⟨.inl (hS.glob b bk hb).1,(hS.glob b bk hb).2⟩,hS.nk,hS.bd,fun j y hj=>?_,fun j j' y y' b N N' hj hj' h1 h2=>?_,hS.blo,hS.anch,hS.ancn⟩,fun n d hd=>?_,hZ,fun b=>Iff.rfl⟩
 ·rcases hb with hb|⟨N,hb⟩
  ·exact hS.zlo b hb
  ·exact .inr (hS.blo _ b N hb)
 ·rw [VN] at hj;split at hj
  ·cases hj
  ·rename_i hne;obtain⟨s,hs,hbx⟩:=hS.box j y hj;obtain⟨w,hw⟩:=jC hj;refine⟨s,hs,?_⟩;cases s with
   |nil=>exact hbx
   |blk b N=>
    obtain⟨h1,h2,h3,cs,rest,h4,h5,h6⟩:=hbx;exact⟨fun h=>h.elim h1 fun⟨M,hM⟩=>hne (by rw [hS.inj j (k,0) w _ b N M hw hk hs hM]),h2,h3,cs,rest,h4,h5,Bk.rel_mono hZ (xD.refl β) h6⟩
 ·have f:∀i z,lk (jn k S) i=some z->lk S i=some z:=fun i z hz=>by
   rw [yZ] at hz;split at hz
   ·cases hz
   ·exact hz
  exact hS.inj j j' y y' b N N' (f _ _ hj) (f _ _ hj') h1 h2
 ·rw [QW] at hd;cases hl:lk E n with
  |none=>rw [hl] at hd;cases hd
  |some y=>
   rw [hl] at hd;obtain rfl:=zsi hd;obtain⟨v,hv,hr⟩:=hE n y hl;refine⟨v,hv,?_⟩;cases y with
   |one d=>obtain⟨c,rfl,hr⟩:=hr;exact⟨c,rfl,hC d c hr⟩
   |agg m=>exact xc.mono (d:=.agg m) hZ (xD.refl β) hr
   |tup m=>exact xc.mono (d:=.tup m) hZ (xD.refl β) hr
theorem Qa{Q:Exit->qo->Bx->Nat->Prop}{s:SC}(k:Nat){fs:List FD}(hk:lk S k=some (.cells (fs.map .f)))(h:DPS p n s Q (wr (Ed k fs) E) (jn k S) nk):DPS p n s Q E S nk:=.mk fun Z β H F hS hE=>by
 obtain⟨Z',hS',hE',_,_⟩:=HY hS hE hk;exact h.run Z' β H F hS' hE'
end
def rQ(a:Nat)(β β':qq):Prop:=∀k s,k<a->β (k,0)=some s->β' (k,0)=some s
def GV(p:Par)(a:Nat)(f:FuncId)(ds:List DV)(S:Bx)(nk:Nat)(R:DV->Bx->Nat->Prop):Prop:=∀Z β H args,SR p Z β H S nk->qe (xc Z H β) ds args->
 qK p.P p.G f args H fun v H'=>∃d S' nk' Z' β',SR p Z' β' H' S' nk'/\xc Z' H' β' d v/\xd Z H Z' H'/\rQ a β β'/\R d S' nk'
abbrev Par.holdA(p:Par)(a:Nat)(Z:Nat->Prop)(β:qq)(H:Hp):Par:=⟨p.P,p.G,p.GH,Z,p.lo,a,β,H,none⟩
theorem SR.holdA{p:Par}{a:Nat}{Z:Nat->Prop}{β:qq}{H:Hp}{S:Bx}{nk:Nat}(h:SR p Z β H S nk)(ha:a<=nk):SR (p.holdA a Z β H) Z β H S nk:=
 ⟨h.wf,h.lo,h.z,fun _ hb=>.inl hb,fun _ hb=>hb,fun b bk hb=>hb.elim (fun hb=>h.glob b bk (.inl hb)) fun hb=>hb,h.nk,h.bd,h.box,h.inj,h.blo,fun _ _ _=>rfl,ha⟩
theorem SR.freeA{p:Par}{a:Nat}{Z Z':Nat->Prop}{β β':qq}{H H':Hp}{S S':Bx}{nk nk':Nat}(h:SR p Z β H S nk)(ha:p.anc<=a)(h':SR (p.holdA a Z β H) Z' β' H' S' nk'):SR p Z' β' H' S' nk'/\xd Z H Z' H'/\rQ a β β':=by
 have hz:∀b,Z b->Z' b:=h'.zz;refine⟨⟨h'.wf,h'.lo,h'.z,fun b hb=>(h'.zlo b hb).elim (h.zlo b) .inr,fun b hb=>hz b (h.zz b hb),fun b bk hb=>h'.glob b bk (.inr (h.glob b bk hb)),h'.nk,h'.bd,h'.box,h'.inj,h'.blo,fun κ hκ h0=>?_,Nat.le_trans ha h'.ancn⟩,fun b hb=>⟨hz b hb,fun i c hc=>?_⟩,fun k s hk hκ=>?_⟩
 ·exact (h'.anch κ (Nat.lt_of_lt_of_le hκ ha) h0).trans (h.anch κ hκ h0)
 ·unfold Hp.cell at hc ⊢;cases hg:H.get b with
  |none=>rw [hg] at hc;cases hc
  |some bk=>rw [(h'.glob b bk (.inr ⟨hb,hg⟩)).2];rw [hg] at hc;exact hc
 ·exact (h'.anch (k,0) hk rfl).trans hκ
theorem TE {p:Par} {a:Nat} {f:FuncId} {sf:SFn} (hf:zK p.P p.G f=some sf) {ds:List DV} {S:Bx} {nk:Nat} {R:DV->Bx->Nat->Prop} (hn:Nat.ble ds.length sf.n=true) (ha:p.anc<=a) (hank:a<=nk)
 (h:∀Z β H,DPS (p.holdA a Z β H) sf.n sf.code (VF (p.holdA a Z β H) sf.res R) (kp ds 0) S nk):GV p a f ds S nk R:=by
 intro Z β H args hS hag;refine KZ hf (by rw [<-hag.len];exact Nat.le_of_ble_eq_true hn) ?_;refine zP ((h Z β H).run Z β H _ (hS.holdA hank) (XJ 0 hag)) fun e F' H' ⟨E',S',nk',Z',β',h1,h2,h3⟩=>?_;have fin:(∃d,yO (p.holdA a Z β H) E' S' sf.res=some d/\J3 d=true/\∃S0,zV S0 S'/\R d S0 nk')->∃v,xE F' H' sf.res=some v/\∃d S' nk' Z' β',SR p Z' β' H' S' nk'/\xc Z' H' β' d v/\xd Z H Z' H'/\rQ a β β'/\R d S' nk':=fun⟨d,hd,hfr,S0,hsub,hR⟩=>by
  obtain⟨v,hv,hr⟩:=Z7 h1 h2 hd hfr;obtain⟨g1,g2,g3⟩:=hS.freeA ha (h1.keepS hsub);exact⟨v,hv,d,S0,nk',Z',β',g1,hr,g2,g3,hR⟩
 cases e with
 |normal=>obtain⟨v,hv,hr⟩:=fin h3;simp only [Xd,hv];exact hr
 |ret=>obtain⟨v,hv,hr⟩:=fin h3;simp only [Xd,hv];exact hr
 |_=>exact h3.elim
section
variable{p:Par}{base rs:Nat}{Q:qo->Bx->Nat->Prop}{r:List SOper}{W:Wt}{A:List Nat}{E:qo}{S:Bx}{nk:Nat}{id:Nat}{dst:Option Nat}{aid:Option Nat}{ws:List Nat}{keep:Bool}
theorem iI{a:Nat}{β β':qq}(h:rQ a β β'):wV (jx [] a β) β':=fun k s hk=>by
 by_cases hka:k<a
 ·simp only [jx,if_pos hka] at hk;exact h k s hka hk
 ·simp only [jx,if_neg hka] at hk;cases hk
theorem SR.none{Z:Nat->Prop}{β:qq}{H:Hp}(h:SR p Z β H S nk):SR p Z β H [] nk:=h.keepS (qw _)
theorem AI{f:FuncId}{args:List Opd}{ds:List DV}{R:DV->Bx->Nat->Prop}{E0:qo}{S0:Bx}{n0 a:Nat}(ρ:List (Nat × Nat))(hw:Wk p ρ n0 E0 S0 E S)(hvs:Xb E0 args=some ds)(hW:noW W=true)(hT:ZB E0=true)(hsm:Wk p [] a E0 [] E0 [])(hc:GV p a f ds S0 n0 R)(h:∀d S' nk',R d S' nk'->DPW p base 0 Q r W A (qX E0 dst d) S' nk'):DPW p base rs Q (⟨id,dst,.cf f args,none,aid,ws,keep⟩::r) W A E S nk:=.mk fun Z β H F c QP hS hE hC hA=>by
 obtain⟨hS0,hE0⟩:=Zt hS hE hw;obtain⟨_,hEa⟩:=Zt hS0.none hE0 hsm;simp only [qv,qs,if_true];refine (hc Z _ H _ hS0 (wY hE0 hvs)).monoP ?_;rintro v H' ⟨d,S',nk',Z',β',hS',hr,hZ,hB,hR⟩;have hC':CR W Z' β' H' c:=hC.noW (vU hW) hZ;exact⟨hC'.watch ws,(h d S' nk' hR).run Z' β' H' _ c QP hS' ((hEa.mono0 hZ (iI hB) hT).set dst hr) hC' ⟨hA.1,fun j hj=>absurd hj oM⟩⟩
theorem nG{x:Opd}{f:FuncId}{caps:List (Nat × Nat)}{args:List Opd}{ds:List DV}{R:DV->Bx->Nat->Prop}{E0:qo}{S0:Bx}{n0 a:Nat}(ρ:List (Nat × Nat))(hw:Wk p ρ n0 E0 S0 E S)(hx:ro E0 x=some (.one (.fn f caps)))(hf:zR p.P f=true)(hvs:Xb E0 args=some ds)(hW:noW W=true)(hT:ZB E0=true)(hsm:Wk p [] a E0 [] E0 [])(hc:GV p a f (ds++Ws caps) S0 n0 R)(h:∀d S' nk',R d S' nk'->DPW p base 0 Q r W A (qX E0 dst d) S' nk'):DPW p base rs Q (⟨id,dst,.cv x args,none,aid,ws,keep⟩::r) W A E S nk:=.mk fun Z β H F c QP hS hE hC hA=>by
 obtain⟨hS0,hE0⟩:=Zt hS hE hw;obtain⟨_,hEa⟩:=Zt hS0.none hE0 hsm;obtain⟨cx,hcx,caps',rfl,hcaps⟩:=xj hE0 hx;simp only [qv,qs,if_true,hcx];refine⟨hf,?_⟩;refine (hc Z _ H _ hS0 ((wY hE0 hvs).append (YB hcaps))).monoP ?_;rintro v H' ⟨d,S',nk',Z',β',hS',hr,hZ,hB,hR⟩;have hC':CR W Z' β' H' c:=hC.noW (vU hW) hZ;exact⟨hC'.watch ws,(h d S' nk' hR).run Z' β' H' _ c QP hS' ((hEa.mono0 hZ (iI hB) hT).set dst hr) hC' ⟨hA.1,fun j hj=>absurd hj oM⟩⟩
theorem pQ{E0:qo}{S0:Bx}{n0:Nat}(ρ:List (Nat × Nat))(hw:Wk p ρ n0 E0 S0 E S)(hW:noW W=true)(h:DPW p base 0 Q r W A E0 S0 n0):DPW p base rs Q r W A E S nk:=.mk fun Z β H F c QP hS hE hC hA=>by
 obtain⟨hS0,hE0⟩:=Zt hS hE hw;exact h.run Z _ H F c QP hS0 hE0 (hC.noW (vU hW) (xd.refl Z H)) ⟨hA.1,fun j hj=>absurd hj oM⟩
end
section
variable{p:Par}{n:Nat}{Q:Exit->qo->Bx->Nat->Prop}{E:qo}{S:Bx}{nk:Nat}
theorem gL{s:SC}(kb i esz:Nat){l:List DC}(hk:lk S kb=some (.cells l))(hi:l[i]?=some (.f (.c .nils)))(h:DPS p n s Q E ((nk,.data [])::put kb (.cells (l.set i (.own nk 0 0 esz))) S) (nk+1)):DPS p n s Q E S nk:=.mk fun Z β H F hS hE=>by
 have hT:=QU hS;have hB:=hS.ble .nil;have hkn:=hS.lt hk;have hkT:lk ((nk,.data [])::S) kb=some (.cells l):=by rw [qR,if_neg (by omega)];exact hk
 refine h.run Z _ H F ?_ (hE.mono (xd.refl Z H) hB);have hput:∀j,lk ((nk,.data [])::put kb (.cells (l.set i (.own nk 0 0 esz))) S) j=lk (put kb (.cells (l.set i (.own nk 0 0 esz))) ((nk,.data [])::S)) j:=fun j=>by
  simp only [put,jg (show nk≠kb by omega)]
 refine⟨hT.wf,hT.lo,hT.z,hT.zlo,hT.zz,hT.glob,hT.nk,hT.bd,fun κ y hκ=>?_,fun κ κ' y y' b N N' hj hj'=>?_,hT.blo,hT.anch,hT.ancn⟩
 ·rw [y4 (hput κ.1),ZE hkT rfl] at hκ;split at hκ
  ·rename_i e;split at hκ
   ·rename_i e2;obtain rfl:=vg e e2;obtain rfl:=zsi hκ;obtain⟨s,hs,hbx⟩:=hT.box (kb,0) _ (xL hkT rfl);refine⟨s,hs,?_⟩;cases s with
    |nil=>
     have:l=[]:=List.eq_nil_of_length_eq_zero hbx;subst this;cases hi
    |blk b N=>
     obtain⟨g1,g2,g3,cs,rest,g4,g5,g6⟩:=hbx;refine⟨g1,g2,g3,cs,rest,g4,g5,?_⟩;obtain⟨c,hc,hr⟩:=qe.at g6 i _ hi;cases hr;have hset:cs.set i .nils=cs:=by
      refine List.ext_getElem? fun j=>?_;rw [List.getElem?_set];split
      ·rename_i ej;subst ej;rw [hc];first|rfl|rw [if_pos (zgs hc).1]
      ·rfl
     show qe _ _ _
     rw [<-hset];exact qe.set g6 i (.inl ⟨qW _ _ _,rfl,rfl,rfl⟩)
   ·cases hκ
  ·exact hT.box κ y hκ
 ·rw [hput] at hj hj';rw [yY] at hj hj';have f:∀a z,(if a=kb then Option.map (fun _=>Bk.cells (l.set i (.own nk 0 0 esz))) (lk ((nk,.data [])::S) a) else lk ((nk,.data [])::S) a)=some z->∃z',lk ((nk,.data [])::S) a=some z':=fun a z hz=>by
   split at hz
   ·cases hl:lk ((nk,.data [])::S) a with
    |none=>rw [hl] at hz;cases hz
    |some q=>exact⟨q,rfl⟩
   ·exact⟨z,hz⟩
  obtain⟨z1,e1⟩:=f κ.1 y hj;obtain⟨z2,e2⟩:=f κ'.1 y' hj';exact hT.inj κ κ' z1 z2 b N N' e1 e2
def NM(Q:Exit->qo->Bx->Nat->Prop):Exit->qo->Bx->Nat->Prop
 |.goto _,_,_,_=>False
 |e,E,S,nk=>Q e E S nk
theorem gM{a:SC}(h:DPS p n a (NM Q) E S nk):DPS p n (.scope a) Q E S nk:=.mk fun Z β H F hS hE=>aK (zP (h.run Z β H F hS hE) fun e F' H' ⟨E',S',nk',Z',β',h1,h2,h3⟩=>by
 cases e with
 |goto _=>exact h3.elim
 |_=>exact⟨E',S',nk',Z',β',h1,h2,h3⟩)
end
end Go.Ab

namespace Go.Ah
open Go.Ab Go.Proofs
def vS(p:Pic):List FD:=[.c (.int .i64 p.w),.c (.int .i64 p.h),.c (.int .i64 p.gap),.sl 3 p.fs.length (p.fs.flatMap w8)]
def zF(l:List qd):FD:=.sl 2 l.length (l.flatMap qh)
theorem wo(ρ:List (Nat × Nat))(p:Pic)(d:DC)(A:List Bool):Xc ρ (.cells (xQ p d A))=.cells (xQ p (Y4 ρ d) A):=by
 have e:List.map (Y4 ρ) (A.map bC)=A.map bC:=by
  rw [List.map_map];congr 1
 simp only [Xc,xQ,yL,JX,List.cons_append,List.nil_append,List.map_cons,e];rfl
theorem wm{n:Nat}{p:Pic}{d:DC}{A:List Bool}(h:wX n d=true):Wz n (.cells (xQ p d A))=true:=by
 have e:∀x,wX n (.f x)=true:=fun _=>rfl;simp only [Wz,xQ,yL,List.cons_append,List.nil_append,qE,e,h,Kl]
theorem CW{k n e:Nat}{l:List FD}{p:Pic}{A:List Bool}:kM k l (.cells (xQ p (.own k 0 n e) A))=.cells (xQ p (.f (.sl e n l)) A):=by
 have e1:List.map (Xx k l) (A.map bC)=A.map bC:=by
  rw [List.map_map];congr 1
 simp only [kM,xQ,yL,List.cons_append,List.nil_append,List.map_cons,e1,Xx,jU]
theorem l5{k:Nat}{ok:Nat->Nat->Nat->Prop}:∀A:List Bool,Go.Ab.Xo k ok (A.map bC)
 |[]=>trivial
 |_::A=>⟨trivial,l5 A⟩
theorem CG{k n:Nat}{l:List FD}{p:Pic}{A:List Bool}(h:l.length=n*1):eW k (aW l) (.cells (xQ p (.own k 0 n 1) A)):=by
 refine⟨trivial,trivial,trivial,trivial,?_,l5 A⟩;simp only [l6,jU];exact⟨rfl,h⟩
theorem sI(p:Pic)(d d':DC)(A:List Bool):QC (.cells (xQ p d A)) 4 [d']=.cells (xQ p d' A):=rfl
theorem sH(p:Pic)(d:DC)(A:List Bool)(n:Nat)(b:Bool):QC (.cells (xQ p d A)) (5+n) [bC b]=.cells (xQ p d (A.set n b)):=by
 rw [QC,setLs,setLs,sO]
theorem fO(p:Pic)(d:DC)(A:List Bool):(Bk.cells (xQ p d A)).len=A.length+5:=by
 simp [Bk.len,xQ,yL]
theorem LH {par:Par} {base rs:Nat} {Q:qo->Bx->Nat->Prop} {r:List SOper} {A:List Nat} {E:qo} {S:Bx} {nk i1 i2 n:Nat} {p:Pic} {z:List C} (hz:QL n z=true) (hl:lk E 11=some (yz p))
 (h:DPW par base rs Q r [] A ((13,.one (.ptr nk 0))::(12,.agg (xQ p (.f (.c .nils)) (List.replicate n false)))::E) ((nk,.cells (xQ p (.f (.c .nils)) (List.replicate n false)))::S) (nk+1)):
 DPW par base rs Q (⟨i1,some 12,.p (.build (.int .i64 0::.int .i64 0::.int .i64 0::.nils::.nils::z) [(0,4,.t 11)]),none,none,[],false⟩::⟨i2,some 13,.a (.box (.t 12)),none,none,[],false⟩::r) [] A E S nk:=by
 obtain rfl:=Ym hz;have e1:(List.replicate n (C.bool false)).map kY=(List.replicate n false).map bC:=by
  simp only [List.map_replicate];rfl
 refine xT (d:=.agg (xQ p (.f (.c .nils)) (List.replicate n false))) ?_ (Qz (x:=.cells (xQ p (.f (.c .nils)) (List.replicate n false))) rfl h);have hro:ro E (.t 11)=some (yz p):=hl;have hc:JI (yz p)=some (yL p):=rfl;have hle:∀l:List DC,Nat.ble (0+4) (l.length+1+1+1+1+1)=true:=fun l=>by simp
 simp only [yd,Wd,List.map_cons,hro,hc,List.length_cons,hle,e1];rfl
theorem DJ{p:Pic}(hv:qJ p=true):DK 107 [yz p] fun d=>∃A,iS p A/\d=XO p A:=by
 refine qI fun Z0 lo=>?_;have hh:=(xr hv).2.2.1;simp only [yo,xt,xF] at hh;obtain⟨⟨⟨hw1,hw2⟩,_⟩,⟨hh1,hh2⟩,_⟩:=hh;have hgap:2<=p.gap/\p.gap<=6:=by
  have:=(xr hv).2.2.2;simp only [jS,xt,xF] at this;exact this.1
 have hl8:=(xr hv).1;have hpl:(qz p).length=p.fs.length:=by simp [qz]
 refine yB ?_;refine yq wq (fun base=>?_);refine Qz rfl ?_;refine xT rfl ?_;refine zE ?_;refine Qa 0 (fs:=vS p) rfl ?_;refine yB ?_;refine yq wq (fun base=>?_);refine jF (d:=yz p) rfl ?_;refine LH (n:=3600) (by kernel_rfl) rfl ?_;refine xT rfl ?_;refine zE ?_;refine qu (qf (k:=1) rfl (qf (k:=3) rfl (qw _))) (qf (k:=1) rfl (qw _)) ?_;refine qa ?_;intros;refine gL 1 4 1 (l:=xQ p (.f (.c .nils)) (List.replicate 3600 false)) rfl rfl ?_;refine qm (fun m E S nk=>∃(i:Nat) (A:List Bool),i+m=p.fs.length/\QG A (we p ((qz p).take i).flatten)/\E=[(1,.one (.fptr (vS p))),(3,.one (.ptr 1 0)),(15,.one (.f (.sl 3 p.fs.length (p.fs.flatMap w8)))),(16,.int p.fs.length),(17,.int i)]/\S=[(1,.cells (xQ p (.own 2 0 i 1) A)),(2,.data (((qz p).take i).map zF))]/\nk=3)
  ⟨p.fs.length,_,_,_,[],?wk,0,List.replicate 3600 false,by omega,QG.none.congr fun _ _ _ _=>by simp [we],rfl,rfl,rfl⟩ ?_
 case wk=>exact⟨xH,⟨by rw [wo];rfl,wm rfl,rfl,rfl,rfl,rfl,trivial⟩,rfl,rfl⟩
 rintro m E S nk ⟨i,A,hi,hA,rfl,rfl,rfl⟩;refine qa ?_;intros;refine qb rfl (fun hi2=>?_) (fun hi2=>?_)
 ·have hi2:i<p.fs.length:=by have:=qG hi2;omega
  obtain⟨f,hf⟩:∃f,p.fs[i]?=some f:=⟨_,zge hi2⟩;have e1:=Jt hf;have hvf:=yb hv f (zmg hf);have hcp:=gW hvf;have hpi:(qz p)[i]?=some (qN f):=by simp [qz,hf]
  have hin:=Xn hvf;have hln:=Zh hvf;generalize qN f=l at hcp hpi hin hln;have htk:(qz p).take (i+1)=(qz p).take i++[l]:=by rw [List.take_add_one,hpi];rfl
  have htm:((qz p).take (i+1)).map zF=((qz p).take i).map zF++[zF l]:=by rw [htk,List.map_append];rfl
  have htf:((qz p).take (i+1)).flatten=((qz p).take i).flatten++l:=by rw [htk];simp
  have hrl:(((qz p).take i).map zF).length=i*1:=by rw [List.length_map,List.length_take];omega
  clear htk;generalize ((qz p).take i).map zF=rows at htm hrl;generalize ((qz p).take i).flatten=D at htf hA;refine qa ?_;intros;refine qj rfl rfl hcp ?_;rintro _ rfl;refine qa ?_;intros;refine qy (m:=1) (q:=[zF l]) rfl rfl rfl (qp _ hrl) ⟨rfl,rfl,_,rfl,rfl⟩ oM oM (by decide) rfl ?_;refine xT rfl ?_;refine xT rfl ?_;refine vq (k:=1) (o:=4) rfl rfl rfl rfl rfl (by rw [fO];omega) rfl ?_;rw [sI];refine qa ?_;intros;have hrl2:(rows++[zF l]).length=(i+1)*1:=by rw [List.length_append,List.length_singleton];omega
  refine qm (fun m E S nk=>∃(j:Nat) (A:List Bool),j+m=l.length/\QG A (we p (D++l.take j))/\E=[(1,.one (.fptr (vS p))),(3,.one (.ptr 1 0)),(15,.one (.f (.sl 3 p.fs.length (p.fs.flatMap w8)))),(16,.int p.fs.length),(17,.int i),(33,qx l),(34,.int l.length),(35,.int j)]/\S=[(1,.cells (xQ p (.own 2 0 (i+1) 1) A)),(2,.data (rows++[zF l]))]/\nk=3)
   ⟨l.length,_,_,_,[(2,5)],?wk2,0,A,by omega,by rw [List.take_zero,List.append_nil];exact hA,rfl,rfl,rfl⟩ ?_
  case wk2=>exact⟨xH,⟨by rw [wo];rfl,wm rfl,rfl,rfl,rfl,rfl,trivial⟩,rfl,rfl⟩
  clear hA A;rintro m2 E S nk ⟨j,A,hj,hA,rfl,rfl,rfl⟩;refine qa ?_;intros;refine qb rfl (fun hj2=>?_) (fun hj2=>?_)
  ·have hj2:j<l.length:=by have:=qG hj2;omega
   obtain⟨q,hq⟩:∃q,l[j]?=some q:=⟨_,zge hj2⟩;have e2:=qY hq;have hq6:=hin q (zmg hq);rw [xJ] at hq6;have hqs:D++l.take (j+1)=(D++l.take j)++[q]:=by rw [List.take_add_one,hq,List.append_assoc];rfl
   generalize D++l.take j=L at hA hqs;have w1:IntKind.i64.wrap (q.2-p.gap)=q.2-p.gap:=qg oM oM;have w2:IntKind.i64.wrap (q.2+p.gap)=q.2+p.gap:=qg oM oM;have w3:IntKind.i64.wrap (q.1-p.gap)=q.1-p.gap:=qg oM oM;have w4:IntKind.i64.wrap (q.1+p.gap)=q.1+p.gap:=qg oM oM;have w5:IntKind.i64.wrap (p.h-1)=p.h-1:=qg oM oM;have w6:IntKind.i64.wrap (p.w-1)=p.w-1:=qg oM oM;obtain⟨y0,hy0⟩:∃y0:Nat,max 0 (q.2-p.gap)=(y0:Int):=⟨(max 0 (q.2-p.gap)).toNat,oM⟩;obtain⟨x0,hx0⟩:∃x0:Nat,max 0 (q.1-p.gap)=(x0:Int):=⟨(max 0 (q.1-p.gap)).toNat,oM⟩;refine qa ?_;intros;rw [w1,hy0];refine Qa 3 (fs:=qh q) rfl ?_;refine qm (fun m E S nk=>∃(y:Nat) (A:List Bool),y+m=60/\y0<=y/\QG A (KM p L q y)/\E=[(1,.one (.fptr (vS p))),(3,.one (.ptr 1 0)),(15,.one (.f (.sl 3 p.fs.length (p.fs.flatMap w8)))),(16,.int p.fs.length),(17,.int i),(33,qx l),(34,.int l.length),(35,.int j),(8,.one (.fptr (qh q))),(9,.int y)]/\S=[(1,.cells (xQ p (.own 2 0 (i+1) 1) A)),(2,.data (rows++[zF l]))]/\nk=3)
    ⟨60-y0,_,_,_,[],?wk3,y0,A,by omega,Nat.le_refl _,by rw [<-hy0];exact hA.congr fun _ _ _ _=>tS,rfl,rfl,rfl⟩ ?_
   case wk3=>exact⟨xH,⟨by rw [wo];rfl,wm rfl,rfl,rfl,rfl,rfl,trivial⟩,rfl,rfl⟩
   clear hA A;rintro m3 E S nk ⟨y,A,hym,hy1,hA,rfl,rfl,rfl⟩;refine qa ?_;intros;refine qb rfl (fun hy2=>?_) (fun hy2=>?_)
   ·have hy2:=qG hy2;rw [w5,w2] at hy2;have hyw:IntKind.i64.wrap ((y:Int)+1)=((y+1:Nat):Int):=by rw [qg (by omega) (by omega)];omega
    refine qa ?_;intros;rw [w3,hx0];refine qm (fun m E S nk=>∃(x:Nat) (A:List Bool),x+m=60/\x0<=x/\QG A (KN p L q y x)/\E=[(1,.one (.fptr (vS p))),(3,.one (.ptr 1 0)),(15,.one (.f (.sl 3 p.fs.length (p.fs.flatMap w8)))),(16,.int p.fs.length),(17,.int i),(33,qx l),(34,.int l.length),(35,.int j),(8,.one (.fptr (qh q))),(9,.int y),(10,.int x)]/\S=[(1,.cells (xQ p (.own 2 0 (i+1) 1) A)),(2,.data (rows++[zF l]))]/\nk=3)
     ⟨60-x0,_,_,_,[],?wk4,x0,A,by omega,Nat.le_refl _,by rw [<-hx0];exact hA.congr fun _ _ _ _=>tT,rfl,rfl,rfl⟩ ?_
    case wk4=>exact⟨xH,⟨by rw [wo];rfl,wm rfl,rfl,rfl,rfl,rfl,trivial⟩,rfl,rfl⟩
    clear hA A;rintro m4 E S nk ⟨x,A,hxm,hx1,hA,rfl,rfl,rfl⟩;refine qa ?_;intros;refine qb rfl (fun hx2=>?_) (fun hx2=>?_)
    ·have hx2:=qG hx2;rw [w6,w4] at hx2;refine qa ?_;intros;refine xT (QZ rfl rfl oM oM) ?_;refine xT (QZ rfl rfl oM oM) ?_;rw [show 0+5+(y:Int).toNat*60+(x:Int).toNat*1=5+(y*60+x) by omega];refine vq (k:=1) (o:=5+(y*60+x)) (l:=[bC true]) rfl rfl rfl rfl rfl (by rw [fO,hA.1];omega) rfl ?_;rw [sH];have hset:=(hA.set (y:=y) (x:=x) oM oM).congr (Q:=KN p L q y ((x+1:Nat):Int)) fun j i _ _=>by
      rw [CL (by omega) (by omega) (by omega) (by omega)];rfl
     refine qa ?_;intros;refine⟨m4-1,oM,_,_,_,[],?wk5,x+1,_,oM,oM,hset,rfl,rfl,rfl⟩
     case wk5=>exact⟨xH,⟨by rw [wo];rfl,wm rfl,rfl,rfl,rfl,rfl,trivial⟩,rfl,rfl⟩
    ·have hx2:=qQ hx2;rw [w6,w4] at hx2;refine qa ?_;intros;refine⟨m3-1,oM,_,_,_,[],?wk6,y+1,A,oM,oM,hA.congr fun _ _ _ _=>(HN hx2).trans (by rfl),rfl,rfl,rfl⟩
     case wk6=>exact⟨xH,⟨by rw [wo];rfl,wm rfl,rfl,rfl,rfl,rfl,trivial⟩,rfl,rfl⟩
   ·have hy2:=qQ hy2;rw [w5,w2] at hy2;refine qa ?_;intros;refine⟨m2-1,by omega,_,_,_,[],?wk7,j+1,A,by omega,by rw [hqs];exact hA.congr fun _ _ _ _=>HM hy2,rfl,rfl,rfl⟩
    case wk7=>exact⟨xH,⟨by rw [wo];rfl,wm rfl,rfl,rfl,rfl,rfl,trivial⟩,rfl,rfl⟩
  ·have hj2:j=l.length:=by have:=qQ hj2;omega
   subst hj2;rw [List.take_length,<-htf] at hA;refine qa ?_;intros;refine⟨m-1,by omega,_,_,_,[],?wk8,i+1,A,by omega,hA,rfl,by rw [htm],rfl⟩
   case wk8=>exact⟨xH,⟨by rw [wo];rfl,wm rfl,rfl,rfl,rfl,rfl,trivial⟩,rfl,rfl⟩
 ·have hi2:i=p.fs.length:=by have:=qQ hi2;omega
  subst hi2;have htl:(qz p).take p.fs.length=qz p:=by rw [<-hpl,List.take_length]
  rw [htl] at hA ⊢;have hml:((qz p).map zF).length=p.fs.length*1:=by rw [List.length_map];omega
  refine qH 2 (m:=(qz p).map zF) rfl ⟨trivial,trivial,trivial,trivial,trivial,trivial,trivial⟩ ⟨CG hml,trivial,trivial⟩ ?_;rw [show wr (kM 2 ((qz p).map zF)) (jn 2 [(1,Bk.cells (xQ p (.own 2 0 p.fs.length 1) A)),(2,Bk.data ((qz p).map zF))])=[(1,Bk.cells (xQ p (.f (.sl 1 p.fs.length ((qz p).map zF))) A))] by
   show [(1,kM 2 ((qz p).map zF) (.cells (xQ p (.own 2 0 p.fs.length 1) A)))]=_
   rw [CW]]
  refine Qa 1 (fs:=XP p p.fs.length ((qz p).map zF) A) (congrArg (fun l=>some (Bk.cells l)) (HB ..)) ?_;refine qa ?_;intros;refine qc ⟨_,rfl,rfl,A,hA,?_⟩;rw [XO,hpl];rfl
theorem L0{p:Pic}{A:List Bool}{i k:Nat}{a b:qd}(hi:i<8)(hk:k<8)(ha:qB 1000000 a)(hb:qB 1000000 b):DK 110 [XO p A,.int i,xI a,.int k,xI b] fun d=>d=.bool (wx p.gap i a k b):=by
 refine qI fun Z0 lo=>?_;have n1:=vW i a;have n2:=vW k b;refine qa ?_;intros;refine qj rfl rfl (JE hi ha) ?_;rintro _ rfl;refine qj rfl rfl (JE hk hb) ?_;rintro _ rfl;refine qj rfl rfl (Yy (wG ha) (wG hb) oM oM) ?_;rintro _ rfl;refine qa ?_;intros;exact qc ⟨_,rfl,rfl,rfl⟩
theorem gZ{E:qo}{x i:Opd}{len esz:Nat}{kd:IntKind}{j:Int}{l:List FD}(hx:ro E x=some (.one (.fptr l)))(hi:ro E i=some (.one (.f (.c (.int kd j)))))(h0:0<=j)(h1:j<len):yd E (.aaddr len esz x i)=some (.one (.fptr (l.drop (j.toNat*esz)))):=by
 have e:xa j len=some j.toNat:=by
  obtain⟨n,rfl⟩:=Int.eq_ofNat_of_zero_le h0;have:n<len:=by omega
  show (match Nat.blt n len with|true=>some n|false=>none)=_
  rw [show Nat.blt n len=true by simpa using this];rfl
 simp only [yd,hx,hi,e]
theorem DI{p:Par}{E:qo}{S:Bx}{a:Opd}{l:List FD}{x:FD}(ha:ro E a=some (.one (.fptr l)))(hl:l[0]?=some x):jd p E S false 1 a=some (.one (.f x)):=by
 cases l with
 |nil=>simp at hl
 |cons y l=>
  simp at hl;subst hl;have e:qT (y::l) 0 1=some [y]:=by
   rw [zw (by simp)];simp
  simp only [jd,ha,Zy,e];rfl
theorem HA(p:Pic)(n:Nat)(rows:List FD){A:List Bool}{y x:Nat}{b:Bool}(h:A[y*60+x]?=some b):((((XP p n rows A).drop 5).drop (y*60)).drop (x*1))[0]?=some (.c (.bool b)):=by
 have e:(XP p n rows A).drop 5=A.map bF:=rfl;rw [e,List.drop_drop,List.getElem?_drop,List.getElem?_map,show y*60+x*1+0=y*60+x by omega,h];rfl
theorem WU{all:List (List qd)}{i:Nat}{l:List qd}(h:all[i]?=some l):qT (all.map zF) (i*1) 1=some [zF l]:=by
 have:=zC (f:=fun l:List qd=>[zF l]) (e:=1) (fun _=>rfl) h;rw [<-List.map_eq_flatMap] at this;exact this
theorem CK{p:Pic}(hv:qJ p=true){i:Nat}{q r:qd}(hr:r∈xO i q)(hx:0<=r.1)(hy:0<=r.2)(hn:we p (qz p).flatten r.2.toNat r.1.toNat):(qz p).all (Zo p.gap (xO i q))=false:=by
 obtain⟨s,hs,_,_,hf⟩:=hn;obtain⟨l,hl,hsl⟩:=List.mem_flatten.1 hs;rw [show ((r.1.toNat:Nat):Int)=r.1 by omega,show ((r.2.toNat:Nat):Int)=r.2 by omega] at hf;have hd:xC (xO i q) l<=p.gap:=(nJ (mD i q) (eN hv l hl)).2 ⟨r,hr,s,hsl,by
  unfold xg at hf ⊢;simp only at hf;omega⟩
 rw [List.all_eq_false];exact⟨l,hl,by rw [Zo,decide_eq_true hd];decide⟩
theorem eZ{p:Pic}(hv:qJ p=true){i:Nat}{q:qd}(hin:∀r∈xO i q,(0<=r.1/\r.1<p.w)/\0<=r.2/\r.2<p.h)(hn:∀r∈xO i q,¬we p (qz p).flatten r.2.toNat r.1.toNat):(qz p).all (Zo p.gap (xO i q))=true:=by
 rw [List.all_eq_true];intro l hl;by_cases hd:xC (xO i q) l<=p.gap
 ·obtain⟨r,hr,s,hs,hf⟩:=(nJ (mD i q) (eN hv l hl)).1 hd;have h1:=hin r hr;refine absurd ⟨s,List.mem_flatten.2 ⟨l,hl,hs⟩,?_,?_,?_⟩ (hn r hr)
  ·omega
  ·omega
  ·rw [show ((r.1.toNat:Nat):Int)=r.1 by omega,show ((r.2.toNat:Nat):Int)=r.2 by omega];unfold xg at hf ⊢;simp only;omega
 ·rw [Zo,decide_eq_false hd];rfl
theorem T9{p:Pic}{A:List Bool}{i:Nat}{q:qd}(hv:qJ p=true)(hF:iV p)(hA:iS p A)(hi:i<p.fs.length)(hq:qB 1000000 q):DK 153 [XO p A,.int i,xI q] fun d=>d=.bool (wh p i q):=by
 refine qI fun Z0 lo=>?_;have hh:=(xr hv).2.2.1;simp only [yo,xt,xF] at hh;obtain⟨⟨⟨hw1,hw2⟩,hw3⟩,⟨hh1,hh2⟩,hh3⟩:=hh;rw [Int.tmod_eq_emod_of_nonneg (by omega)] at hw3 hh3;have hgap:2<=p.gap/\p.gap<=6:=by
  have:=(xr hv).2.2.2;simp only [jS,xt,xF] at this;exact this.1
 have hl8:=(xr hv).1;have hpl:(qz p).length=p.fs.length:=by simp [qz]
 have hds:=wG (i:=i) hq;have hdl:=vW i q;have w1:IntKind.i64.wrap (p.w.tdiv 2)=p.w/2:=by rw [Int.tdiv_eq_ediv_of_nonneg (by omega),qg (by omega) (by omega)]
 have w2:IntKind.i64.wrap (p.h.tdiv 3)=p.h/3:=by rw [Int.tdiv_eq_ediv_of_nonneg (by omega),qg (by omega) (by omega)]
 have w3:IntKind.i64.wrap (p.w/2-2)=p.w/2-2:=qg oM oM;have w4:IntKind.i64.wrap (p.h/3-1)=p.h/3-1:=qg oM oM;have w5:IntKind.i64.wrap (3*p.gap)=3*p.gap:=qg oM oM;refine qa ?_;intros;refine qb rfl (fun ht=>?_) (fun ht=>?_)
 ·rw [qZ,qZ,qZ,w1,w2,w3,w4] at ht;simp only [Bool.or_eq_true,xF] at ht;refine qa ?_;intros;refine qc ⟨_,rfl,rfl,?_⟩;have:vj p q=false:=by
   rw [Bool.eq_false_iff];intro h2;simp only [vj,xt,xF] at h2;omega
  rw [wh,this,Bool.false_and]
 ·rw [qZ,qZ,qZ,w1,w2,w3,w4] at ht;simp only [Bool.or_eq_false_iff,decide_eq_false_iff_not] at ht;have hfh:vj p q=true:=by simp only [vj,xt,xF];omega
  have hin:=HT (p:=p) (i:=i) (q:=q) oM oM oM;obtain⟨l,hl⟩:∃l,(qz p)[i]?=some l:=⟨_,zge oM⟩;have hlf:l.length<=256:=by
   obtain⟨f,hf,rfl⟩:=List.mem_map.1 (zmg hl);exact hF f hf (yb hv f hf)
  have hls:=wl (wZ hv l (zmg hl)).1;have hfit:wh p i q=((qz p).all (Zo p.gap (xO i q))&&decide (xC (xO i q) l<=3*p.gap)):=by
   rw [wh,hfh,Bool.true_and,hl];rfl
  rw [hfit];have e3:=WU hl;refine qa ?_;intros;refine qj rfl rfl (JE (i:=i) oM hq) ?_;rintro _ rfl;refine qa ?_;intros;refine qm (fun m E S nk=>∃j:Nat,j+m=(xO i q).length/\(∀(k:Nat) r,k<j->(xO i q)[k]?=some r->¬we p (qz p).flatten r.2.toNat r.1.toNat)/\E=[(0,XO p A),(1,.int i),(7,qx (xO i q)),(45,qx (xO i q)),(46,.int (xO i q).length),(47,.int j)]/\S=[]/\nk=0)
   ⟨(xO i q).length,_,_,_,[],?wk,0,oM,fun k r hk=>oM,rfl,rfl,rfl⟩ ?_
  case wk=>exact ql
  rintro m E S nk ⟨j,hj,hok,rfl,rfl,rfl⟩;refine qa ?_;intros;refine qb rfl (fun hj2=>?_) (fun hj2=>?_)
  ·have hj2:j<(xO i q).length:=by have:=qG hj2;omega
   obtain⟨r,hr⟩:∃r,(xO i q)[j]?=some r:=⟨_,zge hj2⟩;have e1:=qY hr;have hrm:=zmg hr;have hri:=hin r hrm;obtain⟨b,hb,hbn⟩:=hA.at (y:=r.2.toNat) (x:=r.1.toNat) oM oM;have e2:=HA p (qz p).length ((qz p).map zF) hb;refine qa ?_;intros;refine xT (gZ rfl rfl oM oM) ?_;refine xT (gZ rfl rfl oM oM) ?_;refine jF (DI rfl e2) ?_;refine qa ?_;intros;refine qb rfl (fun hbt=>?_) (fun hbt=>?_)
   ·refine qa ?_;intros;refine qc ⟨_,rfl,rfl,?_⟩;rw [CK hv hrm hri.1.1 hri.2.1 (hbn.1 hbt),Bool.false_and]
   ·refine qa ?_;intros;refine⟨m-1,oM,_,_,_,[],?wk2,j+1,oM,fun k r' hk hr'=>?_,rfl,rfl,rfl⟩
    case wk2=>exact ql
    by_cases hkj:k=j
    ·subst hkj;rw [hr] at hr';obtain rfl:=zsi hr';exact fun h=>by rw [hbn.2 h] at hbt;cases hbt
    ·exact hok k r' oM hr'
  ·have hj2:j=(xO i q).length:=by have:=qQ hj2;omega
   subst hj2;have hall:=eZ hv hin fun r hr=>by
    obtain⟨k,hk⟩:=List.getElem?_of_mem hr;exact hok k r (zgs hk).1 hk
   rw [hall,Bool.true_and];refine qa ?_;intros;refine qj rfl rfl (Yy hds hls oM oM) ?_;rintro _ rfl;refine qa ?_;intros;refine qc ⟨_,rfl,rfl,?_⟩;rw [w5]
theorem pL{p:Pic}(hv:qJ p=true){i y x:Nat}(h:(p.w/2).toNat-1<=x):wh p i ((x:Int),(y:Int))=false:=by
 have hh:=(xr hv).2.2.1;simp only [yo,xt,xF] at hh;obtain⟨⟨⟨hw1,hw2⟩,hw3⟩,_⟩:=hh;have:vj p ((x:Int),(y:Int))=false:=by
  rw [Bool.eq_false_iff];intro h2;simp only [vj,xt,xF] at h2;omega
 rw [wh,this,Bool.false_and]
theorem A4{p:Pic}{A:List Bool}{i:Nat}(hv:qJ p=true)(hF:iV p)(hA:iS p A)(hi:i<p.fs.length):DK 108 [XO p A,.int i] fun d=>d=qx (yH p i):=by
 refine qI fun Z0 lo=>?_;have hh:=(xr hv).2.2.1;simp only [yo,xt,xF] at hh;obtain⟨⟨⟨hw1,hw2⟩,hw3⟩,⟨hh1,hh2⟩,hh3⟩:=hh;rw [Int.tmod_eq_emod_of_nonneg (by omega)] at hw3 hh3;obtain⟨nw,hnw⟩:∃nw:Nat,nw=(p.w/2).toNat-1:=⟨_,rfl⟩;obtain⟨nh,hnh⟩:∃nh:Nat,nh=(p.h/3).toNat:=⟨_,rfl⟩;have hw4:p.w=2*((nw:Int)+1):=by omega
 have hh4:p.h=3*(nh:Int):=by omega
 have hnw2:nw<30:=by omega
 have hnh2:nh<=20:=by omega
 have w1:IntKind.i64.wrap (p.w.tdiv 2)=((nw+1:Nat):Int):=by rw [Int.tdiv_eq_ediv_of_nonneg (by omega),qg (by omega) (by omega)];omega
 have w2:IntKind.i64.wrap (p.h.tdiv 3)=(nh:Int):=by rw [Int.tdiv_eq_ediv_of_nonneg (by omega),qg (by omega) (by omega)];omega
 have hlast:∀y:Nat,wh p i ((nw:Int),(y:Int))=false:=fun y=>pL (x:=nw) hv oM;refine qa ?_;intros;rw [w2];refine QX 5 2 rfl ?_;refine qm (fun m E S nk=>∃(y:Nat) (out:List qd),y+m=nh/\out=QR p i nw y/\E=[(0,XO p A),(1,.int i),(5,.one (.own 0 0 out.length 2)),(14,.int nh),(15,.int y)]/\S=[(0,.data (out.flatMap qh))]/\nk=1)
  ⟨nh,_,_,_,[],?wk,0,[],oM,rfl,rfl,rfl,rfl⟩ ?_
 case wk=>exact ql
 rintro m E S nk ⟨y,out,hy,ho,rfl,rfl,rfl⟩;refine qa ?_;intros;refine qb rfl (fun ht=>?_) (fun ht=>?_)
 ·have ht:y<nh:=by have:=qG ht;omega
  have hcl:=Zb p i nw y;have hcm:y*nw<=20*30:=Nat.mul_le_mul oM oM;refine qa ?_;intros;rw [w1];refine qm (fun m E S nk=>∃(x:Nat) (o2:List qd),x+m=nw+1/\o2=out++ky p i y x/\E=[(0,XO p A),(1,.int i),(5,.one (.own 0 0 o2.length 2)),(14,.int nh),(15,.int y),(6,.int y),(23,.int (nw+1:Nat)),(24,.int x)]/\S=[(0,.data (o2.flatMap qh))]/\nk=1)
   ⟨nw+1,_,_,_,[],?wk2,0,out,by omega,by simp [ky],rfl,rfl,rfl⟩ ?_
  case wk2=>exact ql
  rintro m2 E S nk ⟨x,o2,hx,ho2,rfl,rfl,rfl⟩;have hrl:=WW p i y x;have hol:o2.length<=1000:=by rw [ho2,List.length_append,ho];omega
  have hfl:=qL o2;refine qa ?_;intros;refine qb rfl (fun ht2=>?_) (fun ht2=>?_)
  ·have ht2:x<nw+1:=by have:=qG ht2;omega
   refine qa ?_;intros;refine qj rfl rfl (T9 (i:=i) (q:=((x:Int),(y:Int))) hv hF hA hi (by unfold qB;simp only;omega)) ?_;rintro _ rfl;refine qa ?_;intros;refine qb rfl (fun hf=>?_) (fun hf=>?_)
   ·refine qa ?_;intros;refine qy (m:=1) (q:=qh ((x:Int),(y:Int))) rfl rfl rfl (qp _ hfl) ⟨rfl,rfl,_,rfl,rfl⟩ oM oM (by decide) rfl ?_;rw [show o2.flatMap qh++qh ((x:Int),(y:Int))=(o2++[((x:Int),(y:Int))]).flatMap qh by simp,show o2.length+1=(o2++[((x:Int),(y:Int))]).length by simp];refine qa ?_;intros;refine⟨m2-1,by omega,_,_,_,[(0,3)],?wk3,x+1,o2++[((x:Int),(y:Int))],by omega,by rw [s7 hf,ho2,List.append_assoc],rfl,rfl,rfl⟩
    case wk3=>exact ql
   ·refine qa ?_;intros;refine⟨m2-1,by omega,_,_,_,[],?wk4,x+1,o2,by omega,by rw [eB hf,ho2],rfl,rfl,rfl⟩
    case wk4=>exact ql
  ·have ht2:x=nw+1:=by have:=qQ ht2;omega
   subst ht2;rw [eB (hlast y)] at ho2;refine qa ?_;intros;refine⟨m-1,by omega,_,_,_,[],?wk5,y+1,o2,by omega,by rw [YC,ho2,ho],rfl,rfl,rfl⟩
   case wk5=>exact ql
 ·have ht:y=nh:=by have:=qQ ht;omega
  subst ht;have hfl:=qL out;refine qa ?_;intros;refine qu (qf (k:=4) rfl (qw _)) (qf (k:=0) rfl (qw _)) ?_;refine qH 0 rfl qD qD ?_;refine qc ⟨_,rfl,rfl,?_⟩;rw [yH,<-hnw,<-hnh,<-ho];rfl
def jr(g:Int)(l:List qd)(c:qd)(k:Nat):Bool:=(List.range k).all fun j=>!wx g l.length c j (xW l j)
theorem pJ{g:Int}{l:List qd}{c b:qd}{k:Nat}(h:l[k]?=some b):jr g l c (k+1)=(jr g l c k&&!wx g l.length c k b):=by
 unfold jr;rw [List.range_succ,List.all_append,List.all_cons,List.all_nil,Bool.and_true,zg h]
end Go.Ah
