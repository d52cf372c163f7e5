/- Contracts of functions of the program over the abstract semantics. -/
import Derived.Test.YtbfbplnghpdmhaaGreatDoorAb22
set_option linter.unusedSimpArgs false
set_option maxHeartbeats 16000000
set_option linter.unusedVariables false
namespace Go.Ag
open Go.Ab Go.Proofs
theorem C8(i:Nat)(q:qc):∃t,qS i q=qM q 1::t:=by
 refine⟨((List.range' 2 10).filter (zy (Vn i))).map (qM q),?_⟩;have e:List.range 12=0::1::List.range' 2 10:=by decide
 have h0:zy (Vn i) 0=false:=(show AK 60 0=false by kernel_rfl);have h1:zy (Vn i) 1=true:=(show AK 60 3=true by kernel_rfl);rw [qS,wQ,e,List.filter_cons,h0,if_neg (by decide),List.filter_cons,h1,if_pos rfl,List.map_cons]
theorem PI(i:Nat)(q:qc):hd (qS i q)=qM q 1:=by
 obtain⟨t,h⟩:=C8 i q;rw [h];rfl
def Qz(q:qc):qc:=(q.1.tdiv 2,q.2.tdiv 3)
theorem Y6{i:Nat}{q:qc}(h:0<=q.1/\0<=q.2):Qz (hd (qS i q))=q:=by
 rw [PI];unfold Qz qM;have h1:(2*q.1+((1 % 4:Nat):Int)).tdiv 2=q.1:=by rw [Int.tdiv_eq_ediv_of_nonneg (by omega)];omega
 have h2:(3*q.2+((1/4:Nat):Int)).tdiv 3=q.2:=by rw [Int.tdiv_eq_ediv_of_nonneg (by omega)];omega
 exact Prod.ext h1 h2
theorem tX{q:qc}{j k:Nat}(h:j<k):xq (qM q j) (qM q k)=true:=by
 rw [jH];simp only [qM];omega
theorem eW(i:Nat)(q:qc):qJ (qS i q):=by
 unfold qS wQ;exact List.Pairwise.map _ (fun _ _ h=>h) ((List.Pairwise.imp (fun h=>tX h) List.pairwise_lt_range).filter _)
theorem lR{i j:Nat}{q:qc}(hj:j<12):qM q j∈qS i q↔zy (Vn i) j=true:=by
 unfold qS wQ;rw [List.mem_map];constructor
 ·rintro ⟨k,hk,he⟩;obtain⟨_,h2⟩:=List.mem_filter.1 hk;obtain rfl:k=j:=by
   simp only [qM,zpi] at he;omega
  exact h2
 ·intro h;exact⟨j,List.mem_filter.2 ⟨List.mem_range.2 hj,h⟩,rfl⟩
theorem IL:∀i,i<8->∀k,k<8->(∀j,j<12->zy (Vn i) j=zy (Vn k) j)->i=k:=by decide+kernel
theorem lS{i k:Nat}{q:qc}(hi:i<8)(hk:k<8)(h:qS i q=qS k q):i=k:=IL i hi k hk fun j hj=>by
 have h1:=lR (i:=i) (q:=q) hj;have h2:=lR (i:=k) (q:=q) hj;rw [h] at h1;exact Bool.eq_iff_iff.2 (h1.symm.trans h2)
theorem l6{c:List qc}(h:c≠[]):hd c∈c:=by
 obtain⟨a,t,rfl⟩:=List.exists_cons_of_ne_nil h;simp [hd]
structure Left (cs L:List (List qc)):Prop where
 sub:∀c∈L,c∈cs
 nd:L.Nodup
structure Heads (cs:List (List qc)):Prop where
 inj:∀c∈cs,∀d∈cs,hd c=hd d->c=d
 ne:∀c∈cs,c≠[]
def y5(k:qc)(c:List qc):Bool:=decide (hd c=k)
def cut(L:List (List qc))(k:qc):List (List qc):=L.eraseP (y5 k)
def QX(L:List (List qc))(k:qc):List qc:=(L.find? (y5 k)).getD []
theorem dN{cs L:List (List qc)}(hc:Heads cs)(hL:Left cs L){a:List qc}(ha:a≠[]):QX L (hd a)=a↔a∈L:=by
 unfold QX;constructor
 ·intro h;cases hf:L.find? (y5 (hd a)) with
  |none=>rw [hf] at h;exact absurd h.symm ha
  |some c=>
   rw [hf] at h;obtain rfl:c=a:=h;exact List.mem_of_find?_eq_some hf
 ·intro h;cases hf:L.find? (y5 (hd a)) with
  |none=>
   have:=List.find?_eq_none.1 hf a h;simp [y5] at this
  |some c=>
   have h1:=List.find?_some hf;simp only [y5,xV] at h1;exact hc.inj c (hL.sub c (List.mem_of_find?_eq_some hf)) a (hL.sub a h) h1
theorem Zq{cs L:List (List qc)}(hc:Heads cs)(hL:Left cs L){a:List qc}(ha:a∈L):(∀d,d∈cut L (hd a)↔d∈L/\d≠a)/\Left cs (cut L (hd a)):=by
 have hs:∀d,d∈cut L (hd a)->d∈L:=fun d hd'=>List.mem_of_mem_eraseP hd';have hn:(cut L (hd a)).Nodup:=hL.nd.sublist List.eraseP_sublist;refine⟨fun d=>⟨fun h=>⟨hs d h,fun e=>?_⟩,fun⟨h1,h2⟩=>?_⟩,fun c hcc=>hL.sub c (hs c hcc),hn⟩
 ·subst e;obtain⟨x,l1,l2,h1,h2,h3,h4⟩:=List.exists_of_eraseP (p:=y5 (hd d)) ha (by simp [y5]);have hx:x∈L:=by rw [h3];simp
  have hxd:x=d:=hc.inj x (hL.sub x hx) d (hL.sub d ha) (by simpa [y5] using h2);subst hxd;have hnd:=hL.nd;rw [h3] at hnd;rw [cut,h4] at h;have:=(List.nodup_append.1 hnd);rcases List.mem_append.1 h with h|h
  ·exact this.2.2 x h x (by simp) rfl
  ·exact (List.nodup_cons.1 this.2.1).1 h
 ·refine (List.mem_eraseP_of_neg ?_).2 h1;intro hp;exact h2 (hc.inj d (hL.sub d h1) a (hL.sub a ha) (by simpa [y5] using hp))
def wU:List (List qc)->List (List qc)->Option (List (List qc))
 |[],L=>some L
 |a::fl,L=>if QX L (hd a)=a then wU fl (cut L (hd a)) else none
theorem Ji{cs:List (List qc)}(hc:Heads cs):∀{fl L L':List (List qc)},(∀a∈fl,a≠[])->Left cs L->wU fl L=some L'->(∀a∈fl,a∈L)/\(∀d,d∈L'↔d∈L/\d∉fl)/\Left cs L'
 |[],L,L',_,hL,h=>by
  obtain rfl:=zsi h;exact⟨fun a ha=>by simp at ha,fun d=>by simp,hL⟩
 |a::fl,L,L',hne,hL,h=>by
  unfold wU at h;split at h
  ·rename_i ha;have haL:=(dN hc hL (hne a (by simp))).1 ha;obtain⟨h1,h2⟩:=Zq hc hL haL;obtain⟨g1,g2,g3⟩:=Ji hc (fun b hb=>hne b (by simp [hb])) h2 h;refine⟨fun b hb=>?_,fun d=>?_,g3⟩
   ·rcases List.mem_cons.1 hb with rfl|hb
    ·exact haL
    ·exact ((h1 b).1 (g1 b hb)).1
   ·rw [g2,h1,List.mem_cons];exact⟨fun⟨⟨a1,a2⟩,a3⟩=>⟨a1,fun e=>e.elim a2 a3⟩,fun⟨a1,a2⟩=>⟨⟨a1,fun e=>a2 (.inl e)⟩,fun e=>a2 (.inr e)⟩⟩
  ·cases h
theorem eA{cs:List (List qc)}(hc:Heads cs):∀{fl L:List (List qc)},(∀a∈fl,a≠[])->fl.Nodup->Left cs L->(∀a∈fl,a∈L)->∃L',wU fl L=some L'
 |[],L,_,_,_,_=>⟨L,rfl⟩
 |a::fl,L,hne,hnd,hL,h=>by
  have haL:=h a (by simp);obtain⟨h1,h2⟩:=Zq hc hL haL;rw [List.nodup_cons] at hnd;unfold wU;rw [if_pos ((dN hc hL (hne a (by simp))).2 haL)];exact eA hc (fun b hb=>hne b (by simp [hb])) hnd.2 h2 fun b hb=>(h1 b).2 ⟨h b (by simp [hb]),fun e=>hnd.1 (e▸hb)⟩
def ww(i:Nat)(L:List (List qc))(c:List qc):Bool:=L.any (y5 (hd c))&&decide (c=qS i (Qz (hd c)))
def Ym(i:Nat)(cs L:List (List qc)):Option (List qc):=cs.find? (ww i L)
def vj:Nat->Nat->List (List qc)->List (List qc)->List qc->Option (List (List qc) × List qc)
 |0,_,_,L,ps=>some (L,ps)
 |n+1,i,cs,L,ps=>match Ym i cs L with
  |none=>none
  |some c=>vj n (i+1) cs (cut L (hd c)) (ps++[Qz (hd c)])
theorem Yk{cs L:List (List qc)}(hc:Heads cs)(hL:Left cs L){i:Nat}{c:List qc}(hcc:c∈cs):ww i L c=true↔c∈L/\c=qS i (Qz (hd c)):=by
 unfold ww;rw [xD,xV,List.any_eq_true];constructor
 ·rintro ⟨⟨d,hd1,hd2⟩,h2⟩;obtain rfl:=hc.inj d (hL.sub d hd1) c hcc (by simpa [y5] using hd2);exact⟨hd1,h2⟩
 ·rintro ⟨h1,h2⟩;exact⟨⟨c,h1,by simp [y5]⟩,h2⟩
theorem aO{cs:List (List qc)}(hc:Heads cs):∀{n i:Nat} {L L':List (List qc)} {ps ps':List qc},Left cs L->vj n i cs L ps=some (L',ps')->∃qs,qs.length=n/\ps'=ps++qs/\(∀(j:Nat) q,qs[j]?=some q->qS (i+j) q∈L)/\(∀d,d∈L'↔d∈L/\∀(j:Nat) q,qs[j]?=some q->d≠qS (i+j) q)/\Left cs L'
 |0,i,L,L',ps,ps',hL,h=>by
  obtain⟨rfl,rfl⟩:=Prod.mk.inj (zsi h);exact⟨[],rfl,by simp,fun j q hj=>by simp at hj,fun d=>by simp,hL⟩
 |n+1,i,L,L',ps,ps',hL,h=>by
  unfold vj at h;cases hf:Ym i cs L with
  |none=>rw [hf] at h;cases h
  |some c=>
   rw [hf] at h;have hcc:=List.mem_of_find?_eq_some hf;obtain⟨hcL,hce⟩:=(Yk hc hL hcc).1 (List.find?_some hf);obtain⟨h1,h2⟩:=Zq hc hL hcL;obtain⟨qs,g1,g2,g3,g4,g5⟩:=aO hc h2 h;refine⟨Qz (hd c)::qs,by simp [g1],by rw [g2];simp,fun j q hj=>?_,fun d=>?_,g5⟩
   ·cases j with
    |zero=>
     obtain rfl:_=q:=by simpa using hj
     rw [Nat.add_zero,<-hce];exact hcL
    |succ j=>
     have:=g3 j q (by simpa using hj);rw [show i+(j+1)=i+1+j by omega];exact ((h1 _).1 this).1
   ·rw [g4,h1];constructor
    ·rintro ⟨⟨a1,a2⟩,a3⟩;refine⟨a1,fun j q hj=>?_⟩;cases j with
     |zero=>
      obtain rfl:_=q:=by simpa using hj
      rw [Nat.add_zero,<-hce];exact a2
     |succ j=>
      rw [show i+(j+1)=i+1+j by omega];exact a3 j q (by simpa using hj)
    ·rintro ⟨a1,a2⟩;refine⟨⟨a1,fun e=>?_⟩,fun j q hj=>?_⟩
     ·have:=a2 0 (Qz (hd c)) rfl;rw [Nat.add_zero,<-hce] at this;exact this e
     ·have:=a2 (j+1) q (by simpa using hj);rw [show i+(j+1)=i+1+j by omega] at this;exact this
def wd(p:Pic)(cs:List (List qc)):Bool:=match wU (qp p) cs with
 |none=>false
 |some L=>match vj p.fs.length 0 cs L [] with
  |none=>false
  |some (L',ps)=>L'.isEmpty&&yQ p ps
theorem ClS.hds{g:Int}{D:List qc}{cs:List (List qc)}(hD:qJ D)(h:ClS g D cs):Heads cs where
 inj c hc d hd' he:=by
  have hne:∀x∈cs,x≠[]:=fun x hx e=>by
   obtain⟨p,t,h1,_⟩:=ClS.first hD h x hx;rw [e] at h1;cases h1
  exact h.disj hD hc hd' (l6 (hne c hc)) (by rw [he];exact l6 (hne d hd'))
 ne x hx e:=by
  obtain⟨p,t,h1,_⟩:=ClS.first hD h x hx;rw [e] at h1;cases h1
theorem C6{p:Pic}{l:List qc}{n:Nat}{x:qc}:x∈(qC p l n).flatten↔∃a∈qC p l n,x∈a:=by
 rw [List.mem_flatten]
theorem Yb{p:Pic}{a:List qc}(h:a∈qp p):∃i,i<p.fs.length/\a=wu p i:=by
 obtain⟨i,hi⟩:=List.getElem?_of_mem h;have hl:=(zgs hi).1;rw [show (qp p).length=p.fs.length by simp [qp]] at hl;exact⟨i,hl,by rw [wu,hi];rfl⟩
theorem KC{p:Pic}{i:Nat}(h:i<p.fs.length):wu p i∈qp p:=zmg (Zz (p:=p) (i:=i) (by simpa [qp] using h))
theorem F4{p:Pic}(hv:qx p=true){D:List qc}(hD:qJ D){cs:List (List qc)}(hcs:ClS p.gap D cs)(h:wd p cs=true):∃l,yQ p l=true/\D=qr (qC p l p.fs.length).flatten:=by
 have hc:=hcs.hds hD;have hL0:Left cs cs:=⟨fun _ h=>h,hcs.nodup hD⟩;unfold wd at h;cases hF:wU (qp p) cs with
 |none=>rw [hF] at h;cases h
 |some L=>
  rw [hF] at h;simp only at h;obtain⟨f1,f2,f3⟩:=Ji hc (wY hv) hL0 hF;cases hG:vj p.fs.length 0 cs L [] with
  |none=>rw [hG] at h;cases h
  |some r=>
   obtain⟨L',ps⟩:=r;rw [hG] at h;simp only [xD,List.isEmpty_iff] at h;obtain⟨qs,g1,g2,g3,g4,_⟩:=aO hc f3 hG;rw [List.nil_append] at g2;subst g2;refine⟨ps,h.2,hD.ext (xg _) fun x=>?_⟩;rw [qO,C6];constructor
   ·intro hx;obtain⟨c,hcc,hxc⟩:=hcs.cover x hx;by_cases h1:c∈qp p
    ·obtain⟨i,hi,rfl⟩:=Yb h1;exact⟨_,zO.2 ⟨i,hi,.inl rfl⟩,hxc⟩
    ·have hcL:c∈L:=(f2 c).2 ⟨hcc,h1⟩;have:¬c∈L':=by rw [h.1];simp
     rw [g4] at this;have:∃(j:Nat) (q:qc),ps[j]?=some q/\c=qS (0+j) q:=Classical.byContradiction fun hn=>this ⟨hcL,fun j q hj e=>hn ⟨j,q,hj,e⟩⟩;obtain⟨j,q,hj,rfl⟩:=this;have hjl:=(zgs hj).1;refine⟨_,zO.2 ⟨j,oM,.inr rfl⟩,?_⟩;rw [xT hj];rw [Nat.zero_add] at hxc;exact hxc
   ·rintro ⟨a,ha,hxa⟩;obtain⟨i,hi,rfl|rfl⟩:=zO.1 ha
    ·exact hcs.mem _ (f1 _ (KC hi)) x hxa
    ·obtain⟨q,hq⟩:∃q,ps[i]?=some q:=⟨_,zge oM⟩;rw [xT hq] at hxa;have:=g3 i q hq;rw [Nat.zero_add] at this;exact hcs.mem _ (f3.sub _ this |> fun _=>hL0.sub _ ((f2 _).1 this).1) x hxa
theorem d9{cs:List (List qc)}(hc:Heads cs){l:List qc}(hl8:l.length<=8)(hpos:∀q∈l,0<=q.1/\0<=q.2)(hin:∀(j:Nat) q,l[j]?=some q->qS j q∈cs):∀{n i:Nat} {L:List (List qc)},i+n=l.length->Left cs L->
 (∀d∈L,∃(j:Nat) (q:qc),i<=j/\l[j]?=some q/\d=qS j q)->(∀(j:Nat) q,i<=j->l[j]?=some q->qS j q∈L)->vj n i cs L (l.take i)=some ([],l)
 |0,i,L,hi,hL,h1,_=>by
  have hn:L=[]:=by
   cases L with
   |nil=>rfl
   |cons d t=>
    obtain⟨j,q,hj,hq,_⟩:=h1 d (by simp);have:=(zgs hq).1;omega
  subst hn;rw [vj,List.take_of_length_le (by omega)]
 |n+1,i,L,hi,hL,h1,h2=>by
  obtain⟨q,hq⟩:∃q,l[i]?=some q:=⟨_,zge oM⟩;have hqp:=hpos q (zmg hq);have hmem:=h2 i q (Nat.le_refl _) hq;have hfind:Ym i cs L=some (qS i q):=by
   unfold Ym;cases hf:cs.find? (ww i L) with
   |none=>
    have:=List.find?_eq_none.1 hf (qS i q) (hin i q hq);exact absurd ((Yk hc hL (hin i q hq)).2 ⟨hmem,by rw [Y6 hqp]⟩) this
   |some c=>
    have hcc:=List.mem_of_find?_eq_some hf;obtain⟨g1,g2⟩:=(Yk hc hL hcc).1 (List.find?_some hf);obtain⟨j,q',hj,hq',rfl⟩:=h1 c g1;rw [Y6 (hpos q' (zmg hq'))] at g2;have hjl:=(zgs hq').1;have hij:j=i:=lS oM oM g2;subst hij;rw [hq] at hq';obtain rfl:=zsi hq';rfl
  rw [vj,hfind];simp only;obtain⟨k1,k2⟩:=Zq hc hL hmem;rw [Y6 hqp,show l.take i++[q]=l.take (i+1) by rw [List.take_add_one,hq];rfl];refine d9 hc hl8 hpos hin oM k2 (fun d hd=>?_) (fun j q' hj hq'=>?_)
  ·obtain⟨hdL,hne⟩:=(k1 d).1 hd;obtain⟨j,q',hj,hq',rfl⟩:=h1 d hdL;refine⟨j,q',?_,hq',rfl⟩;by_cases e:j=i
   ·subst e;rw [hq] at hq';obtain rfl:=zsi hq';exact absurd rfl hne
   ·omega
  ·refine (k1 _).2 ⟨h2 j q' oM hq',fun e=>?_⟩;have hjl:=(zgs hq').1;have h3:Qz (hd (qS j q'))=Qz (hd (qS i q)):=by rw [e]
   rw [Y6 hqp,Y6 (hpos q' (zmg hq'))] at h3;subst h3;have:=lS oM oM e;omega
theorem Vg{g:Int}(hg:0<=g):∀{P:List (List qc)},(∀a∈P,a≠[])->P.Pairwise (fun a b=>¬x8 a b<=g)->P.Nodup:=fun {P} hne h=>by
 refine List.Pairwise.imp_of_mem (fun {a b} ha hb hab e=>hab ?_) h;subst e;obtain⟨x,hx⟩:=List.exists_mem_of_ne_nil a (hne a ha);refine (Xo (hne a ha) (hne a ha)).2 ⟨x,hx,x,hx,?_⟩;have:xy x x=0:=by simp only [xy];omega
 omega
theorem HA{p:Pic}{i:Nat}{q:qc}(h:ya p i q=true):0<=q.1/\0<=q.2:=by
 rw [ya,xD] at h;have h:=h.1;simp only [kH,xD,xV] at h;exact h.1.1
theorem F5{p:Pic}(hv:qx p=true){D:List qc}{cs:List (List qc)}(hcs:ClS p.gap D cs)(hg1:jK p.gap (qp p))(hg2:jJ p.gap (qp p)){l:List qc}(hl:yQ p l=true)(hD:D=qr (qC p l p.fs.length).flatten):wd p cs=true:=by
 have hDr:qJ D:=by rw [hD];exact xg _
 have hl8:=(qT hv).1;have hgap:2<=p.gap/\p.gap<=6:=by
  have:=(qT hv).2.2.2;simp only [jF,xD,xV] at this;exact this.1
 have hll:l.length=p.fs.length/\YW p l=true:=by
  rw [yQ,xD,xV] at hl;exact hl
 have hleg:=(X8 hv).1 hll.2;have hfit:∀(i:Nat) q,l[i]?=some q->ya p i q=true:=fun i q hq=>by
  have h1:=hleg.ch i q hq;have h2:=(zgs hq).1;rw [wO (by omega)] at h1;exact (XT hv).1 h1
 have hpos:∀q∈l,0<=q.1/\0<=q.2:=fun q hq=>by
  obtain⟨i,hi⟩:=List.getElem?_of_mem hq;exact HA (hfit i q hi)
 obtain⟨hcl,hall⟩:=bB hv hleg hll.1 hg1 hg2 (c:=cs) (by rw [<-hD];exact hcs);have hc:=hcs.hds hDr;have hnd:=hcs.nodup hDr;have hL0:Left cs cs:=⟨fun _ h=>h,hnd⟩;have hpl:(qp p).length=p.fs.length:=by simp [qp]
 have hpw:=Yv hfit hleg.ap hg2 p.fs.length oM oM;have hPne:∀a∈qC p l p.fs.length,a≠[]:=fun a ha=>by
  obtain⟨i,hi,rfl|rfl⟩:=zO.1 ha
  ·exact wY hv _ (KC hi)
  ·exact Xj _ _
 have hPn:=Vg oM hPne hpw;have hid:∀a∈qC p l p.fs.length,a∈cs:=fun a ha=>by
  have h:=hall a ha;obtain⟨i,hi,rfl|rfl⟩:=zO.1 ha
  ·rwa [wT (VN hv i)] at h
  ·rwa [wT (eW _ _)] at h
 have hback:∀c∈cs,c∈qC p l p.fs.length:=fun c hcc=>by
  apply Classical.byContradiction;intro hn;have:=Zt (a:=c::qC p l p.fs.length) (b:=cs) (List.nodup_cons.2 ⟨hn,hPn⟩) fun x hx=>by
   rcases List.mem_cons.1 hx with rfl|hx
   ·exact hcc
   ·exact hid x hx
  rw [List.length_cons,vp] at this;omega
 have hsub:∀a∈qp p,a∈qC p l p.fs.length:=fun a ha=>by
  obtain⟨i,hi,rfl⟩:=Yb ha;exact zO.2 ⟨i,hi,.inl rfl⟩
 have hlb:∀(j:Nat) q,l[j]?=some q->qS j q∈qC p l p.fs.length:=fun j q hq=>by
  have hj:=(zgs hq).1;exact zO.2 ⟨j,by omega,.inr (by rw [xT hq])⟩
 have hdis:∀(j:Nat) q,l[j]?=some q->qS j q∉qp p:=fun j q hq hm=>by
  obtain⟨i,hi,he⟩:=Yb hm;have h:=KJ (hfit j q hq) (k:=i) oM;rw [<-he] at h;refine h ((Xo (Xj _ _) (Xj _ _)).2 ⟨qM q 1,X9 j q,qM q 1,X9 j q,?_⟩);have:xy (qM q 1) (qM q 1)=0:=by simp only [xy];omega
  omega
 have hon:(qp p).Nodup:=by
  refine Vg (g:=p.gap) oM (wY hv) ?_;refine List.pairwise_iff_getElem.2 fun i k hi hk hik=>?_;exact hg2 i k _ _ hik (zge hi) (zge hk)
 obtain⟨L,hF⟩:=eA hc (wY hv) hon hL0 fun a ha=>hid a (hsub a ha);obtain⟨_,f2,f3⟩:=Ji hc (wY hv) hL0 hF;have hG:=d9 hc (l:=l) oM hpos (fun j q hq=>hid _ (hlb j q hq)) (n:=p.fs.length) (i:=0) (L:=L) oM f3 (fun d hdL=>by
  obtain⟨h1,h2⟩:=(f2 d).1 hdL;obtain⟨i,hi,rfl|rfl⟩:=zO.1 (hback d h1)
  ·exact absurd (KC hi) h2
  ·obtain⟨q,hq⟩:∃q,l[i]?=some q:=⟨_,zge oM⟩;exact⟨i,q,Nat.zero_le _,hq,by rw [xT hq]⟩) (fun j q _ hq=>(f2 _).2 ⟨hid _ (hlb j q hq),hdis j q hq⟩)
 unfold wd;rw [hF];simp only;rw [List.take_zero] at hG;rw [hG];simp [hl]
theorem BV{p:Pic}(hv:qx p=true){D:List qc}(hD:qJ D){cs:List (List qc)}(hcs:ClS p.gap D cs)(hg1:jK p.gap (qp p))(hg2:jJ p.gap (qp p)):wd p cs=true↔∃l,yQ p l=true/\D=qr (qC p l p.fs.length).flatten:=
 ⟨F4 hv hD hcs,fun⟨_,h1,h2⟩=>F5 hv hcs hg1 hg2 h1 h2⟩
theorem U4{p:Pic}(hv:qx p=true){i:Nat}(hi:i<p.fs.length):∀q∈wu p i,(0<=q.1/\q.1<p.w)/\0<=q.2/\q.2<p.h:=fun q hq=>by
 obtain⟨f,hf,he⟩:=List.mem_map.1 (KC hi);rw [<-he] at hq;have hok:=(qT hv).2.1 f hf;rw [QR,xD] at hok;have h60:=(jl hok.1).2.1;have hb:=Xw (f:=f) (lo:=(0,0)) (hi:=(p.w-1,p.h-1)) (fun r hr=>by
  have h1:=List.all_eq_true.1 hok.2 r hr;have h2:=h60 r hr;simp only [XX,xD,xV] at h1;simp only [zP,xD,xV] at h2;unfold xJ;simp only;omega) q hq
 unfold xJ at hb;simp only at hb;omega
theorem GP{p:Pic}(hv:qx p=true){l:List qc}(hl:yQ p l=true):∀a∈qC p l p.fs.length,∀q∈a,(0<=q.1/\q.1<p.w)/\0<=q.2/\q.2<p.h:=fun a ha q hq=>by
 rw [yQ,xD,xV] at hl;have hleg:=(X8 hv).1 hl.2;obtain⟨i,hi,rfl|rfl⟩:=zO.1 ha
 ·exact U4 hv hi q hq
 ·obtain⟨r,hr⟩:∃r,l[i]?=some r:=⟨_,zge oM⟩;have h1:=hleg.ch i r hr;rw [wO hi] at h1;have hf:=(XT hv).1 h1;rw [ya,xD] at hf;have h:=hf.1;simp only [kH,xD,xV] at h;rw [xT hr] at hq;exact rC h.1.1 h.2.1 h.2.2 q hq
theorem VL{p:Pic}(hv:qx p=true){d:qK}(hd:Sz p.w.toNat p.h.toNat d){l:List qc}(hl:yQ p l=true):xM d p.w.toNat p.h.toNat=qr (qC p l p.fs.length).flatten↔Xg p (qC p l p.fs.length)=d:=by
 rw [<-oJ (GP hv hl)];exact⟨fun h=>(oS hd (Zk _ _) h).symm,fun h=>by rw [h]⟩
end Go.Ag

namespace Go.Ab
section
variable{p:Par}{n:Nat}{E:qq}{S:Bx}{nk:Nat}{Q:Exit->qq->Bx->Nat->Prop}
end
def w8(y z:Int):List (Int × Int × Nat)->Option Nat
 |[]=>none
 |k::ks=>if y=k.1/\z=k.2.1 then some 0 else (w8 y z ks).map (·+1)
theorem ZW.find{y z:Int}:∀{ks:List (Int × Int × Nat)} {cs:List C} {es:List (V × V × Nat)} (_:ZW ks cs es) (j:Nat),vn [.int .i64 y,.int .i64 z] es j=some ((w8 y z ks).map (·+j))
 |[],[],[],_,_=>rfl
 |k::ks,c::cs,e::es,h,j=>by
  obtain⟨rfl,h⟩:=h;simp only [vn,c8,and_self,if_true,w8];by_cases hk:y=k.1/\z=k.2.1
  ·rw [if_pos hk,show (y==k.1&&z==k.2.1)=true by simp [hk]];simp
  ·rw [if_neg hk,show (y==k.1&&z==k.2.1)=false by simp;simpa using hk];simp only;rw [h.find (j+1)];cases w8 y z ks with
   |none=>rfl
   |some i=>simp;omega
 |[],[],_::_,h,_=>h.elim
 |[],_::_,_,h,_=>h.elim
 |_::_,[],_,h,_=>h.elim
 |_::_,_::_,[],h,_=>h.elim
theorem ZW.at:∀{ks:List (Int × Int × Nat)} {cs:List C} {es:List (V × V × Nat)} (_:ZW ks cs es) (i:Nat) (k:Int × Int × Nat),ks[i]?=some k->∃c,cs[i]?=some c/\es[i]?=some (.agg [.int .i64 k.1,.int .i64 k.2.1],.one c,k.2.2)
 |_::_,c::_,e::_,h,0,k,hk=>by
  obtain rfl:_=k:=by simpa using hk
  exact⟨c,rfl,by rw [h.1];rfl⟩
 |_::ks,_::cs,_::es,h,i+1,k,hk=>by
  obtain⟨c,h1,h2⟩:=h.2.at i k (by simpa using hk);exact⟨c,by simpa using h1,by simpa using h2⟩
 |[],_,_,_,i,_,hk=>by simp at hk
 |_::_,[],_,h,_,_,_=>h.elim
 |_::_,_::_,[],h,_,_,_=>h.elim
theorem ZW.push:∀{ks:List (Int × Int × Nat)} {cs:List C} {es:List (V × V × Nat)} (_:ZW ks cs es) (k:Int × Int × Nat) (c:C),ZW (ks++[k]) (cs++[c]) (es++[(.agg [.int .i64 k.1,.int .i64 k.2.1],.one c,k.2.2)])
 |[],[],[],_,_,_=>⟨rfl,trivial⟩
 |_::_,_::_,_::_,h,k,c=>⟨h.1,h.2.push k c⟩
 |[],[],_::_,h,_,_=>h.elim
 |[],_::_,_,h,_,_=>h.elim
 |_::_,[],_,h,_,_=>h.elim
 |_::_,_::_,[],h,_,_=>h.elim
theorem ZW.erase:∀{ks:List (Int × Int × Nat)} {cs:List C} {es:List (V × V × Nat)} (_:ZW ks cs es) (i:Nat),ZW (ks.eraseIdx i) (cs.eraseIdx i) (es.eraseIdx i)
 |[],[],[],_,_=>trivial
 |_::_,_::_,_::_,h,0=>h.2
 |_::_,_::_,_::_,h,i+1=>⟨h.1,h.2.erase i⟩
 |[],[],_::_,h,_=>h.elim
 |[],_::_,_,h,_=>h.elim
 |_::_,[],_,h,_=>h.elim
 |_::_,_::_,[],h,_=>h.elim
theorem ZW.len:∀{ks:List (Int × Int × Nat)} {cs:List C} {es:List (V × V × Nat)} (_:ZW ks cs es),es.length=ks.length
 |[],[],[],_=>rfl
 |_::_,_::_,_::_,h=>by simp [h.2.len]
 |[],[],_::_,h=>h.elim
 |[],_::_,_,h=>h.elim
 |_::_,[],_,h=>h.elim
 |_::_,_::_,[],h=>h.elim
section
variable{p:Par}{base rs:Nat}{Q:qq->Bx->Nat->Prop}{r:List SOper}{W:Wt}{A:List Nat}{E:qq}{S:Bx}{nk:Nat}{id:Nat}{dst:Option Nat}{aid:Option Nat}{ws:List Nat}{keep:Bool}
theorem R8(h:DPW p base rs Q r W A (xk E dst (.one (.om nk))) ((nk,.mp (.sm [] 0) [])::S) (nk+1)):DPW p base rs Q (⟨id,dst,.a .mkst,none,none,ws,keep⟩::r) W A E S nk:=.mk fun Z β H F c hS hE hC hA=>by
 simp only [qF,qt,if_true,xA];have hfr:H.get H.nx=none:=hS.wf.fresh (Nat.le_refl _);have hg:∀b',b'≠H.nx->(H.push (.st [] 0)).get b'=H.get b':=fun b' hb'=>by rw [Hp.get_push,if_neg hb']
 have hz:¬Z H.nx:=fun hz=>absurd (hS.z _ hz) oM;obtain⟨hS',hZ,hB⟩:=hS.newB (x:=.mp (.sm [] 0) []) (b:=H.nx) (N0:=0) (H':=H.push (.st [] 0)) rfl (fun β' hB hZ=>⟨hz,hS.lo,by simp,[],[],⟨[],by rw [Hp.get_push,if_pos rfl],trivial⟩,rfl,trivial⟩) hz (fun k N hk=>absurd (hS.bd k _ N hk) (by omega)) hS.lo (by simp) (by simp) (hS.wf.push _) hg;exact h.run Z _ _ _ c hS' ((hE.mono hZ hB).set dst ⟨_,rfl,_,_,xu _ _ _,rfl⟩) (hC.new hZ hB hg hfr) (hA.new (by simp) hg fun j hj hjA e=>by have:=(hA.2 j hj hjA).1;omega)
theorem SR.smb{Z:Nat->Prop}{β:qw}{H:Hp}(hS:SR p Z β H S nk){kb:Nat}{ks:List (Int × Int × Nat)}{clk:Nat}{vs:List DC}(hb:lk S kb=some (.mp (.sm ks clk) vs)){b N:Nat}(h1:β (kb,0)=some (.blk b N)):∃es cs,H.get b=some (.st es clk)/\ZW ks cs es/\qg (RD Z H β) vs cs/\b<H.nx:=by
 obtain⟨s,hs,hbx⟩:=hS.box (kb,0) _ (xX hb rfl);rw [h1] at hs;obtain rfl:=zsi hs;obtain⟨g1,g2,g3,cs,rest,⟨es,g4,g5⟩,g6,g7⟩:=hbx;have g6:rest=[]:=g6;subst g6;rw [List.append_nil] at g5;exact⟨es,cs,g4,g5,g7,g3⟩
theorem a8{Z:Nat->Prop}{β:qw}{H:Hp}{ck:List C}{y z:Int}(h:qg (RD Z H β) [.f (.c (.int .i64 y)),.f (.c (.int .i64 z))] ck):ck=[.int .i64 y,.int .i64 z]:=by
 match ck,h with
 |[p,q],h=>
  obtain⟨h3,h4,_⟩:=h;cases h3;cases h4;rfl
theorem H9 {m k x:Opd} {kb clk:Nat} {y z:Int} {ks:List (Int × Int × Nat)} {vs:List DC} {d:DC} (hm:ro E m=some (.one (.om kb))) (hk:ro E k=some (.agg [.f (.c (.int .i64 y)),.f (.c (.int .i64 z))])) (hx:ro E x=some (.one d)) (hb:lk S kb=some (.mp (.sm ks clk) vs)) (hu:w8 y z ks=none) (hW:jD S kb W=true)
 (h:DPW p base rs Q r W A (xk E dst .undef) (put kb (.mp (.sm (ks++[(y,z,clk)]) (clk+1)) (vs++[d])) S) nk):DPW p base rs Q (⟨id,dst,.e (.stupd m k x),none,aid,ws,keep⟩::r) W A E S nk:=.mk fun Z β H F c hS hE hC hA=>by
 obtain⟨cm,hcm,b,N,h1,rfl⟩:=xf hE hm;obtain⟨ck,hck,hrk⟩:=xf hE hk;obtain⟨cx,hcx,hrx⟩:=xf hE hx;obtain rfl:=a8 hrk;obtain⟨es,cs,g4,g5,g7,g3⟩:=hS.smb hb h1;have hf:=g5.find (y:=y) (z:=z) 0;rw [hu] at hf;have heff:xr F H (.stupd m k x)=some (V.undef,H.add b (.st (es++[(.agg [.int .i64 y,.int .i64 z],.one cx,clk)]) (clk+1))):=by
  simp only [xr,hcm,hck,hcx,g4,QP,hf,Option.map_none]
 have hg:∀b',b'≠b->(H.add b (.st (es++[(.agg [.int .i64 y,.int .i64 z],.one cx,clk)]) (clk+1))).get b'=H.get b':=fun b' hb'=>Hp.get_add_ne _ _ hb';obtain⟨hS',hZ⟩:=hS.updK (x':=.mp (.sm (ks++[(y,z,clk)]) (clk+1)) (vs++[d])) (rest:=[]) (cs:=cs++[cx]) (H':=H.add b (.st (es++[(.agg [.int .i64 y,.int .i64 z],.one cx,clk)]) (clk+1))) hb rfl h1 (g7.append ⟨hrx,trivial⟩) hg rfl ⟨es++[(.agg [.int .i64 y,.int .i64 z],.one cx,clk)],by simp,by rw [List.append_nil];exact g5.push (y,z,clk) cx⟩ rfl;simp only [qF,qt,if_true,heff];have hC':=hC.mtupd hS hb hZ hg h1 hW;exact⟨hC'.watch ws,h.run Z β _ _ c hS' ((hE.mono hZ (xO.refl _)).set dst yY) hC' (hA.upd rfl hg h1)⟩
theorem IB {m k:Opd} {kb clk i:Nat} {y z:Int} {ks:List (Int × Int × Nat)} {vs:List DC} (hm:ro E m=some (.one (.om kb))) (hk:ro E k=some (.agg [.f (.c (.int .i64 y)),.f (.c (.int .i64 z))])) (hb:lk S kb=some (.mp (.sm ks clk) vs)) (hu:w8 y z ks=some i) (hW:jD S kb W=true)
 (h:DPW p base rs Q r W A (xk E dst .undef) (put kb (.mp (.sm (ks.eraseIdx i) clk) (vs.eraseIdx i)) S) nk):DPW p base rs Q (⟨id,dst,.e (.stdel m k),none,aid,ws,keep⟩::r) W A E S nk:=.mk fun Z β H F c hS hE hC hA=>by
 obtain⟨cm,hcm,b,N,h1,rfl⟩:=xf hE hm;obtain⟨ck,hck,hrk⟩:=xf hE hk;obtain rfl:=a8 hrk;obtain⟨es,cs,g4,g5,g7,g3⟩:=hS.smb hb h1;have hf:=g5.find (y:=y) (z:=z) 0;rw [hu] at hf;have heff:xr F H (.stdel m k)=some (V.undef,H.add b (.st (es.eraseIdx i) clk)):=by
  simp only [xr,hcm,hck,g4,QP,hf,Option.map_some,Nat.add_zero]
 have hg:∀b',b'≠b->(H.add b (.st (es.eraseIdx i) clk)).get b'=H.get b':=fun b' hb'=>Hp.get_add_ne _ _ hb';obtain⟨hS',hZ⟩:=hS.updK (x':=.mp (.sm (ks.eraseIdx i) clk) (vs.eraseIdx i)) (rest:=[]) (cs:=cs.eraseIdx i) (H':=H.add b (.st (es.eraseIdx i) clk)) hb rfl h1 (g7.erase i) hg rfl ⟨es.eraseIdx i,by simp,by rw [List.append_nil];exact g5.erase i⟩ rfl;simp only [qF,qt,if_true,heff];have hC':=hC.mtupd hS hb hZ hg h1 hW;exact⟨hC'.watch ws,h.run Z β _ _ c hS' ((hE.mono hZ (xO.refl _)).set dst yY) hC' (hA.upd rfl hg h1)⟩
def okD(ok:Bool)(d:DC)(there:Bool):DV:=if ok then .tup [.one d,.bool there] else .one d
theorem IA {m:Opd} {kb clk:Nat} {ks:List (Int × Int × Nat)} {vs:List DC} (hm:ro E m=some (.one (.om kb))) (hb:lk S kb=some (.mp (.sm ks clk) vs))
 (h:DPW p base rs Q r W A (xk E dst (.int ks.length)) S nk):DPW p base rs Q (⟨id,dst,.e (.stlen m),none,aid,ws,keep⟩::r) W A E S nk:=.mk fun Z β H F c hS hE hC hA=>by
 obtain⟨cm,hcm,b,N,h1,rfl⟩:=xf hE hm;obtain⟨es,cs,g4,g5,g7,g3⟩:=hS.smb hb h1;have heff:xr F H (.stlen m)=some (.one (.int .i64 ks.length),H):=by
  simp only [xr,hcm,g4,g5.len]
 simp only [qF,qt,if_true,heff];exact⟨hC.watch ws,h.run Z β H _ c hS (hE.set dst ⟨_,rfl,.c _ rfl⟩) hC hA⟩
theorem EA {zv:C} {ok:Bool} {m k:Opd} {kb clk i:Nat} {y z:Int} {ks:List (Int × Int × Nat)} {vs:List DC} {d:DC} (hm:ro E m=some (.one (.om kb))) (hk:ro E k=some (.agg [.f (.c (.int .i64 y)),.f (.c (.int .i64 z))])) (hb:lk S kb=some (.mp (.sm ks clk) vs)) (hu:w8 y z ks=some i) (hi:i<ks.length) (hd:vs[i]?=some d)
 (h:DPW p base rs Q r W A (xk E dst (okD ok d true)) S nk):DPW p base rs Q (⟨id,dst,.e (.stlook (.one zv) ok m k),none,aid,ws,keep⟩::r) W A E S nk:=.mk fun Z β H F c hS hE hC hA=>by
 obtain⟨cm,hcm,b,N,h1,rfl⟩:=xf hE hm;obtain⟨ck,hck,hrk⟩:=xf hE hk;obtain rfl:=a8 hrk;obtain⟨es,cs,g4,g5,g7,g3⟩:=hS.smb hb h1;have hf:=g5.find (y:=y) (z:=z) 0;rw [hu] at hf;obtain⟨cv,e1,e2⟩:=g5.at i _ (zge hi);obtain⟨cv',e3,hr⟩:=g7.at i d hd;rw [e1] at e3;obtain rfl:=zsi e3;have heff:xr F H (.stlook (.one zv) ok m k)=some (kE ok (.one cv) true,H):=by
  simp only [xr,hcm,hck,g4,QP,hf,Option.map_some,Nat.add_zero,e2]
 simp only [qF,qt,if_true,heff];refine⟨hC.watch ws,h.run Z β H _ c hS (hE.set dst ?_) hC hA⟩;cases ok
 ·exact⟨cv,rfl,hr⟩
 ·exact⟨_,rfl,⟨cv,rfl,hr⟩,⟨_,rfl,.c _ rfl⟩,trivial⟩
theorem uU {zv:C} {ok:Bool} {m k:Opd} {kb clk:Nat} {y z:Int} {ks:List (Int × Int × Nat)} {vs:List DC} {d:FD} (hm:ro E m=some (.one (.om kb))) (hk:ro E k=some (.agg [.f (.c (.int .i64 y)),.f (.c (.int .i64 z))])) (hb:lk S kb=some (.mp (.sm ks clk) vs)) (hu:w8 y z ks=none) (hz:∀Z H,RF Z H d zv)
 (h:DPW p base rs Q r W A (xk E dst (okD ok (.f d) false)) S nk):DPW p base rs Q (⟨id,dst,.e (.stlook (.one zv) ok m k),none,aid,ws,keep⟩::r) W A E S nk:=.mk fun Z β H F c hS hE hC hA=>by
 obtain⟨cm,hcm,b,N,h1,rfl⟩:=xf hE hm;obtain⟨ck,hck,hrk⟩:=xf hE hk;obtain rfl:=a8 hrk;obtain⟨es,cs,g4,g5,g7,g3⟩:=hS.smb hb h1;have hf:=g5.find (y:=y) (z:=z) 0;rw [hu] at hf;have heff:xr F H (.stlook (.one zv) ok m k)=some (kE ok (.one zv) false,H):=by
  simp only [xr,hcm,hck,g4,QP,hf,Option.map_none]
 simp only [qF,qt,if_true,heff];refine⟨hC.watch ws,h.run Z β H _ c hS (hE.set dst ?_) hC hA⟩;cases ok
 ·exact⟨zv,rfl,hz Z H⟩
 ·exact⟨_,rfl,⟨zv,rfl,hz Z H⟩,⟨_,rfl,.c _ rfl⟩,trivial⟩
end
section
variable{p:Par}{base rs n:Nat}{Q:qq->Bx->Nat->Prop}{r:List SOper}{W:Wt}{A:List Nat}{E:qq}{S:Bx}{nk:Nat}{id:Nat}{dst:Option Nat}{aid:Option Nat}{ws:List Nat}{keep:Bool}
theorem qa3{Z:Nat->Prop}{β:qw}{H:Hp}(hS:SR p Z β H S nk){k:Nat}(hk:lk S k=some (.data [])):SR p Z β H (put k (.cells []) S) nk:=by
 have hl:∀j,lk (put k (.cells []) S) j=if j=k then some (.cells []) else lk S j:=fun j=>by
  rw [yx];split
  ·rename_i e;subst e;rw [hk];rfl
  ·rfl
 refine { hS with box:=fun κ x hx=>?_,inj:=fun κ κ' x x' b N N' h1 h2=>?_ }
 ·obtain⟨j,i⟩:=κ;by_cases hj:j=k
  ·subst hj;cases i with
   |zero=>
    simp only [qP,hl,if_true] at hx;obtain rfl:=zsi hx;obtain⟨s,hs,hb⟩:=hS.box (j,0) (.data []) (xX hk rfl);refine⟨s,hs,?_⟩;cases s with
    |nil=>rfl
    |blk b N=>
     obtain⟨g1,g2,g3,cs,rest,g4,g5,g6⟩:=hb;refine⟨g1,g2,g3,cs,rest,g4,g5,?_⟩;have g6:qg (RF Z H) [] cs:=g6;cases cs with
     |nil=>exact (trivial:qg (RD Z H β) [] [])
     |cons _ _=>exact g6.elim
   |succ i=>
    simp only [qP,hl,if_true] at hx;cases hx
  ·have:qP (put k (.cells []) S) (j,i)=qP S (j,i):=by
    cases i<;>simp only [qP,hl,if_neg hj]
   rw [this] at hx;exact hS.box _ _ hx
 ·have g:∀i z,lk (put k (.cells []) S) i=some z->∃z',lk S i=some z':=fun i z h=>by
   rw [hl] at h;split at h
   ·rename_i e;subst e;exact⟨_,hk⟩
   ·exact⟨_,h⟩
  obtain⟨z1,e1⟩:=g _ _ h1;obtain⟨z2,e2⟩:=g _ _ h2;exact hS.inj κ κ' z1 z2 b N N' e1 e2
theorem qaK{s:SC}{Q:Exit->qq->Bx->Nat->Prop}(k:Nat)(hk:lk S k=some (.data []))(h:DPS p n s Q E (put k (.cells []) S) nk):DPS p n s Q E S nk:=.mk fun Z β H F hS hE=>h.run Z β H F (qa3 hS hk) hE
theorem KW {bytes:Nat} {s v:Opd} {k k' n m:Nat} {l q:List DC} (hs:ro E s=some (.one (.own k 0 n 1))) (hv:ro E v=some (.one (.own k' 0 m 1))) (hk:lk S k=some (.cells l)) (hk':lk S k'=some (.cells q)) (hn:l.length=n) (hm:q.length=m) (hm0:0<m) (hbb:(n+m)*bytes<=140737488355328) (h62:n+m<4611686018427387904) (hw:YJ S k W=true)
 (h:DPW p base rs Q r W A (xk E dst (.one (.own nk 0 (n+m) 1))) ((nk,.cells (l++q))::zB k S) (nk+1)):DPW p base rs Q (⟨id,dst,.e (.append 1 bytes s v),none,aid,ws,keep⟩::r) W A E S nk:=.mk fun Z β H F c hS hE hC hA=>by
 obtain⟨cs,hcs,hr⟩:=xf hE hs;obtain⟨cv,hcv,hrv⟩:=xf hE hv;obtain⟨news,hn1,hn2,hn3⟩:∃news,zF H 1 (.one cv)=some (m,news)/\qg (RD Z H β) q news/\news.length=m:=by
  obtain⟨sk',hsk',hbx'⟩:=hS.box (k',0) _ (xX hk' rfl);rcases hrv with⟨hnil,rfl,_,rfl⟩|⟨b,N,cap,ex,hb,rfl,hcap,hcN⟩
  ·omega
  ·rw [hb] at hsk';obtain rfl:=zsi hsk';obtain⟨_,_,_,cells,rest,hrow,_,hrel⟩:=hbx';have hrel:qg (RD Z H β) q cells:=hrel;have hrow:x6 H b (cells++rest):=hrow;have hlen:=hrel.len;have hld:=yo hrow.2 (m:=m*1) (by rw [List.length_append];omega);refine⟨cells,?_,hrel,oM⟩;simp only [zF,if_true,hld,Option.map_some];rw [List.take_append_of_le_length (by omega),List.take_of_length_le (by omega)]
 obtain⟨sk,hsk,hbx⟩:=hS.box (k,0) _ (xX hk rfl);simp only [qF,qt,if_true,xr,hcs,hcv,hn1];have hfin:∀(H':Hp) (b:Nat) (ys rest:List C) (cap:Nat) (ex:Bool),qg (RD Z H β) (l++q) ys->((∃N,β (k,0)=some (.blk b N))\/(b=H.nx))->b<H'.nx->H.nx<=H'.nx->WF H'->(∀b',b'≠b->(∀N,β (k,0)≠some (.blk b' N))->H'.get b'=H.get b')->x6 H' b (ys++rest)->n+m<=cap->cap*1<=(ys++rest).length->
  zx ws c H'/\qF p.P p.G base (fun F' H'=>∃E' S' nk' Z' β',SR p Z' β' H' S' nk'/\ER Z' β' H' E' F'/\Q E' S' nk') r c (xF F dst (.one (.slc b 0 (n+m) cap 1 ex))) H':=by
  intro H' b ys rest cap ex hys hb hbl hnx hwf hg hrow hcap hcl;have hb':(∃N,β (k,0)=some (.blk b N))\/H.nx<=b:=hb.imp (fun h=>h) fun e=>by omega
  obtain⟨hS',hZ,hB⟩:=hS.replace (x':=.cells (l++q)) hk rfl hys (hb.imp (fun h=>h) fun e=>by subst e;exact⟨fun hz=>absurd (hS.z _ hz) oM,fun k N hk=>absurd (hS.bd k _ N hk) oM,hS.lo⟩) hbl hnx hwf hg rfl hrow;have hC':=hC.repl hS hk hZ hB hg hb' hw;exact⟨hC'.watch ws,h.run Z _ H' _ c hS' ((hE.mono hZ hB).set dst ⟨_,rfl,.inr ⟨b,_,cap,ex,xu _ _ _,rfl,hcap,oM⟩⟩) hC' (hA.repl hnx hg hb')⟩
 rcases hr with⟨hnil,rfl,_,rfl⟩|⟨b,N,cap,ex,hb,rfl,hcap,hcN⟩
 ·have hl0:l=[]:=List.eq_nil_of_length_eq_zero hn;subst hl0;simp only [zq];rw [Nat.zero_add] at hbb h62;rw [if_neg (by omega),if_pos ⟨hbb,h62⟩];have:=hfin (H.push (.row news.length news .lf true)) H.nx news [] m false (by simpa using hn2) (.inr rfl) (by simp) (by simp) (hS.wf.push _) (fun b' hb' _=>by rw [Hp.get_push,if_neg hb']) (by rw [List.append_nil];exact x6.new news) (by omega) (by simp [hn3]);rw [Nat.zero_add] at this;exact this
 ·rw [hb] at hsk;obtain rfl:=zsi hsk;obtain⟨hz,hlo,hlt,cells,rest,hrow,hN,hrel⟩:=hbx;have hN:(cells++rest).length=_:=hN;have hrel:qg (RD Z H β) l cells:=hrel;have hlen:l.length=cells.length:=hrel.len;have hrow:x6 H b (cells++rest):=hrow;simp only [zq];rw [if_neg (by simp)];by_cases hfit:n+m<=cap
  ·rw [if_pos hfit,Nat.zero_add];have hsplit:cells++rest=cells++rest.take m++rest.drop m:=by rw [List.append_assoc,List.take_append_drop]
   have hrl:rest.length=N-n:=by rw [List.length_append] at hN;omega
   obtain⟨H',e1,e2,e3,e4⟩:=hrow.stores (cs:=news) (i:=n*1) (by rw [hN,hn3];omega);rw [e1];have hset:yH (cells++rest) (n*1) news=(cells++news)++rest.drop m:=by
    conv=>lhs;rw [hsplit,List.append_assoc]
    have:=vd cells (rest.take m) news (rest.drop m) (by rw [hn3,List.length_take];omega);rw [show cells.length=n*1 by omega] at this;rw [this,List.append_assoc]
   rw [hset] at e2;refine hfin H' b (cells++news) _ cap ex (hrel.append hn2) (.inl ⟨N,hb⟩) oM oM (fun b' bk hb'=>?_) (fun b' hb' _=>e3 b' hb') e2 hfit ?_
   ·rw [e4];by_cases e:b'=b
    ·omega
    ·rw [e3 b' e] at hb';exact hS.wf b' bk hb'
   ·have h1:=congrArg List.length hset;rw [wV] at h1;omega
  ·rw [if_neg hfit,if_pos ⟨hbb,h62⟩];have hld:H.loads b 0 (n*1)=some cells:=by
    have:=yo hrow.2 (m:=n*1) oM;rw [this,List.take_append_of_le_length (by omega),List.take_of_length_le (by omega)]
   rw [hld];have hlen2:(cells++news).length=(n+m)*1:=by
    rw [List.length_append,hn3];omega
   have hrow':=x6.new (H:=H) (cells++news);cases ex with
   |true=>
    simp only [if_true];exact hfin _ H.nx (cells++news) [] (n+m) false (hrel.append hn2) (.inr rfl) (by simp) (by simp) (hS.wf.push _) (fun b' hb' _=>by rw [Hp.get_push,if_neg hb']) (by rw [List.append_nil];exact hrow') (Nat.le_refl _) (by rw [List.append_nil,hlen2];exact Nat.le_refl _)
   |false=>
    simp only [Bool.false_eq_true,if_false,hrow.mut,if_true];refine hfin _ H.nx (cells++news) [] (n+m) false (hrel.append hn2) (.inr rfl) (by simp) (by simp) (fun b' bk hb'=>?_) (fun b' hb' hne=>?_) (by rw [List.append_nil];exact hrow'.same (by rw [Hp.get_del,if_neg (by omega)])) (Nat.le_refl _) (by rw [List.append_nil,hlen2];exact Nat.le_refl _)
    ·rw [Hp.get_del] at hb';split at hb'
     ·cases hb'
     ·exact hS.wf.push _ b' bk hb'
    ·rw [Hp.get_del,if_neg (fun (e:b'=b)=>hne N (by rw [e];exact hb)),Hp.get_push,if_neg hb']
end
def DQ(KS:List (Nat × List FD)):List (Nat × Nat)->Option (List (List FD))
 |[]=>some []
 |(j,o)::r=>match lk KS j,DQ KS r with
  |some l,some q=>some (l.drop o::q)
  |_,_=>none
def DR(KS:List (Nat × List FD)):DC->DC
 |.ptr j o=>match lk KS j with
  |some l=>.fptr (l.drop o)
  |none=>.ptr j o
 |.fn f caps=>match DQ KS caps with
  |some ls=>.fz f ls
  |none=>.fn f caps
 |d=>d
def MD(KS:List (Nat × List FD)):List DC->List DC
 |[]=>[]
 |d::l=>DR KS d::MD KS l
def faV(KS:List (Nat × List FD)):DV->DV
 |.one d=>.one (DR KS d)
 |d=>d
def An(KS:List (Nat × List FD)):Bk->Bk
 |.cells m=>.cells (MD KS m)
 |x=>x
def YC(KS:List (Nat × List FD)):Bx->Bx
 |[]=>[]
 |(j,x)::S=>match lk KS j with
  |some _=>YC KS S
  |none=>(j,An KS x)::YC KS S
theorem KI(KS:List (Nat × List FD))(n:Nat):∀S:Bx,lk (YC KS S) n=(match lk KS n with
 |some _=>none
 |none=>(lk S n).map (An KS))
 |[]=>by simp only [YC,lk];cases lk KS n<;>rfl
 |(j,x)::S=>by
  have ih:=KI KS n S;simp only [YC];cases hj:lk KS j with
  |some l=>
   simp only;rw [ih];cases hn:lk KS n with
   |some _=>rfl
   |none=>
    simp only;rw [qQ,if_neg (fun e=>by subst e;rw [hj] at hn;cases hn)]
  |none=>
   simp only;rw [qQ,qQ];by_cases e:j=n
   ·subst e;rw [if_pos rfl,if_pos rfl,hj];rfl
   ·rw [if_neg e,if_neg e,ih]
section
variable{p:Par}{base rs n:Nat}{W:Wt}{A:List Nat}{E:qq}{S:Bx}{nk:Nat}
theorem PO{Z:Nat->Prop}{β:qw}{H:Hp}{F:T V}(hS:SR p Z β H S nk)(hE:ER Z β H E F){KS:List (Nat × List FD)}(hK:∀k fs,lk KS k=some fs->lk S k=some (.cells (fs.map .f))):
 ∃Z',SR p Z' β H (YC KS S) nk/\ER Z' β H (yr (faV KS) E) F:=by
 have hZ:xo Z H (fun b=>Z b\/∃k fs N,lk KS k=some fs/\β (k,0)=some (.blk b N)) H:=fun b hb=>⟨.inl hb,fun _ _ h=>h⟩;have hP:∀{j o b N:Nat} {l:List FD},lk KS j=some l->β (j,0)=some (.blk b N)->∃cs,H.loads b o (l.drop o).length=some cs/\qg (RF (fun b=>Z b\/∃k fs N,lk KS k=some fs/\β (k,0)=some (.blk b N)) H) (l.drop o) cs:=by
  intro j o b N l hl hb;obtain⟨s0,hs0,hb0⟩:=hS.box (j,0) _ (xX (hK j l hl) rfl);rw [hb] at hs0;obtain rfl:=zsi hs0;obtain⟨_,_,_,cs,rest,hrow,_,hrel⟩:=hb0;have hrel:qg (RD Z H β) (l.map .f) cs:=hrel;have hrow:x6 H b (cs++rest):=hrow;have ha:=(n7 hrel).mono fun _ _=>RF.mono hZ;have hlen:l.length=cs.length:=ha.len;refine⟨cs.drop o,?_,ha.drop o⟩;by_cases ho:o<=cs.length
  ·have h1:=QN (m:=o) (yo hrow.2 (m:=cs.length) (by rw [List.length_append];omega)) (by omega);rw [List.length_drop,hlen];rw [Nat.zero_add,List.take_append_of_le_length (Nat.le_refl _),List.take_length] at h1;exact h1
  ·rw [List.drop_of_length_le (by omega),List.drop_of_length_le (by omega)];rfl
 have hF:∀{caps caps':List (Nat × Nat)} {ls:List (List FD)},jY β caps caps'->DQ KS caps=some ls->fT (fun b=>Z b\/∃k fs N,lk KS k=some fs/\β (k,0)=some (.blk b N)) H ls caps':=by
  intro caps;induction caps with
  |nil=>
   intro caps' ls h1 h2;cases caps' with
   |nil=>obtain rfl:=zsi h2;trivial
   |cons _ _=>exact h1.elim
  |cons jo r ih=>
   obtain⟨j,o⟩:=jo;intro caps' ls h1 h2;cases caps' with
   |nil=>exact h1.elim
   |cons bo r'=>
    obtain⟨b,o'⟩:=bo;obtain⟨rfl,⟨N,hb⟩,h3⟩:=h1;simp only [DQ] at h2;split at h2
    ·rename_i l q e1 e2;obtain rfl:=zsi h2;obtain⟨cs,c1,c2⟩:=hP (o:=o') e1 hb;exact⟨⟨.inr ⟨j,l,N,e1,hb⟩,cs,c1,c2⟩,ih h3 e2⟩
    ·cases h2
 have hC:∀d c,RD Z H β d c->RD (fun b=>Z b\/∃k fs N,lk KS k=some fs/\β (k,0)=some (.blk b N)) H β (DR KS d) c:=fun d c hr=>by
  cases d with
  |ptr j o=>
   simp only [DR];cases hj:lk KS j with
   |none=>exact hr
   |some l=>
    obtain⟨b,N,h1,rfl⟩:=hr;obtain⟨cs,c1,c2⟩:=hP (o:=o) hj h1;exact⟨b,o,cs,rfl,.inr ⟨j,l,N,hj,h1⟩,c1,c2⟩
  |fn f caps=>
   simp only [DR];cases hj:DQ KS caps with
   |none=>exact RD.mono (d:=.fn f caps) hZ (xO.refl β) hr
   |some ls=>
    obtain⟨caps',rfl,h2⟩:=hr;exact⟨caps',rfl,hF h2 hj⟩
  |own j o n e=>exact RD.mono (d:=.own j o n e) hZ (xO.refl β) hr
  |trow j i o n=>exact RD.mono (d:=.trow j i o n) hZ (xO.refl β) hr
  |f d=>exact RD.mono (d:=.f d) hZ (xO.refl β) hr
  |g b o=>exact hr
  |tptr j i o=>exact hr
  |fptr q=>exact RD.mono (d:=.fptr q) hZ (xO.refl β) hr
  |any=>trivial
  |om j=>exact hr
  |yl j=>exact hr
  |fz f ls=>exact RD.mono (d:=.fz f ls) hZ (xO.refl β) hr
 have hCL:∀{m:List DC} {cs:List C},qg (RD Z H β) m cs->qg (RD (fun b=>Z b\/∃k fs N,lk KS k=some fs/\β (k,0)=some (.blk b N)) H β) (MD KS m) cs:=by
  intro m;induction m with
  |nil=>intro cs h;cases cs with
   |nil=>trivial
   |cons _ _=>exact h.elim
  |cons d m ih=>intro cs h;cases cs with
   |nil=>exact h.elim
   |cons c cs=>exact⟨hC d c h.1,ih h.2⟩
 have hlk2:∀{κ:zC} {y:Bk},qP (YC KS S) κ=some y->lk KS κ.1=none/\∃x,qP S κ=some x/\(y=x\/∃m,x=.cells m/\y=.cells (MD KS m)):=by
  intro κ y hy;obtain⟨j,i⟩:=κ;obtain⟨z,hz⟩:=yy hy;rw [KI] at hz;cases hj:lk KS j with
  |some l=>simp only [hj] at hz;cases hz
  |none=>
   refine⟨rfl,?_⟩;simp only [hj] at hz;cases hl:lk S j with
   |none=>rw [hl] at hz;cases hz
   |some x=>
    have he:lk (YC KS S) j=some (An KS x):=by rw [KI];simp only [hj,hl,Option.map_some]
    cases i with
    |zero=>
     simp only [qP,he] at hy;simp only [qP,hl];cases x with
     |cells m=>exact⟨_,rfl,.inr ⟨m,rfl,(zsi hy).symm⟩⟩
     |data m=>exact⟨_,rfl,.inl (zsi hy).symm⟩
     |tree rows=>exact⟨_,rfl,.inl (zsi hy).symm⟩
     |mp ks m=>exact⟨_,rfl,.inl (zsi hy).symm⟩
     |mt es=>exact⟨_,rfl,.inl (zsi hy).symm⟩
    |succ i=>
     simp only [qP,he] at hy;simp only [qP,hl];cases x with
     |cells m=>cases hy
     |data m=>cases hy
     |tree rows=>exact⟨y,hy,.inl rfl⟩
     |mp ks m=>cases hy
     |mt es=>exact⟨y,hy,.inl rfl⟩
 have hf:∀i z,lk (YC KS S) i=some z->∃z',lk S i=some z':=fun i z hz=>by
  rw [KI] at hz;cases hj:lk KS i with
  |some l=>simp only [hj] at hz;cases hz
  |none=>
   simp only [hj] at hz;cases e:lk S i with
   |none=>rw [e] at hz;cases hz
   |some z=>exact⟨z,rfl⟩
 refine⟨fun b=>Z b\/∃k fs N,lk KS k=some fs/\β (k,0)=some (.blk b N),⟨hS.wf,hS.lo,fun b hb=>hb.elim (hS.z b) fun⟨k,fs,N,_,h⟩=>hS.bd _ b N h,fun b hb=>?_,fun b hb=>.inl (hS.zz b hb),fun b bk hb=>⟨.inl (hS.glob b bk hb).1,(hS.glob b bk hb).2⟩,hS.nk,hS.bd,fun j y hj=>?_,fun j j' y y' b N N' hj hj' h1 h2=>?_,hS.blo,hS.anch,hS.ancn⟩,fun n d hd=>?_⟩
 ·rcases hb with hb|⟨k,fs,N,_,hb⟩
  ·exact hS.zlo b hb
  ·exact .inr (hS.blo _ b N hb)
 ·obtain⟨hne,x,hx,hxy⟩:=hlk2 hj;obtain⟨s,hs,hbx⟩:=hS.box j x hx;obtain⟨w,hw⟩:=yy hx;refine⟨s,hs,?_⟩;cases s with
  |nil=>
   rcases hxy with rfl|⟨m,rfl,rfl⟩
   ·exact hbx
   ·have hbx:m.length=0:=hbx;cases m with
    |nil=>rfl
    |cons _ _=>simp at hbx
  |blk b N=>
   obtain⟨h1,h2,h3,cs,rest,h4,h5,h6⟩:=hbx;have hnz:¬(Z b\/∃k fs N,lk KS k=some fs/\β (k,0)=some (.blk b N)):=fun h=>h.elim h1 fun⟨k,fs,M,hk,hM⟩=>by
    have:=hS.inj j (k,0) w _ b N M hw (hK k fs hk) hs hM;subst this;rw [hk] at hne;cases hne
   rcases hxy with rfl|⟨m,rfl,rfl⟩
   ·exact⟨hnz,h2,h3,cs,rest,h4,h5,Bk.rel_mono hZ (xO.refl β) h6⟩
   ·exact⟨hnz,h2,h3,cs,rest,h4,h5,hCL h6⟩
 ·obtain⟨z1,e1⟩:=hf _ _ hj;obtain⟨z2,e2⟩:=hf _ _ hj';exact hS.inj j j' z1 z2 b N N' e1 e2 h1 h2
 ·rw [wK] at hd;cases hl:lk E n with
  |none=>rw [hl] at hd;cases hd
  |some y=>
   rw [hl] at hd;obtain rfl:=zsi hd;obtain⟨v,hv,hr⟩:=hE n y hl;refine⟨v,hv,?_⟩;cases y with
   |one d=>obtain⟨c,rfl,hr⟩:=hr;exact⟨c,rfl,hC d c hr⟩
   |agg m=>exact xC.mono (d:=.agg m) hZ (xO.refl β) hr
   |tup m=>exact xC.mono (d:=.tup m) hZ (xO.refl β) hr
def LE(S:Bx):List (Nat × List FD)->Prop
 |[]=>True
 |(k,fs)::r=>lk S k=some (.cells (fs.map .f))/\LE S r
theorem sK{S:Bx}:∀{KS:List (Nat × List FD)},LE S KS->∀k fs,lk KS k=some fs->lk S k=some (.cells (fs.map .f))
 |[],_,_,_,h=>by cases h
 |(j,l)::r,⟨h1,h2⟩,k,fs,h=>by
  rw [qQ] at h;split at h
  ·rename_i e;subst e;obtain rfl:=zsi h;exact h1
  ·exact sK h2 k fs h
theorem KX{Q:Exit->qq->Bx->Nat->Prop}{s:SC}(KS:List (Nat × List FD))(hK:LE S KS)(h:DPS p n s Q (yr (faV KS) E) (YC KS S) nk):DPS p n s Q E S nk:=.mk fun Z β H F hS hE=>by
 obtain⟨Z',hS',hE'⟩:=PO hS hE (sK hK);exact h.run Z' β H F hS' hE'
def fzA(ls:List (List FD)):List DV:=ls.map fun l=>.one (.fptr l)
theorem DH{Z:Nat->Prop}{H:Hp}{β:qw}:∀{ls:List (List FD)} {caps:List (Nat × Nat)},fT Z H ls caps->qg (xC Z H β) (fzA ls) (caps.map fun p=>V.one (.ptr p.1 p.2))
 |[],[],_=>trivial
 |_::_,p::_,⟨⟨h1,cs,h2,h3⟩,h4⟩=>⟨⟨_,rfl,p.1,p.2,cs,rfl,h1,h2,h3⟩,DH h4⟩
 |[],_::_,h=>h.elim
 |_::_,[],h=>h.elim
section
variable{p:Par}{base rs:Nat}{Q:qq->Bx->Nat->Prop}{r:List SOper}{W:Wt}{A:List Nat}{E:qq}{S:Bx}{nk:Nat}{id:Nat}{dst:Option Nat}{aid:Option Nat}{ws:List Nat}{keep:Bool}
theorem yC{x:Opd}{f:FuncId}{ls:List (List FD)}{args:List Opd}{ds:List DV}{R:DV->Prop}(hx:ro E x=some (.one (.fz f ls)))(hfn:qA p.P f=true)(hvs:X4 E args=some ds)(hf:qV WT ds=true)(hc:yd p.P p.G p.GH f (ds++fzA ls) R)(h:∀d,R d->DPW p base rs Q r W A (xk E dst d) S nk):DPW p base rs Q (⟨id,dst,.cv x args,none,aid,ws,keep⟩::r) W A E S nk:=.mk fun Z β H F c hS hE hC hA=>by
 obtain⟨cx,hcx,caps,rfl,hcaps⟩:=xf hE hx;simp only [qF,qt,if_true,hcx];refine⟨hfn,?_⟩;refine (hc H Z _ hS.wf hS.z (fun b bk hb=>hS.glob b bk (.inl hb)) ((KO hf (kS hE hvs)).append (DH hcaps))).mono ?_;rintro v H' ⟨hw,hnx,hg,d,hr,hR⟩;have hz:∀b,(Z b\/(H.nx<=b/\b<H'.nx))↔Z b\/(H.nx<=b/\(Z b\/(H.nx<=b/\b<H'.nx))):=fun b=>⟨fun h=>h.elim .inl fun h=>.inr ⟨h.1,.inr h⟩,fun h=>h.elim .inl fun h=>h.2⟩;obtain⟨hS',hZ⟩:=hS.grow hz (fun b h=>h.elim (fun h=>Nat.lt_of_lt_of_le (hS.z b h) hnx) fun h=>h.2) hw hnx hg;have hC':=hC.same hZ (xO.refl β) hg hS.wf;exact⟨hC'.watch ws,(h d hR).run _ β H' _ c hS' ((hE.mono hZ (xO.refl _)).set dst (hr.mono (xo.refl _ _) (CY β))) hC' (hA.grow hz hnx hg)⟩
end
end
end Go.Ab

namespace Go.Ag
open Go.Ab Go.Proofs
theorem kw{f:Ft}(hv:zd f=true):DK 31 [.one (.fptr (zt f))] fun d=>d=qz (xd f):=by
 refine qD qb0 rfl xa fun Z0 lo=>?_;refine qb ?_;intros;refine qk rfl rfl (JG hv) ?_;rintro _ rfl;refine qb ?_;intros;exact qf ⟨_,rfl,rfl,rfl⟩
theorem ku{i:Nat}{l:List qc}{q:qc}(hi:i<8)(hq:l[i]?=some q)(hs:qE 1000000 q):DK 33 [.one (.fptr [.c (.int .i64 i)]),.one (.fptr [qL l])] fun d=>d=qz (qS i q):=by
 refine qD qbZ rfl xa fun Z0 lo=>?_;have e1:=xi hq;have hl:=(zgs hq).1;refine qb ?_;intros;refine qk rfl rfl (XR hi hs) ?_;rintro _ rfl;refine qb ?_;intros;exact qf ⟨_,rfl,rfl,rfl⟩
inductive Drw (p:Pic):DV × Int × Int->Prop
 |chk (r:oB) (h:Chk p r) (hne:r.2.2≠0):Drw p (YY,r.1,r.2.2)
 |bad (hv:qx p=true) (h1:jK p.gap (qp p)) (h2:jJ p.gap (qp p)) (q:cT) (hq:PlcR p q) (hne:q.2.2≠0):Drw p (YY,q.2.1,q.2.2)
 |ok (hv:qx p=true) (h1:jK p.gap (qp p)) (h2:jJ p.gap (qp p)) (q:cT) (hq:PlcR p q) (h0:q.2.2=0):Drw p (jX p.w p.h (Xg p (qC p q.1 p.fs.length)),(p.fs.length:Int),0)
def jn:Ft:=⟨0,0,[]⟩
theorem dG{fs:List Ft}{j:Nat}(h:j<fs.length):fs[j]?=some (fs.getD j jn):=by
 rw [List.getD_eq_getElem?_getD,zge h];rfl
theorem G7{fs:List Ft}{j:Nat}(h:j<fs.length):fs.getD j jn∈fs:=zmg (dG h)
theorem zZ{l:List qc}{j:Nat}(h:j<l.length):l[j]?=some (xH l j):=by
 obtain⟨q,hq⟩:∃q,l[j]?=some q:=⟨_,zge h⟩;rw [xT hq,hq]
theorem wn{p:Pic}{j:Nat}(h:j<p.fs.length):wu p j=xd (p.fs.getD j jn):=by
 rw [wu,qp,List.getElem?_map,dG h];rfl
theorem zi{p:Pic}(hwn:((p.w.toNat:Nat):Int)=p.w)(hhn:((p.h.toNat:Nat):Int)=p.h)(hw:p.w<=200)(hh:p.h<=200){P:List (List qc)}{k:Nat}{a:List qc}(hsz:Sz p.w.toNat p.h.toNat (yv p.w.toNat p.h.toNat (blankD p.w.toNat p.h.toNat) (P.take k)))(ha:P[k]?=some a)(hl:a.length<1000000):DK 37 [jX p.w p.h (yv p.w.toNat p.h.toNat (blankD p.w.toNat p.h.toNat) (P.take k)),qz a] fun d=>d=jX p.w p.h (yv p.w.toNat p.h.toNat (blankD p.w.toNat p.h.toNat) (P.take (k+1))):=by
 have hp:=qaU (l:=a) oM oM hsz hl;rw [hwn,hhn] at hp;rw [show P.take (k+1)=P.take k++[a] by rw [List.take_add_one,ha];rfl,iW];exact hp
def dK(r:DV × Int × Int):DV:=.tup [r.1,.int r.2.1,.int r.2.2]
theorem Zj{p:Pic}(hv:qx p=true){q:cT}(hq:PlcR p q)(h0:q.2.2=0):q.1.length=p.fs.length/\yQ p q.1=true/\∀r∈q.1,qE 1000000 r:=by
 have hl8:=(qT hv).1;cases hq with
 |bad i hi hb hok=>cases h0
 |ok hok=>
  have hlen:=pY hl8.1 hok;have hleg:=O1 hl8.1 hok;refine⟨hlen,?_,fun r hr=>?_⟩
  ·rw [yQ,decide_eq_true hlen,(X8 hv).2 hleg];rfl
  ·obtain⟨j,hj⟩:=List.getElem?_of_mem hr;have h1:=hleg.ch j r hj;have h2:j<(kN p (p.fs.length-1)).length:=(zgs hj).1;rw [wO (by omega)] at h1;exact (YE hv j).1 r h1
def bxD(fs:List Ft):Nat->Bx
 |0=>[]
 |j+1=>(4+2*j,.cells [.f (.c (.int .i64 (j:Nat)))])::(5+2*j,.cells ((zt (fs.getD j jn)).map .f))::bxD fs j
def clD:Nat->List DC
 |0=>[]
 |j+1=>clD j++[.fn 31 [(5+2*j,0)],.fn 33 [(4+2*j,0),(2,0)]]
theorem Y3{p:Pic}(hFi:Xr p)(hFe:Y9 p)(h4:p.fs.length<=4):DK 9 [yW p] fun d=>∃r,Drw p r/\d=dK r:=by
 refine qD cp9 rfl xa fun Z0 lo=>?_;refine qb ?_;intros;refine qk rfl rfl (r8 hFi hFe) ?_;rintro _ ⟨r,hr,rfl⟩;refine qb ?_;intros;refine qd rfl (fun ht=>?_) (fun ht=>?_)
 ·refine qb ?_;intros;exact qf ⟨_,rfl,rfl,_,.chk r hr (by simpa using ht),rfl⟩
 ·have h0:r.2.2=0:=by simpa using ht
  have hv:qx p=true:=by
   cases hr with
   |arg h=>cases h0
   |bad1 i h hb=>exact h
   |bad2 i k h hg hb=>exact h
   |ok h hg hb=>exact h
  obtain⟨hg1,hg2⟩:=(hr.ok_iff hv).1 h0;have hl8:=(qT hv).1;clear hr ht h0;have hvf:=fun j (hj:j<p.fs.length)=>zM hv (p.fs.getD j jn) (G7 hj);have hh:=(qT hv).2.2.1;simp only [yz,xD,xV] at hh;obtain⟨⟨⟨hw1,hw2⟩,_⟩,⟨hh1,hh2⟩,_⟩:=hh;have hwn:((p.w.toNat:Nat):Int)=p.w:=by omega
  have hhn:((p.h.toNat:Nat):Int)=p.h:=by omega
  have hsz:=fun (l:List (List qc)) (k:Nat)=>Jr (w:=p.w.toNat) (h:=p.h.toNat) (l.take k) (Sz.blankD p.w.toNat p.h.toNat);refine qb ?_;intros;refine kr 0 (fs:=yZ p) rfl ?_;refine vD 9 1 rfl ?_;refine qaK 3 rfl ?_;refine qm (fun m E S nk=>∃i:Nat,i+m=p.fs.length/\E=[(1,.one (.fptr (yZ p))),(2,.one (.ptr 1 0)),(8,.one (.ptr 2 0)),(9,.one (.own 3 0 (2*i) 1)),(29,.one (.f (.sl 3 p.fs.length (p.fs.flatMap zt)))),(30,.int p.fs.length),(31,.int i)]/\S=(1,.cells [.f (.c (.int .i64 0)),.f (.c (.int .i64 0)),.f (.c .nils)])::(2,.cells [.f (.c .nils)])::(3,.cells (clD i))::bxD p.fs i/\nk=4+2*i)
   ⟨p.fs.length,_,_,_,[],?wk,0,oM,rfl,rfl,rfl⟩ ?_
  case wk=>exact ql
  rintro m E S nk ⟨i,hi,rfl,rfl,rfl⟩;refine qb ?_;intros;refine qd rfl (fun hi2=>?_) (fun hi2=>?_)
  ·have hi2:i<p.fs.length:=by have:=xL hi2;omega
   have e1:=ZK (dG hi2);have hi3:i=0\/i=1\/i=2\/i=3:=by omega
   rcases hi3 with rfl|rfl|rfl|rfl
   ·refine qb ?_;intros;refine KW rfl rfl rfl rfl rfl rfl (by decide) (by decide) (by decide) rfl ?_;refine qb ?_;intros;refine⟨m-1,oM,_,_,_,[(3,7)],?wk0,1,oM,rfl,rfl,rfl⟩
    case wk0=>exact ql
   ·refine qb ?_;intros;refine KW rfl rfl rfl rfl rfl rfl (by decide) (by decide) (by decide) rfl ?_;refine qb ?_;intros;refine⟨m-1,oM,_,_,_,[(3,9)],?wk1,2,oM,rfl,rfl,rfl⟩
    case wk1=>exact ql
   ·refine qb ?_;intros;refine KW rfl rfl rfl rfl rfl rfl (by decide) (by decide) (by decide) rfl ?_;refine qb ?_;intros;refine⟨m-1,oM,_,_,_,[(3,11)],?wk2,3,oM,rfl,rfl,rfl⟩
    case wk2=>exact ql
   ·refine qb ?_;intros;refine KW rfl rfl rfl rfl rfl rfl (by decide) (by decide) (by decide) rfl ?_;refine qb ?_;intros;refine⟨m-1,oM,_,_,_,[(3,13)],?wk3,4,oM,rfl,rfl,rfl⟩
    case wk3=>exact ql
  ·have hi2:i=p.fs.length:=by have:=xP hi2;omega
   have hN:p.fs.length=1\/p.fs.length=2\/p.fs.length=3\/p.fs.length=4:=by omega
   rcases hN with hN|hN|hN|hN
   ·obtain rfl:i=1:=by omega
    refine qb ?_;intros;refine qk rfl rfl (JH hFi hFe) ?_;rintro _ ⟨q,hq,_,rfl⟩;have hq:=hq hv;refine qb ?_;intros;refine qd rfl (fun ht=>?_) (fun ht=>?_)
    ·refine qb ?_;intros;exact qf ⟨_,rfl,rfl,_,.bad hv hg1 hg2 q hq (by simpa using ht),rfl⟩
    ·have h0:q.2.2=0:=by simpa using ht
     obtain⟨hql,_,hqs⟩:=Zj hv hq h0;refine qb ?_;intros;refine ki rfl rfl (bH p.w p.h) ?_;rintro _ _ _ ⟨n1,m1,hn',hm',_,_,rfl,rfl,rfl⟩;have en:p.w.toNat=n1:=by unfold kz at hn';omega
     have em:p.h.toNat=m1:=by unfold kz at hm';omega
     subst en em;have hlen:p.h.toNat=(xE (blankD p.w.toNat p.h.toNat)).length:=by rw [kP];simp [blankD]
     refine qb ?_;intros;refine qu (qe (k:=1) rfl (qe (k:=2) rfl (qe (k:=14) rfl (qe (k:=58) rfl (qe (k:=59) rfl (qe (k:=60) rfl (qy _))))))) (qe (k:=1) rfl (qe (k:=2) rfl (qe (k:=3) rfl (qe (k:=4) rfl (qe (k:=5) rfl (qe (k:=8) rfl (qe (k:=9) rfl (qy _)))))))) ?_;refine Zo 8 rfl qR qR ?_;refine KX [(2,[qL q.1]),(4,[.c (.int .i64 (0:Nat))]),(5,zt (p.fs.getD 0 jn))] ⟨rfl,rfl,rfl,trivial⟩ ?_;have hg:some (Bk.cells [.f (.c (.int .i64 (p.w.toNat:Int))),.f (.c (.int .i64 (p.h.toNat:Int))),.f (.sl 1 p.h.toNat ((xE (blankD p.w.toNat p.h.toNat)).map zI))])=some (Bk.cells (jc p.w p.h (blankD p.w.toNat p.h.toNat))):=by
      rw [hwn,hhn,jc,show (blankD p.w.toNat p.h.toNat).length=p.h.toNat by simp [blankD]]
     refine qu (E0:=[(1,.one (.fptr (yZ p))),(2,.one (.ptr 1 0)),(14,.one (.ptr 9 0)),(58,.one (.own 3 0 (2*1) 1)),(59,.int ((2*1:Nat):Int)),(60,.int ((0:Nat):Int))]) (S0:=[(1,.cells [.f (.c (.int .i64 0)),.f (.c (.int .i64 0)),.f (.c .nils)]),(3,.cells [.fz 31 [zt (p.fs.getD 0 jn)],.fz 33 [[.c (.int .i64 (0:Nat))],[qL q.1]]]),(9,.cells (jc p.w p.h (blankD p.w.toNat p.h.toNat)))])
      (qe rfl (qe rfl (qe rfl (qe rfl (qe rfl (qe rfl (qy _))))))) (qe rfl (qe rfl (qe hg (qy _)))) ?_
     refine qm (fun m E S nk=>∃k:Nat,k+m=2*1/\E=[(1,.one (.fptr (yZ p))),(2,.one (.ptr 1 0)),(14,.one (.ptr 9 0)),(58,.one (.own 3 0 (2*1) 1)),(59,.int ((2*1:Nat):Int)),(60,.int k)]/\S=[(1,.cells [.f (.c (.int .i64 0)),.f (.c (.int .i64 0)),.f (.c .nils)]),(3,.cells [.fz 31 [zt (p.fs.getD 0 jn)],.fz 33 [[.c (.int .i64 (0:Nat))],[qL q.1]]]),(9,.cells (jc p.w p.h (yv p.w.toNat p.h.toNat (blankD p.w.toNat p.h.toNat) ((qC p q.1 1).take k))))]/\nk=10)
      ⟨2*1,_,_,_,[],?wl,0,oM,rfl,rfl,rfl⟩ ?_
     case wl=>exact ql
     rintro m E S nk ⟨k,hk,rfl,rfl,rfl⟩;refine qb ?_;intros;refine qd rfl (fun hk2=>?_) (fun hk2=>?_)
     ·have hk2:k<2*1:=by have:=xL hk2;omega
      have hk3:k=0\/k=1:=by omega
      rcases hk3 with rfl|rfl
      ·have hp:=zi (p:=p) hwn hhn (by omega) (by omega) (hsz (qC p q.1 1) 0) (show (qC p q.1 1)[0]?=some (wu p 0) from rfl) (by have:=wE hv hFe 0;omega);rw [wn (by omega:0<p.fs.length)] at hp;refine qb ?_;intros;refine yC rfl ZI rfl rfl (kw (hvf 0 oM)) ?_;rintro _ rfl;refine ym rfl ?_;refine qb ?_;intros;refine qk rfl rfl hp ?_;rintro _ rfl;refine qb ?_;intros;refine⟨m-1,oM,_,_,_,[],?wl0,1,oM,rfl,rfl,rfl⟩
       case wl0=>exact ql
      ·have hp:=zi (p:=p) hwn hhn (by omega) (by omega) (hsz (qC p q.1 1) 1) (show (qC p q.1 1)[1]?=some (qS 0 (xH q.1 0)) from rfl) (by have:=z7 0 (xH q.1 0);omega)
       skip
       refine qb ?_;intros;refine yC rfl ZH rfl rfl (ku (i:=0) oM (zZ (by omega:0<q.1.length)) (hqs _ (zmg (zZ (by omega:0<q.1.length))))) ?_;rintro _ rfl;refine ym rfl ?_;refine qb ?_;intros;refine qk rfl rfl hp ?_;rintro _ rfl;refine qb ?_;intros;refine⟨m-1,oM,_,_,_,[],?wl1,2,oM,rfl,rfl,rfl⟩
       case wl1=>exact ql
     ·have hk2:k=2*1:=by have:=xP hk2;omega
      subst hk2;rw [show (qC p q.1 1).take (2*1)=qC p q.1 1 from List.take_of_length_le (Nat.le_of_eq (vp p q.1 1))];refine qb ?_;intros;refine qf ⟨_,rfl,rfl,_,.ok hv hg1 hg2 q hq h0,?_⟩;rw [dK,hN];rfl
   ·obtain rfl:i=2:=by omega
    refine qb ?_;intros;refine qk rfl rfl (JH hFi hFe) ?_;rintro _ ⟨q,hq,_,rfl⟩;have hq:=hq hv;refine qb ?_;intros;refine qd rfl (fun ht=>?_) (fun ht=>?_)
    ·refine qb ?_;intros;exact qf ⟨_,rfl,rfl,_,.bad hv hg1 hg2 q hq (by simpa using ht),rfl⟩
    ·have h0:q.2.2=0:=by simpa using ht
     obtain⟨hql,_,hqs⟩:=Zj hv hq h0;refine qb ?_;intros;refine ki rfl rfl (bH p.w p.h) ?_;rintro _ _ _ ⟨n1,m1,hn',hm',_,_,rfl,rfl,rfl⟩;have en:p.w.toNat=n1:=by unfold kz at hn';omega
     have em:p.h.toNat=m1:=by unfold kz at hm';omega
     subst en em;have hlen:p.h.toNat=(xE (blankD p.w.toNat p.h.toNat)).length:=by rw [kP];simp [blankD]
     refine qb ?_;intros;refine qu (qe (k:=1) rfl (qe (k:=2) rfl (qe (k:=14) rfl (qe (k:=58) rfl (qe (k:=59) rfl (qe (k:=60) rfl (qy _))))))) (qe (k:=1) rfl (qe (k:=2) rfl (qe (k:=3) rfl (qe (k:=4) rfl (qe (k:=5) rfl (qe (k:=6) rfl (qe (k:=7) rfl (qe (k:=10) rfl (qe (k:=11) rfl (qy _)))))))))) ?_;refine Zo 10 rfl qR qR ?_;refine KX [(2,[qL q.1]),(4,[.c (.int .i64 (0:Nat))]),(5,zt (p.fs.getD 0 jn)),(6,[.c (.int .i64 (1:Nat))]),(7,zt (p.fs.getD 1 jn))] ⟨rfl,rfl,rfl,rfl,rfl,trivial⟩ ?_;have hg:some (Bk.cells [.f (.c (.int .i64 (p.w.toNat:Int))),.f (.c (.int .i64 (p.h.toNat:Int))),.f (.sl 1 p.h.toNat ((xE (blankD p.w.toNat p.h.toNat)).map zI))])=some (Bk.cells (jc p.w p.h (blankD p.w.toNat p.h.toNat))):=by
      rw [hwn,hhn,jc,show (blankD p.w.toNat p.h.toNat).length=p.h.toNat by simp [blankD]]
     refine qu (E0:=[(1,.one (.fptr (yZ p))),(2,.one (.ptr 1 0)),(14,.one (.ptr 11 0)),(58,.one (.own 3 0 (2*2) 1)),(59,.int ((2*2:Nat):Int)),(60,.int ((0:Nat):Int))]) (S0:=[(1,.cells [.f (.c (.int .i64 0)),.f (.c (.int .i64 0)),.f (.c .nils)]),(3,.cells [.fz 31 [zt (p.fs.getD 0 jn)],.fz 33 [[.c (.int .i64 (0:Nat))],[qL q.1]],.fz 31 [zt (p.fs.getD 1 jn)],.fz 33 [[.c (.int .i64 (1:Nat))],[qL q.1]]]),(11,.cells (jc p.w p.h (blankD p.w.toNat p.h.toNat)))])
      (qe rfl (qe rfl (qe rfl (qe rfl (qe rfl (qe rfl (qy _))))))) (qe rfl (qe rfl (qe hg (qy _)))) ?_
     refine qm (fun m E S nk=>∃k:Nat,k+m=2*2/\E=[(1,.one (.fptr (yZ p))),(2,.one (.ptr 1 0)),(14,.one (.ptr 11 0)),(58,.one (.own 3 0 (2*2) 1)),(59,.int ((2*2:Nat):Int)),(60,.int k)]/\S=[(1,.cells [.f (.c (.int .i64 0)),.f (.c (.int .i64 0)),.f (.c .nils)]),(3,.cells [.fz 31 [zt (p.fs.getD 0 jn)],.fz 33 [[.c (.int .i64 (0:Nat))],[qL q.1]],.fz 31 [zt (p.fs.getD 1 jn)],.fz 33 [[.c (.int .i64 (1:Nat))],[qL q.1]]]),(11,.cells (jc p.w p.h (yv p.w.toNat p.h.toNat (blankD p.w.toNat p.h.toNat) ((qC p q.1 2).take k))))]/\nk=12)
      ⟨2*2,_,_,_,[],?wl,0,oM,rfl,rfl,rfl⟩ ?_
     case wl=>exact ql
     rintro m E S nk ⟨k,hk,rfl,rfl,rfl⟩;refine qb ?_;intros;refine qd rfl (fun hk2=>?_) (fun hk2=>?_)
     ·have hk2:k<2*2:=by have:=xL hk2;omega
      have hk3:k=0\/k=1\/k=2\/k=3:=by omega
      rcases hk3 with rfl|rfl|rfl|rfl
      ·have hp:=zi (p:=p) hwn hhn (by omega) (by omega) (hsz (qC p q.1 2) 0) (show (qC p q.1 2)[0]?=some (wu p 0) from rfl) (by have:=wE hv hFe 0;omega);rw [wn (by omega:0<p.fs.length)] at hp;refine qb ?_;intros;refine yC rfl ZI rfl rfl (kw (hvf 0 oM)) ?_;rintro _ rfl;refine ym rfl ?_;refine qb ?_;intros;refine qk rfl rfl hp ?_;rintro _ rfl;refine qb ?_;intros;refine⟨m-1,oM,_,_,_,[],?wl0,1,oM,rfl,rfl,rfl⟩
       case wl0=>exact ql
      ·have hp:=zi (p:=p) hwn hhn (by omega) (by omega) (hsz (qC p q.1 2) 1) (show (qC p q.1 2)[1]?=some (qS 0 (xH q.1 0)) from rfl) (by have:=z7 0 (xH q.1 0);omega)
       skip
       refine qb ?_;intros;refine yC rfl ZH rfl rfl (ku (i:=0) oM (zZ (by omega:0<q.1.length)) (hqs _ (zmg (zZ (by omega:0<q.1.length))))) ?_;rintro _ rfl;refine ym rfl ?_;refine qb ?_;intros;refine qk rfl rfl hp ?_;rintro _ rfl;refine qb ?_;intros;refine⟨m-1,oM,_,_,_,[],?wl1,2,oM,rfl,rfl,rfl⟩
       case wl1=>exact ql
      ·have hp:=zi (p:=p) hwn hhn (by omega) (by omega) (hsz (qC p q.1 2) 2) (show (qC p q.1 2)[2]?=some (wu p 1) from rfl) (by have:=wE hv hFe 1;omega);rw [wn (by omega:1<p.fs.length)] at hp;refine qb ?_;intros;refine yC rfl ZI rfl rfl (kw (hvf 1 oM)) ?_;rintro _ rfl;refine ym rfl ?_;refine qb ?_;intros;refine qk rfl rfl hp ?_;rintro _ rfl;refine qb ?_;intros;refine⟨m-1,oM,_,_,_,[],?wl2,3,oM,rfl,rfl,rfl⟩
       case wl2=>exact ql
      ·have hp:=zi (p:=p) hwn hhn (by omega) (by omega) (hsz (qC p q.1 2) 3) (show (qC p q.1 2)[3]?=some (qS 1 (xH q.1 1)) from rfl) (by have:=z7 1 (xH q.1 1);omega)
       skip
       refine qb ?_;intros;refine yC rfl ZH rfl rfl (ku (i:=1) oM (zZ (by omega:1<q.1.length)) (hqs _ (zmg (zZ (by omega:1<q.1.length))))) ?_;rintro _ rfl;refine ym rfl ?_;refine qb ?_;intros;refine qk rfl rfl hp ?_;rintro _ rfl;refine qb ?_;intros;refine⟨m-1,oM,_,_,_,[],?wl3,4,oM,rfl,rfl,rfl⟩
       case wl3=>exact ql
     ·have hk2:k=2*2:=by have:=xP hk2;omega
      subst hk2;rw [show (qC p q.1 2).take (2*2)=qC p q.1 2 from List.take_of_length_le (Nat.le_of_eq (vp p q.1 2))];refine qb ?_;intros;refine qf ⟨_,rfl,rfl,_,.ok hv hg1 hg2 q hq h0,?_⟩;rw [dK,hN];rfl
   ·obtain rfl:i=3:=by omega
    refine qb ?_;intros;refine qk rfl rfl (JH hFi hFe) ?_;rintro _ ⟨q,hq,_,rfl⟩;have hq:=hq hv;refine qb ?_;intros;refine qd rfl (fun ht=>?_) (fun ht=>?_)
    ·refine qb ?_;intros;exact qf ⟨_,rfl,rfl,_,.bad hv hg1 hg2 q hq (by simpa using ht),rfl⟩
    ·have h0:q.2.2=0:=by simpa using ht
     obtain⟨hql,_,hqs⟩:=Zj hv hq h0;refine qb ?_;intros;refine ki rfl rfl (bH p.w p.h) ?_;rintro _ _ _ ⟨n1,m1,hn',hm',_,_,rfl,rfl,rfl⟩;have en:p.w.toNat=n1:=by unfold kz at hn';omega
     have em:p.h.toNat=m1:=by unfold kz at hm';omega
     subst en em;have hlen:p.h.toNat=(xE (blankD p.w.toNat p.h.toNat)).length:=by rw [kP];simp [blankD]
     refine qb ?_;intros;refine qu (qe (k:=1) rfl (qe (k:=2) rfl (qe (k:=14) rfl (qe (k:=58) rfl (qe (k:=59) rfl (qe (k:=60) rfl (qy _))))))) (qe (k:=1) rfl (qe (k:=2) rfl (qe (k:=3) rfl (qe (k:=4) rfl (qe (k:=5) rfl (qe (k:=6) rfl (qe (k:=7) rfl (qe (k:=8) rfl (qe (k:=9) rfl (qe (k:=12) rfl (qe (k:=13) rfl (qy _)))))))))))) ?_;refine Zo 12 rfl qR qR ?_;refine KX [(2,[qL q.1]),(4,[.c (.int .i64 (0:Nat))]),(5,zt (p.fs.getD 0 jn)),(6,[.c (.int .i64 (1:Nat))]),(7,zt (p.fs.getD 1 jn)),(8,[.c (.int .i64 (2:Nat))]),(9,zt (p.fs.getD 2 jn))] ⟨rfl,rfl,rfl,rfl,rfl,rfl,rfl,trivial⟩ ?_;have hg:some (Bk.cells [.f (.c (.int .i64 (p.w.toNat:Int))),.f (.c (.int .i64 (p.h.toNat:Int))),.f (.sl 1 p.h.toNat ((xE (blankD p.w.toNat p.h.toNat)).map zI))])=some (Bk.cells (jc p.w p.h (blankD p.w.toNat p.h.toNat))):=by
      rw [hwn,hhn,jc,show (blankD p.w.toNat p.h.toNat).length=p.h.toNat by simp [blankD]]
     refine qu (E0:=[(1,.one (.fptr (yZ p))),(2,.one (.ptr 1 0)),(14,.one (.ptr 13 0)),(58,.one (.own 3 0 (2*3) 1)),(59,.int ((2*3:Nat):Int)),(60,.int ((0:Nat):Int))]) (S0:=[(1,.cells [.f (.c (.int .i64 0)),.f (.c (.int .i64 0)),.f (.c .nils)]),(3,.cells [.fz 31 [zt (p.fs.getD 0 jn)],.fz 33 [[.c (.int .i64 (0:Nat))],[qL q.1]],.fz 31 [zt (p.fs.getD 1 jn)],.fz 33 [[.c (.int .i64 (1:Nat))],[qL q.1]],.fz 31 [zt (p.fs.getD 2 jn)],.fz 33 [[.c (.int .i64 (2:Nat))],[qL q.1]]]),(13,.cells (jc p.w p.h (blankD p.w.toNat p.h.toNat)))])
      (qe rfl (qe rfl (qe rfl (qe rfl (qe rfl (qe rfl (qy _))))))) (qe rfl (qe rfl (qe hg (qy _)))) ?_
     refine qm (fun m E S nk=>∃k:Nat,k+m=2*3/\E=[(1,.one (.fptr (yZ p))),(2,.one (.ptr 1 0)),(14,.one (.ptr 13 0)),(58,.one (.own 3 0 (2*3) 1)),(59,.int ((2*3:Nat):Int)),(60,.int k)]/\S=[(1,.cells [.f (.c (.int .i64 0)),.f (.c (.int .i64 0)),.f (.c .nils)]),(3,.cells [.fz 31 [zt (p.fs.getD 0 jn)],.fz 33 [[.c (.int .i64 (0:Nat))],[qL q.1]],.fz 31 [zt (p.fs.getD 1 jn)],.fz 33 [[.c (.int .i64 (1:Nat))],[qL q.1]],.fz 31 [zt (p.fs.getD 2 jn)],.fz 33 [[.c (.int .i64 (2:Nat))],[qL q.1]]]),(13,.cells (jc p.w p.h (yv p.w.toNat p.h.toNat (blankD p.w.toNat p.h.toNat) ((qC p q.1 3).take k))))]/\nk=14)
      ⟨2*3,_,_,_,[],?wl,0,oM,rfl,rfl,rfl⟩ ?_
     case wl=>exact ql
     rintro m E S nk ⟨k,hk,rfl,rfl,rfl⟩;refine qb ?_;intros;refine qd rfl (fun hk2=>?_) (fun hk2=>?_)
     ·have hk2:k<2*3:=by have:=xL hk2;omega
      have hk3:k=0\/k=1\/k=2\/k=3\/k=4\/k=5:=by omega
      rcases hk3 with rfl|rfl|rfl|rfl|rfl|rfl
      ·have hp:=zi (p:=p) hwn hhn (by omega) (by omega) (hsz (qC p q.1 3) 0) (show (qC p q.1 3)[0]?=some (wu p 0) from rfl) (by have:=wE hv hFe 0;omega);rw [wn (by omega:0<p.fs.length)] at hp;refine qb ?_;intros;refine yC rfl ZI rfl rfl (kw (hvf 0 oM)) ?_;rintro _ rfl;refine ym rfl ?_;refine qb ?_;intros;refine qk rfl rfl hp ?_;rintro _ rfl;refine qb ?_;intros;refine⟨m-1,oM,_,_,_,[],?wl0,1,oM,rfl,rfl,rfl⟩
       case wl0=>exact ql
      ·have hp:=zi (p:=p) hwn hhn (by omega) (by omega) (hsz (qC p q.1 3) 1) (show (qC p q.1 3)[1]?=some (qS 0 (xH q.1 0)) from rfl) (by have:=z7 0 (xH q.1 0);omega)
       skip
       refine qb ?_;intros;refine yC rfl ZH rfl rfl (ku (i:=0) oM (zZ (by omega:0<q.1.length)) (hqs _ (zmg (zZ (by omega:0<q.1.length))))) ?_;rintro _ rfl;refine ym rfl ?_;refine qb ?_;intros;refine qk rfl rfl hp ?_;rintro _ rfl;refine qb ?_;intros;refine⟨m-1,oM,_,_,_,[],?wl1,2,oM,rfl,rfl,rfl⟩
       case wl1=>exact ql
      ·have hp:=zi (p:=p) hwn hhn (by omega) (by omega) (hsz (qC p q.1 3) 2) (show (qC p q.1 3)[2]?=some (wu p 1) from rfl) (by have:=wE hv hFe 1;omega);rw [wn (by omega:1<p.fs.length)] at hp;refine qb ?_;intros;refine yC rfl ZI rfl rfl (kw (hvf 1 oM)) ?_;rintro _ rfl;refine ym rfl ?_;refine qb ?_;intros;refine qk rfl rfl hp ?_;rintro _ rfl;refine qb ?_;intros;refine⟨m-1,oM,_,_,_,[],?wl2,3,oM,rfl,rfl,rfl⟩
       case wl2=>exact ql
      ·have hp:=zi (p:=p) hwn hhn (by omega) (by omega) (hsz (qC p q.1 3) 3) (show (qC p q.1 3)[3]?=some (qS 1 (xH q.1 1)) from rfl) (by have:=z7 1 (xH q.1 1);omega)
       skip
       refine qb ?_;intros;refine yC rfl ZH rfl rfl (ku (i:=1) oM (zZ (by omega:1<q.1.length)) (hqs _ (zmg (zZ (by omega:1<q.1.length))))) ?_;rintro _ rfl;refine ym rfl ?_;refine qb ?_;intros;refine qk rfl rfl hp ?_;rintro _ rfl;refine qb ?_;intros;refine⟨m-1,oM,_,_,_,[],?wl3,4,oM,rfl,rfl,rfl⟩
       case wl3=>exact ql
      ·have hp:=zi (p:=p) hwn hhn (by omega) (by omega) (hsz (qC p q.1 3) 4) (show (qC p q.1 3)[4]?=some (wu p 2) from rfl) (by have:=wE hv hFe 2;omega);rw [wn (by omega:2<p.fs.length)] at hp;refine qb ?_;intros;refine yC rfl ZI rfl rfl (kw (hvf 2 oM)) ?_;rintro _ rfl;refine ym rfl ?_;refine qb ?_;intros;refine qk rfl rfl hp ?_;rintro _ rfl;refine qb ?_;intros;refine⟨m-1,oM,_,_,_,[],?wl4,5,oM,rfl,rfl,rfl⟩
       case wl4=>exact ql
      ·have hp:=zi (p:=p) hwn hhn (by omega) (by omega) (hsz (qC p q.1 3) 5) (show (qC p q.1 3)[5]?=some (qS 2 (xH q.1 2)) from rfl) (by have:=z7 2 (xH q.1 2);omega)
       skip
       refine qb ?_;intros;refine yC rfl ZH rfl rfl (ku (i:=2) oM (zZ (by omega:2<q.1.length)) (hqs _ (zmg (zZ (by omega:2<q.1.length))))) ?_;rintro _ rfl;refine ym rfl ?_;refine qb ?_;intros;refine qk rfl rfl hp ?_;rintro _ rfl;refine qb ?_;intros;refine⟨m-1,oM,_,_,_,[],?wl5,6,oM,rfl,rfl,rfl⟩
       case wl5=>exact ql
     ·have hk2:k=2*3:=by have:=xP hk2;omega
      subst hk2;rw [show (qC p q.1 3).take (2*3)=qC p q.1 3 from List.take_of_length_le (Nat.le_of_eq (vp p q.1 3))];refine qb ?_;intros;refine qf ⟨_,rfl,rfl,_,.ok hv hg1 hg2 q hq h0,?_⟩;rw [dK,hN];rfl
   ·obtain rfl:i=4:=by omega
    refine qb ?_;intros;refine qk rfl rfl (JH hFi hFe) ?_;rintro _ ⟨q,hq,_,rfl⟩;have hq:=hq hv;refine qb ?_;intros;refine qd rfl (fun ht=>?_) (fun ht=>?_)
    ·refine qb ?_;intros;exact qf ⟨_,rfl,rfl,_,.bad hv hg1 hg2 q hq (by simpa using ht),rfl⟩
    ·have h0:q.2.2=0:=by simpa using ht
     obtain⟨hql,_,hqs⟩:=Zj hv hq h0;refine qb ?_;intros;refine ki rfl rfl (bH p.w p.h) ?_;rintro _ _ _ ⟨n1,m1,hn',hm',_,_,rfl,rfl,rfl⟩;have en:p.w.toNat=n1:=by unfold kz at hn';omega
     have em:p.h.toNat=m1:=by unfold kz at hm';omega
     subst en em;have hlen:p.h.toNat=(xE (blankD p.w.toNat p.h.toNat)).length:=by rw [kP];simp [blankD]
     refine qb ?_;intros;refine qu (qe (k:=1) rfl (qe (k:=2) rfl (qe (k:=14) rfl (qe (k:=58) rfl (qe (k:=59) rfl (qe (k:=60) rfl (qy _))))))) (qe (k:=1) rfl (qe (k:=2) rfl (qe (k:=3) rfl (qe (k:=4) rfl (qe (k:=5) rfl (qe (k:=6) rfl (qe (k:=7) rfl (qe (k:=8) rfl (qe (k:=9) rfl (qe (k:=10) rfl (qe (k:=11) rfl (qe (k:=14) rfl (qe (k:=15) rfl (qy _)))))))))))))) ?_;refine Zo 14 rfl qR qR ?_;refine KX [(2,[qL q.1]),(4,[.c (.int .i64 (0:Nat))]),(5,zt (p.fs.getD 0 jn)),(6,[.c (.int .i64 (1:Nat))]),(7,zt (p.fs.getD 1 jn)),(8,[.c (.int .i64 (2:Nat))]),(9,zt (p.fs.getD 2 jn)),(10,[.c (.int .i64 (3:Nat))]),(11,zt (p.fs.getD 3 jn))] ⟨rfl,rfl,rfl,rfl,rfl,rfl,rfl,rfl,rfl,trivial⟩ ?_;have hg:some (Bk.cells [.f (.c (.int .i64 (p.w.toNat:Int))),.f (.c (.int .i64 (p.h.toNat:Int))),.f (.sl 1 p.h.toNat ((xE (blankD p.w.toNat p.h.toNat)).map zI))])=some (Bk.cells (jc p.w p.h (blankD p.w.toNat p.h.toNat))):=by
      rw [hwn,hhn,jc,show (blankD p.w.toNat p.h.toNat).length=p.h.toNat by simp [blankD]]
     refine qu (E0:=[(1,.one (.fptr (yZ p))),(2,.one (.ptr 1 0)),(14,.one (.ptr 15 0)),(58,.one (.own 3 0 (2*4) 1)),(59,.int ((2*4:Nat):Int)),(60,.int ((0:Nat):Int))]) (S0:=[(1,.cells [.f (.c (.int .i64 0)),.f (.c (.int .i64 0)),.f (.c .nils)]),(3,.cells [.fz 31 [zt (p.fs.getD 0 jn)],.fz 33 [[.c (.int .i64 (0:Nat))],[qL q.1]],.fz 31 [zt (p.fs.getD 1 jn)],.fz 33 [[.c (.int .i64 (1:Nat))],[qL q.1]],.fz 31 [zt (p.fs.getD 2 jn)],.fz 33 [[.c (.int .i64 (2:Nat))],[qL q.1]],.fz 31 [zt (p.fs.getD 3 jn)],.fz 33 [[.c (.int .i64 (3:Nat))],[qL q.1]]]),(15,.cells (jc p.w p.h (blankD p.w.toNat p.h.toNat)))])
      (qe rfl (qe rfl (qe rfl (qe rfl (qe rfl (qe rfl (qy _))))))) (qe rfl (qe rfl (qe hg (qy _)))) ?_
     refine qm (fun m E S nk=>∃k:Nat,k+m=2*4/\E=[(1,.one (.fptr (yZ p))),(2,.one (.ptr 1 0)),(14,.one (.ptr 15 0)),(58,.one (.own 3 0 (2*4) 1)),(59,.int ((2*4:Nat):Int)),(60,.int k)]/\S=[(1,.cells [.f (.c (.int .i64 0)),.f (.c (.int .i64 0)),.f (.c .nils)]),(3,.cells [.fz 31 [zt (p.fs.getD 0 jn)],.fz 33 [[.c (.int .i64 (0:Nat))],[qL q.1]],.fz 31 [zt (p.fs.getD 1 jn)],.fz 33 [[.c (.int .i64 (1:Nat))],[qL q.1]],.fz 31 [zt (p.fs.getD 2 jn)],.fz 33 [[.c (.int .i64 (2:Nat))],[qL q.1]],.fz 31 [zt (p.fs.getD 3 jn)],.fz 33 [[.c (.int .i64 (3:Nat))],[qL q.1]]]),(15,.cells (jc p.w p.h (yv p.w.toNat p.h.toNat (blankD p.w.toNat p.h.toNat) ((qC p q.1 4).take k))))]/\nk=16)
      ⟨2*4,_,_,_,[],?wl,0,oM,rfl,rfl,rfl⟩ ?_
     case wl=>exact ql
     rintro m E S nk ⟨k,hk,rfl,rfl,rfl⟩;refine qb ?_;intros;refine qd rfl (fun hk2=>?_) (fun hk2=>?_)
     ·have hk2:k<2*4:=by have:=xL hk2;omega
      have hk3:k=0\/k=1\/k=2\/k=3\/k=4\/k=5\/k=6\/k=7:=by omega
      rcases hk3 with rfl|rfl|rfl|rfl|rfl|rfl|rfl|rfl
      ·have hp:=zi (p:=p) hwn hhn (by omega) (by omega) (hsz (qC p q.1 4) 0) (show (qC p q.1 4)[0]?=some (wu p 0) from rfl) (by have:=wE hv hFe 0;omega);rw [wn (by omega:0<p.fs.length)] at hp;refine qb ?_;intros;refine yC rfl ZI rfl rfl (kw (hvf 0 oM)) ?_;rintro _ rfl;refine ym rfl ?_;refine qb ?_;intros;refine qk rfl rfl hp ?_;rintro _ rfl;refine qb ?_;intros;refine⟨m-1,oM,_,_,_,[],?wl0,1,oM,rfl,rfl,rfl⟩
       case wl0=>exact ql
      ·have hp:=zi (p:=p) hwn hhn (by omega) (by omega) (hsz (qC p q.1 4) 1) (show (qC p q.1 4)[1]?=some (qS 0 (xH q.1 0)) from rfl) (by have:=z7 0 (xH q.1 0);omega)
       skip
       refine qb ?_;intros;refine yC rfl ZH rfl rfl (ku (i:=0) oM (zZ (by omega:0<q.1.length)) (hqs _ (zmg (zZ (by omega:0<q.1.length))))) ?_;rintro _ rfl;refine ym rfl ?_;refine qb ?_;intros;refine qk rfl rfl hp ?_;rintro _ rfl;refine qb ?_;intros;refine⟨m-1,oM,_,_,_,[],?wl1,2,oM,rfl,rfl,rfl⟩
       case wl1=>exact ql
      ·have hp:=zi (p:=p) hwn hhn (by omega) (by omega) (hsz (qC p q.1 4) 2) (show (qC p q.1 4)[2]?=some (wu p 1) from rfl) (by have:=wE hv hFe 1;omega);rw [wn (by omega:1<p.fs.length)] at hp;refine qb ?_;intros;refine yC rfl ZI rfl rfl (kw (hvf 1 oM)) ?_;rintro _ rfl;refine ym rfl ?_;refine qb ?_;intros;refine qk rfl rfl hp ?_;rintro _ rfl;refine qb ?_;intros;refine⟨m-1,oM,_,_,_,[],?wl2,3,oM,rfl,rfl,rfl⟩
       case wl2=>exact ql
      ·have hp:=zi (p:=p) hwn hhn (by omega) (by omega) (hsz (qC p q.1 4) 3) (show (qC p q.1 4)[3]?=some (qS 1 (xH q.1 1)) from rfl) (by have:=z7 1 (xH q.1 1);omega)
       skip
       refine qb ?_;intros;refine yC rfl ZH rfl rfl (ku (i:=1) oM (zZ (by omega:1<q.1.length)) (hqs _ (zmg (zZ (by omega:1<q.1.length))))) ?_;rintro _ rfl;refine ym rfl ?_;refine qb ?_;intros;refine qk rfl rfl hp ?_;rintro _ rfl;refine qb ?_;intros;refine⟨m-1,oM,_,_,_,[],?wl3,4,oM,rfl,rfl,rfl⟩
       case wl3=>exact ql
      ·have hp:=zi (p:=p) hwn hhn (by omega) (by omega) (hsz (qC p q.1 4) 4) (show (qC p q.1 4)[4]?=some (wu p 2) from rfl) (by have:=wE hv hFe 2;omega);rw [wn (by omega:2<p.fs.length)] at hp;refine qb ?_;intros;refine yC rfl ZI rfl rfl (kw (hvf 2 oM)) ?_;rintro _ rfl;refine ym rfl ?_;refine qb ?_;intros;refine qk rfl rfl hp ?_;rintro _ rfl;refine qb ?_;intros;refine⟨m-1,oM,_,_,_,[],?wl4,5,oM,rfl,rfl,rfl⟩
       case wl4=>exact ql
      ·have hp:=zi (p:=p) hwn hhn (by omega) (by omega) (hsz (qC p q.1 4) 5) (show (qC p q.1 4)[5]?=some (qS 2 (xH q.1 2)) from rfl) (by have:=z7 2 (xH q.1 2);omega)
       skip
       refine qb ?_;intros;refine yC rfl ZH rfl rfl (ku (i:=2) oM (zZ (by omega:2<q.1.length)) (hqs _ (zmg (zZ (by omega:2<q.1.length))))) ?_;rintro _ rfl;refine ym rfl ?_;refine qb ?_;intros;refine qk rfl rfl hp ?_;rintro _ rfl;refine qb ?_;intros;refine⟨m-1,oM,_,_,_,[],?wl5,6,oM,rfl,rfl,rfl⟩
       case wl5=>exact ql
      ·have hp:=zi (p:=p) hwn hhn (by omega) (by omega) (hsz (qC p q.1 4) 6) (show (qC p q.1 4)[6]?=some (wu p 3) from rfl) (by have:=wE hv hFe 3;omega);rw [wn (by omega:3<p.fs.length)] at hp;refine qb ?_;intros;refine yC rfl ZI rfl rfl (kw (hvf 3 oM)) ?_;rintro _ rfl;refine ym rfl ?_;refine qb ?_;intros;refine qk rfl rfl hp ?_;rintro _ rfl;refine qb ?_;intros;refine⟨m-1,oM,_,_,_,[],?wl6,7,oM,rfl,rfl,rfl⟩
       case wl6=>exact ql
      ·have hp:=zi (p:=p) hwn hhn (by omega) (by omega) (hsz (qC p q.1 4) 7) (show (qC p q.1 4)[7]?=some (qS 3 (xH q.1 3)) from rfl) (by have:=z7 3 (xH q.1 3);omega)
       skip
       refine qb ?_;intros;refine yC rfl ZH rfl rfl (ku (i:=3) oM (zZ (by omega:3<q.1.length)) (hqs _ (zmg (zZ (by omega:3<q.1.length))))) ?_;rintro _ rfl;refine ym rfl ?_;refine qb ?_;intros;refine qk rfl rfl hp ?_;rintro _ rfl;refine qb ?_;intros;refine⟨m-1,oM,_,_,_,[],?wl7,8,oM,rfl,rfl,rfl⟩
       case wl7=>exact ql
     ·have hk2:k=2*4:=by have:=xP hk2;omega
      subst hk2;rw [show (qC p q.1 4).take (2*4)=qC p q.1 4 from List.take_of_length_le (Nat.le_of_eq (vp p q.1 4))];refine qb ?_;intros;refine qf ⟨_,rfl,rfl,_,.ok hv hg1 hg2 q hq h0,?_⟩;rw [dK,hN];rfl
end Go.Ag
