/- -/
import Derived.Test.YtbfbplnghpdmhaaGreatDoorAb20
set_option linter.unusedSimpArgs false
set_option maxHeartbeats 16000000
set_option linter.unusedVariables false
namespace Go.Ag
open Go.Ab Go.Proofs
theorem CJ(i:Nat)(q:qc):∃t,qS i q=qN q 1::t:=by
 refine⟨((List.range' 2 10).filter (zC (Vb i))).map (qN q),?_⟩;have e:List.range 12=0::1::List.range' 2 10:=by decide
 have h0:zC (Vb i) 0=false:=(show uZ 60 0=false by kernel_rfl);have h1:zC (Vb i) 1=true:=(show uZ 60 3=true by kernel_rfl);rw [qS,wV,e,List.filter_cons,h0,if_neg (by decide),List.filter_cons,h1,if_pos rfl,List.map_cons]
theorem OV(i:Nat)(q:qc):hd (qS i q)=qN q 1:=by
 obtain⟨t,h⟩:=CJ i q;rw [h];rfl
def QH(q:qc):qc:=(q.1.tdiv 2,q.2.tdiv 3)
theorem YY{i:Nat}{q:qc}(h:0<=q.1/\0<=q.2):QH (hd (qS i q))=q:=by
 rw [OV];unfold QH qN;have h1:(2*q.1+((1 % 4:Nat):Int)).tdiv 2=q.1:=by rw [Int.tdiv_eq_ediv_of_nonneg (by omega)];omega
 have h2:(3*q.2+((1/4:Nat):Int)).tdiv 3=q.2:=by rw [Int.tdiv_eq_ediv_of_nonneg (by omega)];omega
 exact Prod.ext h1 h2
theorem tI{q:qc}{j k:Nat}(h:j<k):xp (qN q j) (qN q k)=true:=by
 rw [jL];simp only [qN];omega
theorem CI(i:Nat)(q:qc):qK (qS i q):=by
 unfold qS wV;exact List.Pairwise.map _ (fun _ _ h=>h) ((List.Pairwise.imp (fun h=>tI h) List.pairwise_lt_range).filter _)
theorem lK{i j:Nat}{q:qc}(hj:j<12):qN q j∈qS i q↔zC (Vb i) j=true:=by
 unfold qS wV;rw [List.mem_map];constructor
 ·rintro ⟨k,hk,he⟩;obtain⟨_,h2⟩:=List.mem_filter.1 hk;obtain rfl:k=j:=by
   simp only [qN,zpi] at he;omega
  exact h2
 ·intro h;exact⟨j,List.mem_filter.2 ⟨List.mem_range.2 hj,h⟩,rfl⟩
theorem HJ:∀i,i<8->∀k,k<8->(∀j,j<12->zC (Vb i) j=zC (Vb k) j)->i=k:=by decide+kernel
theorem lL{i k:Nat}{q:qc}(hi:i<8)(hk:k<8)(h:qS i q=qS k q):i=k:=HJ i hi k hk fun j hj=>by
 have h1:=lK (i:=i) (q:=q) hj;have h2:=lK (i:=k) (q:=q) hj;rw [h] at h1;exact Bool.eq_iff_iff.2 (h1.symm.trans h2)
theorem lT{c:List qc}(h:c≠[]):hd c∈c:=by
 obtain⟨a,t,rfl⟩:=List.exists_cons_of_ne_nil h;simp [hd]
structure Left (cs L:List (List qc)):Prop where
 sub:∀c∈L,c∈cs
 nd:L.Nodup
structure Heads (cs:List (List qc)):Prop where
 inj:∀c∈cs,∀d∈cs,hd c=hd d->c=d
 ne:∀c∈cs,c≠[]
def y9(k:qc)(c:List qc):Bool:=decide (hd c=k)
def cut(L:List (List qc))(k:qc):List (List qc):=L.eraseP (y9 k)
def Q5(L:List (List qc))(k:qc):List qc:=(L.find? (y9 k)).getD []
theorem dA{cs L:List (List qc)}(hc:Heads cs)(hL:Left cs L){a:List qc}(ha:a≠[]):Q5 L (hd a)=a↔a∈L:=by
 unfold Q5;constructor
 ·intro h;cases hf:L.find? (y9 (hd a)) with
  |none=>rw [hf] at h;exact absurd h.symm ha
  |some c=>
   rw [hf] at h;obtain rfl:c=a:=h;exact List.mem_of_find?_eq_some hf
 ·intro h;cases hf:L.find? (y9 (hd a)) with
  |none=>
   have:=List.find?_eq_none.1 hf a h;simp [y9] at this
  |some c=>
   have h1:=List.find?_some hf;simp only [y9,xQ] at h1;exact hc.inj c (hL.sub c (List.mem_of_find?_eq_some hf)) a (hL.sub a h) h1
theorem Zx{cs L:List (List qc)}(hc:Heads cs)(hL:Left cs L){a:List qc}(ha:a∈L):(∀d,d∈cut L (hd a)↔d∈L/\d≠a)/\Left cs (cut L (hd a)):=by
 have hs:∀d,d∈cut L (hd a)->d∈L:=fun d hd'=>List.mem_of_mem_eraseP hd';have hn:(cut L (hd a)).Nodup:=hL.nd.sublist List.eraseP_sublist;refine⟨fun d=>⟨fun h=>⟨hs d h,fun e=>?_⟩,fun⟨h1,h2⟩=>?_⟩,fun c hcc=>hL.sub c (hs c hcc),hn⟩
 ·subst e;obtain⟨x,l1,l2,h1,h2,h3,h4⟩:=List.exists_of_eraseP (p:=y9 (hd d)) ha (by simp [y9]);have hx:x∈L:=by rw [h3];simp
  have hxd:x=d:=hc.inj x (hL.sub x hx) d (hL.sub d ha) (by simpa [y9] using h2);subst hxd;have hnd:=hL.nd;rw [h3] at hnd;rw [cut,h4] at h;have:=(List.nodup_append.1 hnd);rcases List.mem_append.1 h with h|h
  ·exact this.2.2 x h x (by simp) rfl
  ·exact (List.nodup_cons.1 this.2.1).1 h
 ·refine (List.mem_eraseP_of_neg ?_).2 h1;intro hp;exact h2 (hc.inj d (hL.sub d h1) a (hL.sub a ha) (by simpa [y9] using hp))
def wY:List (List qc)->List (List qc)->Option (List (List qc))
 |[],L=>some L
 |a::fl,L=>if Q5 L (hd a)=a then wY fl (cut L (hd a)) else none
theorem Ja{cs:List (List qc)}(hc:Heads cs):∀{fl L L':List (List qc)},(∀a∈fl,a≠[])->Left cs L->wY fl L=some L'->(∀a∈fl,a∈L)/\(∀d,d∈L'↔d∈L/\d∉fl)/\Left cs L'
 |[],L,L',_,hL,h=>by
  obtain rfl:=zsi h;exact⟨fun a ha=>by simp at ha,fun d=>by simp,hL⟩
 |a::fl,L,L',hne,hL,h=>by
  unfold wY at h;split at h
  ·rename_i ha;have haL:=(dA hc hL (hne a (by simp))).1 ha;obtain⟨h1,h2⟩:=Zx hc hL haL;obtain⟨g1,g2,g3⟩:=Ja hc (fun b hb=>hne b (by simp [hb])) h2 h;refine⟨fun b hb=>?_,fun d=>?_,g3⟩
   ·rcases List.mem_cons.1 hb with rfl|hb
    ·exact haL
    ·exact ((h1 b).1 (g1 b hb)).1
   ·rw [g2,h1,List.mem_cons];exact⟨fun⟨⟨a1,a2⟩,a3⟩=>⟨a1,fun e=>e.elim a2 a3⟩,fun⟨a1,a2⟩=>⟨⟨a1,fun e=>a2 (.inl e)⟩,fun e=>a2 (.inr e)⟩⟩
  ·cases h
theorem dW{cs:List (List qc)}(hc:Heads cs):∀{fl L:List (List qc)},(∀a∈fl,a≠[])->fl.Nodup->Left cs L->(∀a∈fl,a∈L)->∃L',wY fl L=some L'
 |[],L,_,_,_,_=>⟨L,rfl⟩
 |a::fl,L,hne,hnd,hL,h=>by
  have haL:=h a (by simp);obtain⟨h1,h2⟩:=Zx hc hL haL;rw [List.nodup_cons] at hnd;unfold wY;rw [if_pos ((dA hc hL (hne a (by simp))).2 haL)];exact dW hc (fun b hb=>hne b (by simp [hb])) hnd.2 h2 fun b hb=>(h1 b).2 ⟨h b (by simp [hb]),fun e=>hnd.1 (e▸hb)⟩
def wy(i:Nat)(L:List (List qc))(c:List qc):Bool:=L.any (y9 (hd c))&&decide (c=qS i (QH (hd c)))
def Ym(i:Nat)(cs L:List (List qc)):Option (List qc):=cs.find? (wy i L)
def vh:Nat->Nat->List (List qc)->List (List qc)->List qc->Option (List (List qc) × List qc)
 |0,_,_,L,ps=>some (L,ps)
 |n+1,i,cs,L,ps=>match Ym i cs L with
  |none=>none
  |some c=>vh n (i+1) cs (cut L (hd c)) (ps++[QH (hd c)])
theorem Yk{cs L:List (List qc)}(hc:Heads cs)(hL:Left cs L){i:Nat}{c:List qc}(hcc:c∈cs):wy i L c=true↔c∈L/\c=qS i (QH (hd c)):=by
 unfold wy;rw [xr,xQ,List.any_eq_true];constructor
 ·rintro ⟨⟨d,hd1,hd2⟩,h2⟩;obtain rfl:=hc.inj d (hL.sub d hd1) c hcc (by simpa [y9] using hd2);exact⟨hd1,h2⟩
 ·rintro ⟨h1,h2⟩;exact⟨⟨c,h1,by simp [y9]⟩,h2⟩
theorem V7{cs:List (List qc)}(hc:Heads cs):∀{n i:Nat} {L L':List (List qc)} {ps ps':List qc},Left cs L->vh n i cs L ps=some (L',ps')->∃qs,qs.length=n/\ps'=ps++qs/\(∀(j:Nat) q,qs[j]?=some q->qS (i+j) q∈L)/\(∀d,d∈L'↔d∈L/\∀(j:Nat) q,qs[j]?=some q->d≠qS (i+j) q)/\Left cs L'
 |0,i,L,L',ps,ps',hL,h=>by
  obtain⟨rfl,rfl⟩:=Prod.mk.inj (zsi h);exact⟨[],rfl,by simp,fun j q hj=>by simp at hj,fun d=>by simp,hL⟩
 |n+1,i,L,L',ps,ps',hL,h=>by
  unfold vh at h;cases hf:Ym i cs L with
  |none=>rw [hf] at h;cases h
  |some c=>
   rw [hf] at h;have hcc:=List.mem_of_find?_eq_some hf;obtain⟨hcL,hce⟩:=(Yk hc hL hcc).1 (List.find?_some hf);obtain⟨h1,h2⟩:=Zx hc hL hcL;obtain⟨qs,g1,g2,g3,g4,g5⟩:=V7 hc h2 h;refine⟨QH (hd c)::qs,by simp [g1],by rw [g2];simp,fun j q hj=>?_,fun d=>?_,g5⟩
   ·cases j with
    |zero=>
     obtain rfl:_=q:=by simpa using hj
     rw [Nat.add_zero,<-hce];exact hcL
    |succ j=>
     have:=g3 j q (by simpa using hj);rw [show i+(j+1)=i+1+j by omega];exact ((h1 _).1 this).1
   ·rw [g4,h1];constructor
    ·rintro ⟨⟨a1,a2⟩,a3⟩;refine⟨a1,fun j q hj=>?_⟩;cases j with
     |zero=>
      obtain rfl:_=q:=by simpa using hj
      rw [Nat.add_zero,<-hce];exact a2
     |succ j=>
      rw [show i+(j+1)=i+1+j by omega];exact a3 j q (by simpa using hj)
    ·rintro ⟨a1,a2⟩;refine⟨⟨a1,fun e=>?_⟩,fun j q hj=>?_⟩
     ·have:=a2 0 (QH (hd c)) rfl;rw [Nat.add_zero,<-hce] at this;exact this e
     ·have:=a2 (j+1) q (by simpa using hj);rw [show i+(j+1)=i+1+j by omega] at this;exact this
def we(p:Pic)(cs:List (List qc)):Bool:=match wY (qo p) cs with
 |none=>false
 |some L=>match vh p.fs.length 0 cs L [] with
  |none=>false
  |some (L',ps)=>L'.isEmpty&&yH p ps
theorem ClS.hds{g:Int}{D:List qc}{cs:List (List qc)}(hD:qK D)(h:ClS g D cs):Heads cs where
 inj c hc d hd' he:=by
  have hne:∀x∈cs,x≠[]:=fun x hx e=>by
   obtain⟨p,t,h1,_⟩:=ClS.first hD h x hx;rw [e] at h1;cases h1
  exact h.disj hD hc hd' (lT (hne c hc)) (by rw [he];exact lT (hne d hd'))
 ne x hx e:=by
  obtain⟨p,t,h1,_⟩:=ClS.first hD h x hx;rw [e] at h1;cases h1
theorem CE{p:Pic}{l:List qc}{n:Nat}{x:qc}:x∈(qF p l n).flatten↔∃a∈qF p l n,x∈a:=by
 rw [List.mem_flatten]
theorem XQ{p:Pic}{a:List qc}(h:a∈qo p):∃i,i<p.fs.length/\a=ww p i:=by
 obtain⟨i,hi⟩:=List.getElem?_of_mem h;have hl:=(zgs hi).1;rw [show (qo p).length=p.fs.length by simp [qo]] at hl;exact⟨i,hl,by rw [ww,hi];rfl⟩
theorem YL{p:Pic}{i:Nat}(h:i<p.fs.length):ww p i∈qo p:=zmg (ZF (p:=p) (i:=i) (by simpa [qo] using h))
theorem E8{p:Pic}(hv:qx p=true){D:List qc}(hD:qK D){cs:List (List qc)}(hcs:ClS p.gap D cs)(h:we p cs=true):∃l,yH p l=true/\D=qt (qF p l p.fs.length).flatten:=by
 have hc:=hcs.hds hD;have hL0:Left cs cs:=⟨fun _ h=>h,hcs.nodup hD⟩;unfold we at h;cases hF:wY (qo p) cs with
 |none=>rw [hF] at h;cases h
 |some L=>
  rw [hF] at h;simp only at h;obtain⟨f1,f2,f3⟩:=Ja hc (w9 hv) hL0 hF;cases hG:vh p.fs.length 0 cs L [] with
  |none=>rw [hG] at h;cases h
  |some r=>
   obtain⟨L',ps⟩:=r;rw [hG] at h;simp only [xr,List.isEmpty_iff] at h;obtain⟨qs,g1,g2,g3,g4,_⟩:=V7 hc f3 hG;rw [List.nil_append] at g2;subst g2;refine⟨ps,h.2,hD.ext (xi _) fun x=>?_⟩;rw [qP,CE];constructor
   ·intro hx;obtain⟨c,hcc,hxc⟩:=hcs.cover x hx;by_cases h1:c∈qo p
    ·obtain⟨i,hi,rfl⟩:=XQ h1;exact⟨_,zN.2 ⟨i,hi,.inl rfl⟩,hxc⟩
    ·have hcL:c∈L:=(f2 c).2 ⟨hcc,h1⟩;have:¬c∈L':=by rw [h.1];simp
     rw [g4] at this;have:∃(j:Nat) (q:qc),ps[j]?=some q/\c=qS (0+j) q:=Classical.byContradiction fun hn=>this ⟨hcL,fun j q hj e=>hn ⟨j,q,hj,e⟩⟩;obtain⟨j,q,hj,rfl⟩:=this;have hjl:=(zgs hj).1;refine⟨_,zN.2 ⟨j,oM,.inr rfl⟩,?_⟩;rw [xM hj];rw [Nat.zero_add] at hxc;exact hxc
   ·rintro ⟨a,ha,hxa⟩;obtain⟨i,hi,rfl|rfl⟩:=zN.1 ha
    ·exact hcs.mem _ (f1 _ (YL hi)) x hxa
    ·obtain⟨q,hq⟩:∃q,ps[i]?=some q:=⟨_,zge oM⟩;rw [xM hq] at hxa;have:=g3 i q hq;rw [Nat.zero_add] at this;exact hcs.mem _ (f3.sub _ this |> fun _=>hL0.sub _ ((f2 _).1 this).1) x hxa
theorem dV{cs:List (List qc)}(hc:Heads cs){l:List qc}(hl8:l.length<=8)(hpos:∀q∈l,0<=q.1/\0<=q.2)(hin:∀(j:Nat) q,l[j]?=some q->qS j q∈cs):∀{n i:Nat} {L:List (List qc)},i+n=l.length->Left cs L->
 (∀d∈L,∃(j:Nat) (q:qc),i<=j/\l[j]?=some q/\d=qS j q)->(∀(j:Nat) q,i<=j->l[j]?=some q->qS j q∈L)->vh n i cs L (l.take i)=some ([],l)
 |0,i,L,hi,hL,h1,_=>by
  have hn:L=[]:=by
   cases L with
   |nil=>rfl
   |cons d t=>
    obtain⟨j,q,hj,hq,_⟩:=h1 d (by simp);have:=(zgs hq).1;omega
  subst hn;rw [vh,List.take_of_length_le (by omega)]
 |n+1,i,L,hi,hL,h1,h2=>by
  obtain⟨q,hq⟩:∃q,l[i]?=some q:=⟨_,zge oM⟩;have hqp:=hpos q (zmg hq);have hmem:=h2 i q (Nat.le_refl _) hq;have hfind:Ym i cs L=some (qS i q):=by
   unfold Ym;cases hf:cs.find? (wy i L) with
   |none=>
    have:=List.find?_eq_none.1 hf (qS i q) (hin i q hq);exact absurd ((Yk hc hL (hin i q hq)).2 ⟨hmem,by rw [YY hqp]⟩) this
   |some c=>
    have hcc:=List.mem_of_find?_eq_some hf;obtain⟨g1,g2⟩:=(Yk hc hL hcc).1 (List.find?_some hf);obtain⟨j,q',hj,hq',rfl⟩:=h1 c g1;rw [YY (hpos q' (zmg hq'))] at g2;have hjl:=(zgs hq').1;have hij:j=i:=lL oM oM g2;subst hij;rw [hq] at hq';obtain rfl:=zsi hq';rfl
  rw [vh,hfind];simp only;obtain⟨k1,k2⟩:=Zx hc hL hmem;rw [YY hqp,show l.take i++[q]=l.take (i+1) by rw [List.take_add_one,hq];rfl];refine dV hc hl8 hpos hin oM k2 (fun d hd=>?_) (fun j q' hj hq'=>?_)
  ·obtain⟨hdL,hne⟩:=(k1 d).1 hd;obtain⟨j,q',hj,hq',rfl⟩:=h1 d hdL;refine⟨j,q',?_,hq',rfl⟩;by_cases e:j=i
   ·subst e;rw [hq] at hq';obtain rfl:=zsi hq';exact absurd rfl hne
   ·omega
  ·refine (k1 _).2 ⟨h2 j q' oM hq',fun e=>?_⟩;have hjl:=(zgs hq').1;have h3:QH (hd (qS j q'))=QH (hd (qS i q)):=by rw [e]
   rw [YY hqp,YY (hpos q' (zmg hq'))] at h3;subst h3;have:=lL oM oM e;omega
theorem KZ{g:Int}(hg:0<=g):∀{P:List (List qc)},(∀a∈P,a≠[])->P.Pairwise (fun a b=>¬xZ a b<=g)->P.Nodup:=fun {P} hne h=>by
 refine List.Pairwise.imp_of_mem (fun {a b} ha hb hab e=>hab ?_) h;subst e;obtain⟨x,hx⟩:=List.exists_mem_of_ne_nil a (hne a ha);refine (Xu (hne a ha) (hne a ha)).2 ⟨x,hx,x,hx,?_⟩;have:xz x x=0:=by simp only [xz];omega
 omega
theorem GF{p:Pic}{i:Nat}{q:qc}(h:zU p i q=true):0<=q.1/\0<=q.2:=by
 rw [zU,xr] at h;have h:=h.1;simp only [kg,xr,xQ] at h;exact h.1.1
theorem E9{p:Pic}(hv:qx p=true){D:List qc}{cs:List (List qc)}(hcs:ClS p.gap D cs)(hg1:jY p.gap (qo p))(hg2:jX p.gap (qo p)){l:List qc}(hl:yH p l=true)(hD:D=qt (qF p l p.fs.length).flatten):we p cs=true:=by
 have hDr:qK D:=by rw [hD];exact xi _
 have hl8:=(qL hv).1;have hgap:2<=p.gap/\p.gap<=6:=by
  have:=(qL hv).2.2.2;simp only [jV,xr,xQ] at this;exact this.1
 have hll:l.length=p.fs.length/\y4 p l=true:=by
  rw [yH,xr,xQ] at hl;exact hl
 have hleg:=(vr hv).1 hll.2;have hfit:∀(i:Nat) q,l[i]?=some q->zU p i q=true:=fun i q hq=>by
  have h1:=hleg.ch i q hq;have h2:=(zgs hq).1;rw [j9 (by omega)] at h1;exact (QG hv).1 h1
 have hpos:∀q∈l,0<=q.1/\0<=q.2:=fun q hq=>by
  obtain⟨i,hi⟩:=List.getElem?_of_mem hq;exact GF (hfit i q hi)
 obtain⟨hcl,hall⟩:=s5 hv hleg hll.1 hg1 hg2 (c:=cs) (by rw [<-hD];exact hcs);have hc:=hcs.hds hDr;have hnd:=hcs.nodup hDr;have hL0:Left cs cs:=⟨fun _ h=>h,hnd⟩;have hpl:(qo p).length=p.fs.length:=by simp [qo]
 have hpw:=Yu hfit hleg.ap hg2 p.fs.length oM oM;have hPne:∀a∈qF p l p.fs.length,a≠[]:=fun a ha=>by
  obtain⟨i,hi,rfl|rfl⟩:=zN.1 ha
  ·exact w9 hv _ (YL hi)
  ·exact Xp _ _
 have hPn:=KZ oM hPne hpw;have hid:∀a∈qF p l p.fs.length,a∈cs:=fun a ha=>by
  have h:=hall a ha;obtain⟨i,hi,rfl|rfl⟩:=zN.1 ha
  ·rwa [Ze (iU hv i)] at h
  ·rwa [Ze (CI _ _)] at h
 have hback:∀c∈cs,c∈qF p l p.fs.length:=fun c hcc=>by
  apply Classical.byContradiction;intro hn;have:=Zz (a:=c::qF p l p.fs.length) (b:=cs) (List.nodup_cons.2 ⟨hn,hPn⟩) fun x hx=>by
   rcases List.mem_cons.1 hx with rfl|hx
   ·exact hcc
   ·exact hid x hx
  rw [List.length_cons,vn] at this;omega
 have hsub:∀a∈qo p,a∈qF p l p.fs.length:=fun a ha=>by
  obtain⟨i,hi,rfl⟩:=XQ ha;exact zN.2 ⟨i,hi,.inl rfl⟩
 have hlb:∀(j:Nat) q,l[j]?=some q->qS j q∈qF p l p.fs.length:=fun j q hq=>by
  have hj:=(zgs hq).1;exact zN.2 ⟨j,by omega,.inr (by rw [xM hq])⟩
 have hdis:∀(j:Nat) q,l[j]?=some q->qS j q∉qo p:=fun j q hq hm=>by
  obtain⟨i,hi,he⟩:=XQ hm;have h:=Kw (hfit j q hq) (k:=i) oM;rw [<-he] at h;refine h ((Xu (Xp _ _) (Xp _ _)).2 ⟨qN q 1,Zh j q,qN q 1,Zh j q,?_⟩);have:xz (qN q 1) (qN q 1)=0:=by simp only [xz];omega
  omega
 have hon:(qo p).Nodup:=by
  refine KZ (g:=p.gap) oM (w9 hv) ?_;refine List.pairwise_iff_getElem.2 fun i k hi hk hik=>?_;exact hg2 i k _ _ hik (zge hi) (zge hk)
 obtain⟨L,hF⟩:=dW hc (w9 hv) hon hL0 fun a ha=>hid a (hsub a ha);obtain⟨_,f2,f3⟩:=Ja hc (w9 hv) hL0 hF;have hG:=dV hc (l:=l) oM hpos (fun j q hq=>hid _ (hlb j q hq)) (n:=p.fs.length) (i:=0) (L:=L) oM f3 (fun d hdL=>by
  obtain⟨h1,h2⟩:=(f2 d).1 hdL;obtain⟨i,hi,rfl|rfl⟩:=zN.1 (hback d h1)
  ·exact absurd (YL hi) h2
  ·obtain⟨q,hq⟩:∃q,l[i]?=some q:=⟨_,zge oM⟩;exact⟨i,q,Nat.zero_le _,hq,by rw [xM hq]⟩) (fun j q _ hq=>(f2 _).2 ⟨hid _ (hlb j q hq),hdis j q hq⟩)
 unfold we;rw [hF];simp only;rw [List.take_zero] at hG;rw [hG];simp [hl]
theorem A8{p:Pic}(hv:qx p=true){D:List qc}(hD:qK D){cs:List (List qc)}(hcs:ClS p.gap D cs)(hg1:jY p.gap (qo p))(hg2:jX p.gap (qo p)):we p cs=true↔∃l,yH p l=true/\D=qt (qF p l p.fs.length).flatten:=
 ⟨E8 hv hD hcs,fun⟨_,h1,h2⟩=>E9 hv hcs hg1 hg2 h1 h2⟩
theorem UA{p:Pic}(hv:qx p=true){i:Nat}(hi:i<p.fs.length):∀q∈ww p i,(0<=q.1/\q.1<p.w)/\0<=q.2/\q.2<p.h:=fun q hq=>by
 obtain⟨f,hf,he⟩:=List.mem_map.1 (YL hi);rw [<-he] at hq;have hok:=(qL hv).2.1 f hf;rw [QZ,xr] at hok;have h60:=(jm hok.1).2.1;have hb:=XD (f:=f) (lo:=(0,0)) (hi:=(p.w-1,p.h-1)) (fun r hr=>by
  have h1:=List.all_eq_true.1 hok.2 r hr;have h2:=h60 r hr;simp only [X5,xr,xQ] at h1;simp only [zO,xr,xQ] at h2;unfold xL;simp only;omega) q hq
 unfold xL at hb;simp only at hb;omega
theorem FR{p:Pic}(hv:qx p=true){l:List qc}(hl:yH p l=true):∀a∈qF p l p.fs.length,∀q∈a,(0<=q.1/\q.1<p.w)/\0<=q.2/\q.2<p.h:=fun a ha q hq=>by
 rw [yH,xr,xQ] at hl;have hleg:=(vr hv).1 hl.2;obtain⟨i,hi,rfl|rfl⟩:=zN.1 ha
 ·exact UA hv hi q hq
 ·obtain⟨r,hr⟩:∃r,l[i]?=some r:=⟨_,zge oM⟩;have h1:=hleg.ch i r hr;rw [j9 hi] at h1;have hf:=(QG hv).1 h1;rw [zU,xr] at hf;have h:=hf.1;simp only [kg,xr,xQ] at h;rw [xM hr] at hq;exact cU h.1.1 h.2.1 h.2.2 q hq
theorem iR{p:Pic}(hv:qx p=true){d:qI}(hd:Sz p.w.toNat p.h.toNat d){l:List qc}(hl:yH p l=true):zp d p.w.toNat p.h.toNat=qt (qF p l p.fs.length).flatten↔wp p (qF p l p.fs.length)=d:=by
 rw [<-oA (FR hv hl)];exact⟨fun h=>(oK hd (Zs _ _) h).symm,fun h=>by rw [h]⟩
end Go.Ag

namespace Go.Ab
section
variable{p:Par}{n:Nat}{E:qp}{S:Bx}{nk:Nat}{Q:Exit->qp->Bx->Nat->Prop}
end
def ke(y z:Int):List (Int × Int × Nat)->Option Nat
 |[]=>none
 |k::ks=>if y=k.1/\z=k.2.1 then some 0 else (ke y z ks).map (·+1)
theorem Z3.find{y z:Int}:∀{ks:List (Int × Int × Nat)} {cs:List C} {es:List (V × V × Nat)} (_:Z3 ks cs es) (j:Nat),vi [.int .i64 y,.int .i64 z] es j=some ((ke y z ks).map (·+j))
 |[],[],[],_,_=>rfl
 |k::ks,c::cs,e::es,h,j=>by
  obtain⟨rfl,h⟩:=h;simp only [vi,cK,and_self,if_true,ke];by_cases hk:y=k.1/\z=k.2.1
  ·rw [if_pos hk,show (y==k.1&&z==k.2.1)=true by simp [hk]];simp
  ·rw [if_neg hk,show (y==k.1&&z==k.2.1)=false by simp;simpa using hk];simp only;rw [h.find (j+1)];cases ke y z ks with
   |none=>rfl
   |some i=>simp;omega
 |[],[],_::_,h,_=>h.elim
 |[],_::_,_,h,_=>h.elim
 |_::_,[],_,h,_=>h.elim
 |_::_,_::_,[],h,_=>h.elim
theorem Z3.at:∀{ks:List (Int × Int × Nat)} {cs:List C} {es:List (V × V × Nat)} (_:Z3 ks cs es) (i:Nat) (k:Int × Int × Nat),ks[i]?=some k->∃c,cs[i]?=some c/\es[i]?=some (.agg [.int .i64 k.1,.int .i64 k.2.1],.one c,k.2.2)
 |_::_,c::_,e::_,h,0,k,hk=>by
  obtain rfl:_=k:=by simpa using hk
  exact⟨c,rfl,by rw [h.1];rfl⟩
 |_::ks,_::cs,_::es,h,i+1,k,hk=>by
  obtain⟨c,h1,h2⟩:=h.2.at i k (by simpa using hk);exact⟨c,by simpa using h1,by simpa using h2⟩
 |[],_,_,_,i,_,hk=>by simp at hk
 |_::_,[],_,h,_,_,_=>h.elim
 |_::_,_::_,[],h,_,_,_=>h.elim
theorem Z3.push:∀{ks:List (Int × Int × Nat)} {cs:List C} {es:List (V × V × Nat)} (_:Z3 ks cs es) (k:Int × Int × Nat) (c:C),Z3 (ks++[k]) (cs++[c]) (es++[(.agg [.int .i64 k.1,.int .i64 k.2.1],.one c,k.2.2)])
 |[],[],[],_,_,_=>⟨rfl,trivial⟩
 |_::_,_::_,_::_,h,k,c=>⟨h.1,h.2.push k c⟩
 |[],[],_::_,h,_,_=>h.elim
 |[],_::_,_,h,_,_=>h.elim
 |_::_,[],_,h,_,_=>h.elim
 |_::_,_::_,[],h,_,_=>h.elim
theorem Z3.erase:∀{ks:List (Int × Int × Nat)} {cs:List C} {es:List (V × V × Nat)} (_:Z3 ks cs es) (i:Nat),Z3 (ks.eraseIdx i) (cs.eraseIdx i) (es.eraseIdx i)
 |[],[],[],_,_=>trivial
 |_::_,_::_,_::_,h,0=>h.2
 |_::_,_::_,_::_,h,i+1=>⟨h.1,h.2.erase i⟩
 |[],[],_::_,h,_=>h.elim
 |[],_::_,_,h,_=>h.elim
 |_::_,[],_,h,_=>h.elim
 |_::_,_::_,[],h,_=>h.elim
theorem Z3.len:∀{ks:List (Int × Int × Nat)} {cs:List C} {es:List (V × V × Nat)} (_:Z3 ks cs es),es.length=ks.length
 |[],[],[],_=>rfl
 |_::_,_::_,_::_,h=>by simp [h.2.len]
 |[],[],_::_,h=>h.elim
 |[],_::_,_,h=>h.elim
 |_::_,[],_,h=>h.elim
 |_::_,_::_,[],h=>h.elim
section
variable{p:Par}{base rs:Nat}{Q:qp->Bx->Nat->Prop}{r:List SOper}{W:Wt}{A:List Nat}{E:qp}{S:Bx}{nk:Nat}{id:Nat}{dst:Option Nat}{aid:Option Nat}{ws:List Nat}{keep:Bool}
theorem RG(h:DPW p base rs Q r W A (xn E dst (.one (.om nk))) ((nk,.mp (.sm [] 0) [])::S) (nk+1)):DPW p base rs Q (⟨id,dst,.a .mkst,none,none,ws,keep⟩::r) W A E S nk:=.mk fun Z β H F c hS hE hC hA=>by
 simp only [qE,qv,if_true,xD];have hfr:H.get H.nx=none:=hS.wf.fresh (Nat.le_refl _);have hg:∀b',b'≠H.nx->(H.push (.st [] 0)).get b'=H.get b':=fun b' hb'=>by rw [Hp.get_push,if_neg hb']
 have hz:¬Z H.nx:=fun hz=>absurd (hS.z _ hz) oM;obtain⟨hS',hZ,hB⟩:=hS.newB (x:=.mp (.sm [] 0) []) (b:=H.nx) (N0:=0) (H':=H.push (.st [] 0)) rfl (fun β' hB hZ=>⟨hz,hS.lo,by simp,[],[],⟨[],by rw [Hp.get_push,if_pos rfl],trivial⟩,rfl,trivial⟩) hz (fun k N hk=>absurd (hS.bd k _ N hk) (by omega)) hS.lo (by simp) (by simp) (hS.wf.push _) hg;exact h.run Z _ _ _ c hS' ((hE.mono hZ hB).set dst ⟨_,rfl,_,_,xy _ _ _,rfl⟩) (hC.new hZ hB hg hfr) (hA.new (by simp) hg fun j hj hjA e=>by have:=(hA.2 j hj hjA).1;omega)
theorem SR.smb{Z:Nat->Prop}{β:qw}{H:Hp}(hS:SR p Z β H S nk){kb:Nat}{ks:List (Int × Int × Nat)}{clk:Nat}{vs:List DC}(hb:lk S kb=some (.mp (.sm ks clk) vs)){b N:Nat}(h1:β (kb,0)=some (.blk b N)):∃es cs,H.get b=some (.st es clk)/\Z3 ks cs es/\qg (RD Z H β) vs cs/\b<H.nx:=by
 obtain⟨s,hs,hbx⟩:=hS.box (kb,0) _ (xV hb rfl);rw [h1] at hs;obtain rfl:=zsi hs;obtain⟨g1,g2,g3,cs,rest,⟨es,g4,g5⟩,g6,g7⟩:=hbx;have g6:rest=[]:=g6;subst g6;rw [List.append_nil] at g5;exact⟨es,cs,g4,g5,g7,g3⟩
theorem aI{Z:Nat->Prop}{β:qw}{H:Hp}{ck:List C}{y z:Int}(h:qg (RD Z H β) [.f (.c (.int .i64 y)),.f (.c (.int .i64 z))] ck):ck=[.int .i64 y,.int .i64 z]:=by
 match ck,h with
 |[p,q],h=>
  obtain⟨h3,h4,_⟩:=h;cases h3;cases h4;rfl
theorem G8 {m k x:Opd} {kb clk:Nat} {y z:Int} {ks:List (Int × Int × Nat)} {vs:List DC} {d:DC} (hm:ro E m=some (.one (.om kb))) (hk:ro E k=some (.agg [.f (.c (.int .i64 y)),.f (.c (.int .i64 z))])) (hx:ro E x=some (.one d)) (hb:lk S kb=some (.mp (.sm ks clk) vs)) (hu:ke y z ks=none) (hW:jH S kb W=true)
 (h:DPW p base rs Q r W A (xn E dst .undef) (put kb (.mp (.sm (ks++[(y,z,clk)]) (clk+1)) (vs++[d])) S) nk):DPW p base rs Q (⟨id,dst,.e (.stupd m k x),none,aid,ws,keep⟩::r) W A E S nk:=.mk fun Z β H F c hS hE hC hA=>by
 obtain⟨cm,hcm,b,N,h1,rfl⟩:=xg hE hm;obtain⟨ck,hck,hrk⟩:=xg hE hk;obtain⟨cx,hcx,hrx⟩:=xg hE hx;obtain rfl:=aI hrk;obtain⟨es,cs,g4,g5,g7,g3⟩:=hS.smb hb h1;have hf:=g5.find (y:=y) (z:=z) 0;rw [hu] at hf;have heff:xq F H (.stupd m k x)=some (V.undef,H.add b (.st (es++[(.agg [.int .i64 y,.int .i64 z],.one cx,clk)]) (clk+1))):=by
  simp only [xq,hcm,hck,hcx,g4,QX,hf,Option.map_none]
 have hg:∀b',b'≠b->(H.add b (.st (es++[(.agg [.int .i64 y,.int .i64 z],.one cx,clk)]) (clk+1))).get b'=H.get b':=fun b' hb'=>Hp.get_add_ne _ _ hb';obtain⟨hS',hZ⟩:=hS.updK (x':=.mp (.sm (ks++[(y,z,clk)]) (clk+1)) (vs++[d])) (rest:=[]) (cs:=cs++[cx]) (H':=H.add b (.st (es++[(.agg [.int .i64 y,.int .i64 z],.one cx,clk)]) (clk+1))) hb rfl h1 (g7.append ⟨hrx,trivial⟩) hg rfl ⟨es++[(.agg [.int .i64 y,.int .i64 z],.one cx,clk)],by simp,by rw [List.append_nil];exact g5.push (y,z,clk) cx⟩ rfl;simp only [qE,qv,if_true,heff];have hC':=hC.mtupd hS hb hZ hg h1 hW;exact⟨hC'.watch ws,h.run Z β _ _ c hS' ((hE.mono hZ (xP.refl _)).set dst y6) hC' (hA.upd rfl hg h1)⟩
theorem HA {m k:Opd} {kb clk i:Nat} {y z:Int} {ks:List (Int × Int × Nat)} {vs:List DC} (hm:ro E m=some (.one (.om kb))) (hk:ro E k=some (.agg [.f (.c (.int .i64 y)),.f (.c (.int .i64 z))])) (hb:lk S kb=some (.mp (.sm ks clk) vs)) (hu:ke y z ks=some i) (hW:jH S kb W=true)
 (h:DPW p base rs Q r W A (xn E dst .undef) (put kb (.mp (.sm (ks.eraseIdx i) clk) (vs.eraseIdx i)) S) nk):DPW p base rs Q (⟨id,dst,.e (.stdel m k),none,aid,ws,keep⟩::r) W A E S nk:=.mk fun Z β H F c hS hE hC hA=>by
 obtain⟨cm,hcm,b,N,h1,rfl⟩:=xg hE hm;obtain⟨ck,hck,hrk⟩:=xg hE hk;obtain rfl:=aI hrk;obtain⟨es,cs,g4,g5,g7,g3⟩:=hS.smb hb h1;have hf:=g5.find (y:=y) (z:=z) 0;rw [hu] at hf;have heff:xq F H (.stdel m k)=some (V.undef,H.add b (.st (es.eraseIdx i) clk)):=by
  simp only [xq,hcm,hck,g4,QX,hf,Option.map_some,Nat.add_zero]
 have hg:∀b',b'≠b->(H.add b (.st (es.eraseIdx i) clk)).get b'=H.get b':=fun b' hb'=>Hp.get_add_ne _ _ hb';obtain⟨hS',hZ⟩:=hS.updK (x':=.mp (.sm (ks.eraseIdx i) clk) (vs.eraseIdx i)) (rest:=[]) (cs:=cs.eraseIdx i) (H':=H.add b (.st (es.eraseIdx i) clk)) hb rfl h1 (g7.erase i) hg rfl ⟨es.eraseIdx i,by simp,by rw [List.append_nil];exact g5.erase i⟩ rfl;simp only [qE,qv,if_true,heff];have hC':=hC.mtupd hS hb hZ hg h1 hW;exact⟨hC'.watch ws,h.run Z β _ _ c hS' ((hE.mono hZ (xP.refl _)).set dst y6) hC' (hA.upd rfl hg h1)⟩
def okD(ok:Bool)(d:DC)(there:Bool):DV:=if ok then .tup [.one d,.bool there] else .one d
theorem G9 {m:Opd} {kb clk:Nat} {ks:List (Int × Int × Nat)} {vs:List DC} (hm:ro E m=some (.one (.om kb))) (hb:lk S kb=some (.mp (.sm ks clk) vs))
 (h:DPW p base rs Q r W A (xn E dst (.int ks.length)) S nk):DPW p base rs Q (⟨id,dst,.e (.stlen m),none,aid,ws,keep⟩::r) W A E S nk:=.mk fun Z β H F c hS hE hC hA=>by
 obtain⟨cm,hcm,b,N,h1,rfl⟩:=xg hE hm;obtain⟨es,cs,g4,g5,g7,g3⟩:=hS.smb hb h1;have heff:xq F H (.stlen m)=some (.one (.int .i64 ks.length),H):=by
  simp only [xq,hcm,g4,g5.len]
 simp only [qE,qv,if_true,heff];exact⟨hC.watch ws,h.run Z β H _ c hS (hE.set dst ⟨_,rfl,.c _ rfl⟩) hC hA⟩
theorem DJ {zv:C} {ok:Bool} {m k:Opd} {kb clk i:Nat} {y z:Int} {ks:List (Int × Int × Nat)} {vs:List DC} {d:DC} (hm:ro E m=some (.one (.om kb))) (hk:ro E k=some (.agg [.f (.c (.int .i64 y)),.f (.c (.int .i64 z))])) (hb:lk S kb=some (.mp (.sm ks clk) vs)) (hu:ke y z ks=some i) (hi:i<ks.length) (hd:vs[i]?=some d)
 (h:DPW p base rs Q r W A (xn E dst (okD ok d true)) S nk):DPW p base rs Q (⟨id,dst,.e (.stlook (.one zv) ok m k),none,aid,ws,keep⟩::r) W A E S nk:=.mk fun Z β H F c hS hE hC hA=>by
 obtain⟨cm,hcm,b,N,h1,rfl⟩:=xg hE hm;obtain⟨ck,hck,hrk⟩:=xg hE hk;obtain rfl:=aI hrk;obtain⟨es,cs,g4,g5,g7,g3⟩:=hS.smb hb h1;have hf:=g5.find (y:=y) (z:=z) 0;rw [hu] at hf;obtain⟨cv,e1,e2⟩:=g5.at i _ (zge hi);obtain⟨cv',e3,hr⟩:=g7.at i d hd;rw [e1] at e3;obtain rfl:=zsi e3;have heff:xq F H (.stlook (.one zv) ok m k)=some (kG ok (.one cv) true,H):=by
  simp only [xq,hcm,hck,g4,QX,hf,Option.map_some,Nat.add_zero,e2]
 simp only [qE,qv,if_true,heff];refine⟨hC.watch ws,h.run Z β H _ c hS (hE.set dst ?_) hC hA⟩;cases ok
 ·exact⟨cv,rfl,hr⟩
 ·exact⟨_,rfl,⟨cv,rfl,hr⟩,⟨_,rfl,.c _ rfl⟩,trivial⟩
theorem uE {zv:C} {ok:Bool} {m k:Opd} {kb clk:Nat} {y z:Int} {ks:List (Int × Int × Nat)} {vs:List DC} {d:FD} (hm:ro E m=some (.one (.om kb))) (hk:ro E k=some (.agg [.f (.c (.int .i64 y)),.f (.c (.int .i64 z))])) (hb:lk S kb=some (.mp (.sm ks clk) vs)) (hu:ke y z ks=none) (hz:∀Z H,RF Z H d zv)
 (h:DPW p base rs Q r W A (xn E dst (okD ok (.f d) false)) S nk):DPW p base rs Q (⟨id,dst,.e (.stlook (.one zv) ok m k),none,aid,ws,keep⟩::r) W A E S nk:=.mk fun Z β H F c hS hE hC hA=>by
 obtain⟨cm,hcm,b,N,h1,rfl⟩:=xg hE hm;obtain⟨ck,hck,hrk⟩:=xg hE hk;obtain rfl:=aI hrk;obtain⟨es,cs,g4,g5,g7,g3⟩:=hS.smb hb h1;have hf:=g5.find (y:=y) (z:=z) 0;rw [hu] at hf;have heff:xq F H (.stlook (.one zv) ok m k)=some (kG ok (.one zv) false,H):=by
  simp only [xq,hcm,hck,g4,QX,hf,Option.map_none]
 simp only [qE,qv,if_true,heff];refine⟨hC.watch ws,h.run Z β H _ c hS (hE.set dst ?_) hC hA⟩;cases ok
 ·exact⟨zv,rfl,hz Z H⟩
 ·exact⟨_,rfl,⟨zv,rfl,hz Z H⟩,⟨_,rfl,.c _ rfl⟩,trivial⟩
end
section
variable{p:Par}{base rs n:Nat}{Q:qp->Bx->Nat->Prop}{r:List SOper}{W:Wt}{A:List Nat}{E:qp}{S:Bx}{nk:Nat}{id:Nat}{dst:Option Nat}{aid:Option Nat}{ws:List Nat}{keep:Bool}
theorem qaF{Z:Nat->Prop}{β:qw}{H:Hp}(hS:SR p Z β H S nk){k:Nat}(hk:lk S k=some (.data [])):SR p Z β H (put k (.cells []) S) nk:=by
 have hl:∀j,lk (put k (.cells []) S) j=if j=k then some (.cells []) else lk S j:=fun j=>by
  rw [yF];split
  ·rename_i e;subst e;rw [hk];rfl
  ·rfl
 refine { hS with box:=fun κ x hx=>?_,inj:=fun κ κ' x x' b N N' h1 h2=>?_ }
 ·obtain⟨j,i⟩:=κ;by_cases hj:j=k
  ·subst hj;cases i with
   |zero=>
    simp only [qR,hl,if_true] at hx;obtain rfl:=zsi hx;obtain⟨s,hs,hb⟩:=hS.box (j,0) (.data []) (xV hk rfl);refine⟨s,hs,?_⟩;cases s with
    |nil=>rfl
    |blk b N=>
     obtain⟨g1,g2,g3,cs,rest,g4,g5,g6⟩:=hb;refine⟨g1,g2,g3,cs,rest,g4,g5,?_⟩;have g6:qg (RF Z H) [] cs:=g6;cases cs with
     |nil=>exact (trivial:qg (RD Z H β) [] [])
     |cons _ _=>exact g6.elim
   |succ i=>
    simp only [qR,hl,if_true] at hx;cases hx
  ·have:qR (put k (.cells []) S) (j,i)=qR S (j,i):=by
    cases i<;>simp only [qR,hl,if_neg hj]
   rw [this] at hx;exact hS.box _ _ hx
 ·have g:∀i z,lk (put k (.cells []) S) i=some z->∃z',lk S i=some z':=fun i z h=>by
   rw [hl] at h;split at h
   ·rename_i e;subst e;exact⟨_,hk⟩
   ·exact⟨_,h⟩
  obtain⟨z1,e1⟩:=g _ _ h1;obtain⟨z2,e2⟩:=g _ _ h2;exact hS.inj κ κ' z1 z2 b N N' e1 e2
theorem qam{s:SC}{Q:Exit->qp->Bx->Nat->Prop}(k:Nat)(hk:lk S k=some (.data []))(h:DPS p n s Q E (put k (.cells []) S) nk):DPS p n s Q E S nk:=.mk fun Z β H F hS hE=>h.run Z β H F (qaF hS hk) hE
theorem KI {bytes:Nat} {s v:Opd} {k k' n m:Nat} {l q:List DC} (hs:ro E s=some (.one (.own k 0 n 1))) (hv:ro E v=some (.one (.own k' 0 m 1))) (hk:lk S k=some (.cells l)) (hk':lk S k'=some (.cells q)) (hn:l.length=n) (hm:q.length=m) (hm0:0<m) (hbb:(n+m)*bytes<=140737488355328) (h62:n+m<4611686018427387904) (hw:YE S k W=true)
 (h:DPW p base rs Q r W A (xn E dst (.one (.own nk 0 (n+m) 1))) ((nk,.cells (l++q))::zE k S) (nk+1)):DPW p base rs Q (⟨id,dst,.e (.append 1 bytes s v),none,aid,ws,keep⟩::r) W A E S nk:=.mk fun Z β H F c hS hE hC hA=>by
 obtain⟨cs,hcs,hr⟩:=xg hE hs;obtain⟨cv,hcv,hrv⟩:=xg hE hv;obtain⟨news,hn1,hn2,hn3⟩:∃news,zG H 1 (.one cv)=some (m,news)/\qg (RD Z H β) q news/\news.length=m:=by
  obtain⟨sk',hsk',hbx'⟩:=hS.box (k',0) _ (xV hk' rfl);rcases hrv with⟨hnil,rfl,_,rfl⟩|⟨b,N,cap,ex,hb,rfl,hcap,hcN⟩
  ·omega
  ·rw [hb] at hsk';obtain rfl:=zsi hsk';obtain⟨_,_,_,cells,rest,hrow,_,hrel⟩:=hbx';have hrel:qg (RD Z H β) q cells:=hrel;have hrow:xX H b (cells++rest):=hrow;have hlen:=hrel.len;have hld:=yw hrow.2 (m:=m*1) (by rw [List.length_append];omega);refine⟨cells,?_,hrel,oM⟩;simp only [zG,if_true,hld,Option.map_some];rw [List.take_append_of_le_length (by omega),List.take_of_length_le (by omega)]
 obtain⟨sk,hsk,hbx⟩:=hS.box (k,0) _ (xV hk rfl);simp only [qE,qv,if_true,xq,hcs,hcv,hn1];have hfin:∀(H':Hp) (b:Nat) (ys rest:List C) (cap:Nat) (ex:Bool),qg (RD Z H β) (l++q) ys->((∃N,β (k,0)=some (.blk b N))\/(b=H.nx))->b<H'.nx->H.nx<=H'.nx->WF H'->(∀b',b'≠b->(∀N,β (k,0)≠some (.blk b' N))->H'.get b'=H.get b')->xX H' b (ys++rest)->n+m<=cap->cap*1<=(ys++rest).length->
  zA ws c H'/\qE p.P p.G base (fun F' H'=>∃E' S' nk' Z' β',SR p Z' β' H' S' nk'/\ER Z' β' H' E' F'/\Q E' S' nk') r c (xI F dst (.one (.slc b 0 (n+m) cap 1 ex))) H':=by
  intro H' b ys rest cap ex hys hb hbl hnx hwf hg hrow hcap hcl;have hb':(∃N,β (k,0)=some (.blk b N))\/H.nx<=b:=hb.imp (fun h=>h) fun e=>by omega
  obtain⟨hS',hZ,hB⟩:=hS.replace (x':=.cells (l++q)) hk rfl hys (hb.imp (fun h=>h) fun e=>by subst e;exact⟨fun hz=>absurd (hS.z _ hz) oM,fun k N hk=>absurd (hS.bd k _ N hk) oM,hS.lo⟩) hbl hnx hwf hg rfl hrow;have hC':=hC.repl hS hk hZ hB hg hb' hw;exact⟨hC'.watch ws,h.run Z _ H' _ c hS' ((hE.mono hZ hB).set dst ⟨_,rfl,.inr ⟨b,_,cap,ex,xy _ _ _,rfl,hcap,oM⟩⟩) hC' (hA.repl hnx hg hb')⟩
 rcases hr with⟨hnil,rfl,_,rfl⟩|⟨b,N,cap,ex,hb,rfl,hcap,hcN⟩
 ·have hl0:l=[]:=List.eq_nil_of_length_eq_zero hn;subst hl0;simp only [zq];rw [Nat.zero_add] at hbb h62;rw [if_neg (by omega),if_pos ⟨hbb,h62⟩];have:=hfin (H.push (.row news.length news .lf true)) H.nx news [] m false (by simpa using hn2) (.inr rfl) (by simp) (by simp) (hS.wf.push _) (fun b' hb' _=>by rw [Hp.get_push,if_neg hb']) (by rw [List.append_nil];exact xX.new news) (by omega) (by simp [hn3]);rw [Nat.zero_add] at this;exact this
 ·rw [hb] at hsk;obtain rfl:=zsi hsk;obtain⟨hz,hlo,hlt,cells,rest,hrow,hN,hrel⟩:=hbx;have hN:(cells++rest).length=_:=hN;have hrel:qg (RD Z H β) l cells:=hrel;have hlen:l.length=cells.length:=hrel.len;have hrow:xX H b (cells++rest):=hrow;simp only [zq];rw [if_neg (by simp)];by_cases hfit:n+m<=cap
  ·rw [if_pos hfit,Nat.zero_add];have hsplit:cells++rest=cells++rest.take m++rest.drop m:=by rw [List.append_assoc,List.take_append_drop]
   have hrl:rest.length=N-n:=by rw [List.length_append] at hN;omega
   obtain⟨H',e1,e2,e3,e4⟩:=hrow.stores (cs:=news) (i:=n*1) (by rw [hN,hn3];omega);rw [e1];have hset:yO (cells++rest) (n*1) news=(cells++news)++rest.drop m:=by
    conv=>lhs;rw [hsplit,List.append_assoc]
    have:=vb cells (rest.take m) news (rest.drop m) (by rw [hn3,List.length_take];omega);rw [show cells.length=n*1 by omega] at this;rw [this,List.append_assoc]
   rw [hset] at e2;refine hfin H' b (cells++news) _ cap ex (hrel.append hn2) (.inl ⟨N,hb⟩) oM oM (fun b' bk hb'=>?_) (fun b' hb' _=>e3 b' hb') e2 hfit ?_
   ·rw [e4];by_cases e:b'=b
    ·omega
    ·rw [e3 b' e] at hb';exact hS.wf b' bk hb'
   ·have h1:=congrArg List.length hset;rw [wZ] at h1;omega
  ·rw [if_neg hfit,if_pos ⟨hbb,h62⟩];have hld:H.loads b 0 (n*1)=some cells:=by
    have:=yw hrow.2 (m:=n*1) oM;rw [this,List.take_append_of_le_length (by omega),List.take_of_length_le (by omega)]
   rw [hld];have hlen2:(cells++news).length=(n+m)*1:=by
    rw [List.length_append,hn3];omega
   have hrow':=xX.new (H:=H) (cells++news);cases ex with
   |true=>
    simp only [if_true];exact hfin _ H.nx (cells++news) [] (n+m) false (hrel.append hn2) (.inr rfl) (by simp) (by simp) (hS.wf.push _) (fun b' hb' _=>by rw [Hp.get_push,if_neg hb']) (by rw [List.append_nil];exact hrow') (Nat.le_refl _) (by rw [List.append_nil,hlen2];exact Nat.le_refl _)
   |false=>
    simp only [Bool.false_eq_true,if_false,hrow.mut,if_true];refine hfin _ H.nx (cells++news) [] (n+m) false (hrel.append hn2) (.inr rfl) (by simp) (by simp) (fun b' bk hb'=>?_) (fun b' hb' hne=>?_) (by rw [List.append_nil];exact hrow'.same (by rw [Hp.get_del,if_neg (by omega)])) (Nat.le_refl _) (by rw [List.append_nil,hlen2];exact Nat.le_refl _)
    ·rw [Hp.get_del] at hb';split at hb'
     ·cases hb'
     ·exact hS.wf.push _ b' bk hb'
    ·rw [Hp.get_del,if_neg (fun (e:b'=b)=>hne N (by rw [e];exact hb)),Hp.get_push,if_neg hb']
end
def CY(KS:List (Nat × List FD)):List (Nat × Nat)->Option (List (List FD))
 |[]=>some []
 |(j,o)::r=>match lk KS j,CY KS r with
  |some l,some q=>some (l.drop o::q)
  |_,_=>none
def CZ(KS:List (Nat × List FD)):DC->DC
 |.ptr j o=>match lk KS j with
  |some l=>.fptr (l.drop o)
  |none=>.ptr j o
 |.fn f caps=>match CY KS caps with
  |some ls=>.fz f ls
  |none=>.fn f caps
 |d=>d
def LR(KS:List (Nat × List FD)):List DC->List DC
 |[]=>[]
 |d::l=>CZ KS d::LR KS l
def faV(KS:List (Nat × List FD)):DV->DV
 |.one d=>.one (CZ KS d)
 |d=>d
def UN(KS:List (Nat × List FD)):Bk->Bk
 |.cells m=>.cells (LR KS m)
 |x=>x
def YA(KS:List (Nat × List FD)):Bx->Bx
 |[]=>[]
 |(j,x)::S=>match lk KS j with
  |some _=>YA KS S
  |none=>(j,UN KS x)::YA KS S
theorem Kv(KS:List (Nat × List FD))(n:Nat):∀S:Bx,lk (YA KS S) n=(match lk KS n with
 |some _=>none
 |none=>(lk S n).map (UN KS))
 |[]=>by simp only [YA,lk];cases lk KS n<;>rfl
 |(j,x)::S=>by
  have ih:=Kv KS n S;simp only [YA];cases hj:lk KS j with
  |some l=>
   simp only;rw [ih];cases hn:lk KS n with
   |some _=>rfl
   |none=>
    simp only;rw [qT,if_neg (fun e=>by subst e;rw [hj] at hn;cases hn)]
  |none=>
   simp only;rw [qT,qT];by_cases e:j=n
   ·subst e;rw [if_pos rfl,if_pos rfl,hj];rfl
   ·rw [if_neg e,if_neg e,ih]
section
variable{p:Par}{base rs n:Nat}{W:Wt}{A:List Nat}{E:qp}{S:Bx}{nk:Nat}
theorem O1{Z:Nat->Prop}{β:qw}{H:Hp}{F:T V}(hS:SR p Z β H S nk)(hE:ER Z β H E F){KS:List (Nat × List FD)}(hK:∀k fs,lk KS k=some fs->lk S k=some (.cells (fs.map .f))):
 ∃Z',SR p Z' β H (YA KS S) nk/\ER Z' β H (yB (faV KS) E) F:=by
 have hZ:xo Z H (fun b=>Z b\/∃k fs N,lk KS k=some fs/\β (k,0)=some (.blk b N)) H:=fun b hb=>⟨.inl hb,fun _ _ h=>h⟩;have hP:∀{j o b N:Nat} {l:List FD},lk KS j=some l->β (j,0)=some (.blk b N)->∃cs,H.loads b o (l.drop o).length=some cs/\qg (RF (fun b=>Z b\/∃k fs N,lk KS k=some fs/\β (k,0)=some (.blk b N)) H) (l.drop o) cs:=by
  intro j o b N l hl hb;obtain⟨s0,hs0,hb0⟩:=hS.box (j,0) _ (xV (hK j l hl) rfl);rw [hb] at hs0;obtain rfl:=zsi hs0;obtain⟨_,_,_,cs,rest,hrow,_,hrel⟩:=hb0;have hrel:qg (RD Z H β) (l.map .f) cs:=hrel;have hrow:xX H b (cs++rest):=hrow;have ha:=(nX hrel).mono fun _ _=>RF.mono hZ;have hlen:l.length=cs.length:=ha.len;refine⟨cs.drop o,?_,ha.drop o⟩;by_cases ho:o<=cs.length
  ·have h1:=QW (m:=o) (yw hrow.2 (m:=cs.length) (by rw [List.length_append];omega)) (by omega);rw [List.length_drop,hlen];rw [Nat.zero_add,List.take_append_of_le_length (Nat.le_refl _),List.take_length] at h1;exact h1
  ·rw [List.drop_of_length_le (by omega),List.drop_of_length_le (by omega)];rfl
 have hF:∀{caps caps':List (Nat × Nat)} {ls:List (List FD)},jW β caps caps'->CY KS caps=some ls->fH (fun b=>Z b\/∃k fs N,lk KS k=some fs/\β (k,0)=some (.blk b N)) H ls caps':=by
  intro caps;induction caps with
  |nil=>
   intro caps' ls h1 h2;cases caps' with
   |nil=>obtain rfl:=zsi h2;trivial
   |cons _ _=>exact h1.elim
  |cons jo r ih=>
   obtain⟨j,o⟩:=jo;intro caps' ls h1 h2;cases caps' with
   |nil=>exact h1.elim
   |cons bo r'=>
    obtain⟨b,o'⟩:=bo;obtain⟨rfl,⟨N,hb⟩,h3⟩:=h1;simp only [CY] at h2;split at h2
    ·rename_i l q e1 e2;obtain rfl:=zsi h2;obtain⟨cs,c1,c2⟩:=hP (o:=o') e1 hb;exact⟨⟨.inr ⟨j,l,N,e1,hb⟩,cs,c1,c2⟩,ih h3 e2⟩
    ·cases h2
 have hC:∀d c,RD Z H β d c->RD (fun b=>Z b\/∃k fs N,lk KS k=some fs/\β (k,0)=some (.blk b N)) H β (CZ KS d) c:=fun d c hr=>by
  cases d with
  |ptr j o=>
   simp only [CZ];cases hj:lk KS j with
   |none=>exact hr
   |some l=>
    obtain⟨b,N,h1,rfl⟩:=hr;obtain⟨cs,c1,c2⟩:=hP (o:=o) hj h1;exact⟨b,o,cs,rfl,.inr ⟨j,l,N,hj,h1⟩,c1,c2⟩
  |fn f caps=>
   simp only [CZ];cases hj:CY KS caps with
   |none=>exact RD.mono (d:=.fn f caps) hZ (xP.refl β) hr
   |some ls=>
    obtain⟨caps',rfl,h2⟩:=hr;exact⟨caps',rfl,hF h2 hj⟩
  |own j o n e=>exact RD.mono (d:=.own j o n e) hZ (xP.refl β) hr
  |trow j i o n=>exact RD.mono (d:=.trow j i o n) hZ (xP.refl β) hr
  |f d=>exact RD.mono (d:=.f d) hZ (xP.refl β) hr
  |g b o=>exact hr
  |tptr j i o=>exact hr
  |fptr q=>exact RD.mono (d:=.fptr q) hZ (xP.refl β) hr
  |any=>trivial
  |om j=>exact hr
  |yl j=>exact hr
  |fz f ls=>exact RD.mono (d:=.fz f ls) hZ (xP.refl β) hr
 have hCL:∀{m:List DC} {cs:List C},qg (RD Z H β) m cs->qg (RD (fun b=>Z b\/∃k fs N,lk KS k=some fs/\β (k,0)=some (.blk b N)) H β) (LR KS m) cs:=by
  intro m;induction m with
  |nil=>intro cs h;cases cs with
   |nil=>trivial
   |cons _ _=>exact h.elim
  |cons d m ih=>intro cs h;cases cs with
   |nil=>exact h.elim
   |cons c cs=>exact⟨hC d c h.1,ih h.2⟩
 have hlk2:∀{κ:zF} {y:Bk},qR (YA KS S) κ=some y->lk KS κ.1=none/\∃x,qR S κ=some x/\(y=x\/∃m,x=.cells m/\y=.cells (LR KS m)):=by
  intro κ y hy;obtain⟨j,i⟩:=κ;obtain⟨z,hz⟩:=yG hy;rw [Kv] at hz;cases hj:lk KS j with
  |some l=>simp only [hj] at hz;cases hz
  |none=>
   refine⟨rfl,?_⟩;simp only [hj] at hz;cases hl:lk S j with
   |none=>rw [hl] at hz;cases hz
   |some x=>
    have he:lk (YA KS S) j=some (UN KS x):=by rw [Kv];simp only [hj,hl,Option.map_some]
    cases i with
    |zero=>
     simp only [qR,he] at hy;simp only [qR,hl];cases x with
     |cells m=>exact⟨_,rfl,.inr ⟨m,rfl,(zsi hy).symm⟩⟩
     |data m=>exact⟨_,rfl,.inl (zsi hy).symm⟩
     |tree rows=>exact⟨_,rfl,.inl (zsi hy).symm⟩
     |mp ks m=>exact⟨_,rfl,.inl (zsi hy).symm⟩
     |mt es=>exact⟨_,rfl,.inl (zsi hy).symm⟩
    |succ i=>
     simp only [qR,he] at hy;simp only [qR,hl];cases x with
     |cells m=>cases hy
     |data m=>cases hy
     |tree rows=>exact⟨y,hy,.inl rfl⟩
     |mp ks m=>cases hy
     |mt es=>exact⟨y,hy,.inl rfl⟩
 have hf:∀i z,lk (YA KS S) i=some z->∃z',lk S i=some z':=fun i z hz=>by
  rw [Kv] at hz;cases hj:lk KS i with
  |some l=>simp only [hj] at hz;cases hz
  |none=>
   simp only [hj] at hz;cases e:lk S i with
   |none=>rw [e] at hz;cases hz
   |some z=>exact⟨z,rfl⟩
 refine⟨fun b=>Z b\/∃k fs N,lk KS k=some fs/\β (k,0)=some (.blk b N),⟨hS.wf,hS.lo,fun b hb=>hb.elim (hS.z b) fun⟨k,fs,N,_,h⟩=>hS.bd _ b N h,fun b hb=>?_,fun b hb=>.inl (hS.zz b hb),fun b bk hb=>⟨.inl (hS.glob b bk hb).1,(hS.glob b bk hb).2⟩,hS.nk,hS.bd,fun j y hj=>?_,fun j j' y y' b N N' hj hj' h1 h2=>?_,hS.blo,hS.anch,hS.ancn⟩,fun n d hd=>?_⟩
 ·rcases hb with hb|⟨k,fs,N,_,hb⟩
  ·exact hS.zlo b hb
  ·exact .inr (hS.blo _ b N hb)
 ·obtain⟨hne,x,hx,hxy⟩:=hlk2 hj;obtain⟨s,hs,hbx⟩:=hS.box j x hx;obtain⟨w,hw⟩:=yG hx;refine⟨s,hs,?_⟩;cases s with
  |nil=>
   rcases hxy with rfl|⟨m,rfl,rfl⟩
   ·exact hbx
   ·have hbx:m.length=0:=hbx;cases m with
    |nil=>rfl
    |cons _ _=>simp at hbx
  |blk b N=>
   obtain⟨h1,h2,h3,cs,rest,h4,h5,h6⟩:=hbx;have hnz:¬(Z b\/∃k fs N,lk KS k=some fs/\β (k,0)=some (.blk b N)):=fun h=>h.elim h1 fun⟨k,fs,M,hk,hM⟩=>by
    have:=hS.inj j (k,0) w _ b N M hw (hK k fs hk) hs hM;subst this;rw [hk] at hne;cases hne
   rcases hxy with rfl|⟨m,rfl,rfl⟩
   ·exact⟨hnz,h2,h3,cs,rest,h4,h5,Bk.rel_mono hZ (xP.refl β) h6⟩
   ·exact⟨hnz,h2,h3,cs,rest,h4,h5,hCL h6⟩
 ·obtain⟨z1,e1⟩:=hf _ _ hj;obtain⟨z2,e2⟩:=hf _ _ hj';exact hS.inj j j' z1 z2 b N N' e1 e2 h1 h2
 ·rw [wL] at hd;cases hl:lk E n with
  |none=>rw [hl] at hd;cases hd
  |some y=>
   rw [hl] at hd;obtain rfl:=zsi hd;obtain⟨v,hv,hr⟩:=hE n y hl;refine⟨v,hv,?_⟩;cases y with
   |one d=>obtain⟨c,rfl,hr⟩:=hr;exact⟨c,rfl,hC d c hr⟩
   |agg m=>exact xG.mono (d:=.agg m) hZ (xP.refl β) hr
   |tup m=>exact xG.mono (d:=.tup m) hZ (xP.refl β) hr
def IM(S:Bx):List (Nat × List FD)->Prop
 |[]=>True
 |(k,fs)::r=>lk S k=some (.cells (fs.map .f))/\IM S r
theorem r9{S:Bx}:∀{KS:List (Nat × List FD)},IM S KS->∀k fs,lk KS k=some fs->lk S k=some (.cells (fs.map .f))
 |[],_,_,_,h=>by cases h
 |(j,l)::r,⟨h1,h2⟩,k,fs,h=>by
  rw [qT] at h;split at h
  ·rename_i e;subst e;obtain rfl:=zsi h;exact h1
  ·exact r9 h2 k fs h
theorem KJ{Q:Exit->qp->Bx->Nat->Prop}{s:SC}(KS:List (Nat × List FD))(hK:IM S KS)(h:DPS p n s Q (yB (faV KS) E) (YA KS S) nk):DPS p n s Q E S nk:=.mk fun Z β H F hS hE=>by
 obtain⟨Z',hS',hE'⟩:=O1 hS hE (r9 hK);exact h.run Z' β H F hS' hE'
def fzA(ls:List (List FD)):List DV:=ls.map fun l=>.one (.fptr l)
theorem CP{Z:Nat->Prop}{H:Hp}{β:qw}:∀{ls:List (List FD)} {caps:List (Nat × Nat)},fH Z H ls caps->qg (xG Z H β) (fzA ls) (caps.map fun p=>V.one (.ptr p.1 p.2))
 |[],[],_=>trivial
 |_::_,p::_,⟨⟨h1,cs,h2,h3⟩,h4⟩=>⟨⟨_,rfl,p.1,p.2,cs,rfl,h1,h2,h3⟩,CP h4⟩
 |[],_::_,h=>h.elim
 |_::_,[],h=>h.elim
section
variable{p:Par}{base rs:Nat}{Q:qp->Bx->Nat->Prop}{r:List SOper}{W:Wt}{A:List Nat}{E:qp}{S:Bx}{nk:Nat}{id:Nat}{dst:Option Nat}{aid:Option Nat}{ws:List Nat}{keep:Bool}
theorem yK{x:Opd}{f:FuncId}{ls:List (List FD)}{args:List Opd}{ds:List DV}{R:DV->Prop}(hx:ro E x=some (.one (.fz f ls)))(hfn:qB p.P f=true)(hvs:Zc E args=some ds)(hf:qW WJ ds=true)(hc:yg p.P p.G p.GH f (ds++fzA ls) R)(h:∀d,R d->DPW p base rs Q r W A (xn E dst d) S nk):DPW p base rs Q (⟨id,dst,.cv x args,none,aid,ws,keep⟩::r) W A E S nk:=.mk fun Z β H F c hS hE hC hA=>by
 obtain⟨cx,hcx,caps,rfl,hcaps⟩:=xg hE hx;simp only [qE,qv,if_true,hcx];refine⟨hfn,?_⟩;refine (hc H Z _ hS.wf hS.z (fun b bk hb=>hS.glob b bk (.inl hb)) ((KB hf (kS hE hvs)).append (CP hcaps))).mono ?_;rintro v H' ⟨hw,hnx,hg,d,hr,hR⟩;have hz:∀b,(Z b\/(H.nx<=b/\b<H'.nx))↔Z b\/(H.nx<=b/\(Z b\/(H.nx<=b/\b<H'.nx))):=fun b=>⟨fun h=>h.elim .inl fun h=>.inr ⟨h.1,.inr h⟩,fun h=>h.elim .inl fun h=>h.2⟩;obtain⟨hS',hZ⟩:=hS.grow hz (fun b h=>h.elim (fun h=>Nat.lt_of_lt_of_le (hS.z b h) hnx) fun h=>h.2) hw hnx hg;have hC':=hC.same hZ (xP.refl β) hg hS.wf;exact⟨hC'.watch ws,(h d hR).run _ β H' _ c hS' ((hE.mono hZ (xP.refl _)).set dst (hr.mono (xo.refl _ _) (B6 β))) hC' (hA.grow hz hnx hg)⟩
end
end
end Go.Ab

namespace Go.Ag
open Go.Ab Go.Proofs
theorem kC{f:Ft}(hv:x8 f=true):DK 31 [.one (.fptr (zu f))] fun d=>d=qz (xe f):=by
 refine qD qbF rfl qX fun Z0 lo=>?_;refine qb ?_;intros;refine qk rfl rfl (Jx hv) ?_;rintro _ rfl;refine qb ?_;intros;exact qf ⟨_,rfl,rfl,rfl⟩
theorem kB{i:Nat}{l:List qc}{q:qc}(hi:i<8)(hq:l[i]?=some q)(hs:qC 1000000 q):DK 33 [.one (.fptr [.c (.int .i64 i)]),.one (.fptr [qM l])] fun d=>d=qz (qS i q):=by
 refine qD qbE rfl qX fun Z0 lo=>?_;have e1:=xd hq;have hl:=(zgs hq).1;refine qb ?_;intros;refine qk rfl rfl (XZ hi hs) ?_;rintro _ rfl;refine qb ?_;intros;exact qf ⟨_,rfl,rfl,rfl⟩
inductive Drw (p:Pic):DV × Int × Int->Prop
 |chk (r:fF) (h:Chk p r) (hne:r.2.2≠0):Drw p (YS,r.1,r.2.2)
 |bad (hv:qx p=true) (h1:jY p.gap (qo p)) (h2:jX p.gap (qo p)) (q:cA) (hq:PlcR p q) (hne:q.2.2≠0):Drw p (YS,q.2.1,q.2.2)
 |ok (hv:qx p=true) (h1:jY p.gap (qo p)) (h2:jX p.gap (qo p)) (q:cA) (hq:PlcR p q) (h0:q.2.2=0):Drw p (yx p.w p.h (wp p (qF p q.1 p.fs.length)),(p.fs.length:Int),0)
def jq:Ft:=⟨0,0,[]⟩
theorem cY{fs:List Ft}{j:Nat}(h:j<fs.length):fs[j]?=some (fs.getD j jq):=by
 rw [List.getD_eq_getElem?_getD,zge h];rfl
theorem GD{fs:List Ft}{j:Nat}(h:j<fs.length):fs.getD j jq∈fs:=zmg (cY h)
theorem z8{l:List qc}{j:Nat}(h:j<l.length):l[j]?=some (xH l j):=by
 obtain⟨q,hq⟩:∃q,l[j]?=some q:=⟨_,zge h⟩;rw [xM hq,hq]
theorem wq{p:Pic}{j:Nat}(h:j<p.fs.length):ww p j=xe (p.fs.getD j jq):=by
 rw [ww,qo,List.getElem?_map,cY h];rfl
theorem zj{p:Pic}(hwn:((p.w.toNat:Nat):Int)=p.w)(hhn:((p.h.toNat:Nat):Int)=p.h)(hw:p.w<=200)(hh:p.h<=200){P:List (List qc)}{k:Nat}{a:List qc}(hsz:Sz p.w.toNat p.h.toNat (z7 p.w.toNat p.h.toNat (blankD p.w.toNat p.h.toNat) (P.take k)))(ha:P[k]?=some a)(hl:a.length<1000000):DK 37 [yx p.w p.h (z7 p.w.toNat p.h.toNat (blankD p.w.toNat p.h.toNat) (P.take k)),qz a] fun d=>d=yx p.w p.h (z7 p.w.toNat p.h.toNat (blankD p.w.toNat p.h.toNat) (P.take (k+1))):=by
 have hp:=qax (l:=a) oM oM hsz hl;rw [hwn,hhn] at hp;rw [show P.take (k+1)=P.take k++[a] by rw [List.take_add_one,ha];rfl,Wp];exact hp
def WX(r:DV × Int × Int):DV:=.tup [r.1,.int r.2.1,.int r.2.2]
theorem Zr{p:Pic}(hv:qx p=true){q:cA}(hq:PlcR p q)(h0:q.2.2=0):q.1.length=p.fs.length/\yH p q.1=true/\∀r∈q.1,qC 1000000 r:=by
 have hl8:=(qL hv).1;cases hq with
 |bad i hi hb hok=>cases h0
 |ok hok=>
  have hlen:=pL hl8.1 hok;have hleg:=OD hl8.1 hok;refine⟨hlen,?_,fun r hr=>?_⟩
  ·rw [yH,decide_eq_true hlen,(vr hv).2 hleg];rfl
  ·obtain⟨j,hj⟩:=List.getElem?_of_mem hr;have h1:=hleg.ch j r hj;have h2:j<(kO p (p.fs.length-1)).length:=(zgs hj).1;rw [j9 (by omega)] at h1;exact (YB hv j).1 r h1
def bxD(fs:List Ft):Nat->Bx
 |0=>[]
 |j+1=>(4+2*j,.cells [.f (.c (.int .i64 (j:Nat)))])::(5+2*j,.cells ((zu (fs.getD j jq)).map .f))::bxD fs j
def clD:Nat->List DC
 |0=>[]
 |j+1=>clD j++[.fn 31 [(5+2*j,0)],.fn 33 [(4+2*j,0),(2,0)]]
theorem bS{p:Pic}(hFi:Qq p)(hFe:X3 p)(h4:p.fs.length<=4):DK 9 [yi p] fun d=>∃r,Drw p r/\d=WX r:=by
 refine qD cp9 rfl qX fun Z0 lo=>?_;refine qb ?_;intros;refine qk rfl rfl (rT hFi hFe) ?_;rintro _ ⟨r,hr,rfl⟩;refine qb ?_;intros;refine qe rfl (fun ht=>?_) (fun ht=>?_)
 ·refine qb ?_;intros;exact qf ⟨_,rfl,rfl,_,.chk r hr (by simpa using ht),rfl⟩
 ·have h0:r.2.2=0:=by simpa using ht
  have hv:qx p=true:=by
   cases hr with
   |arg h=>cases h0
   |bad1 i h hb=>exact h
   |bad2 i k h hg hb=>exact h
   |ok h hg hb=>exact h
  obtain⟨hg1,hg2⟩:=(hr.ok_iff hv).1 h0;have hl8:=(qL hv).1;clear hr ht h0;have hvf:=fun j (hj:j<p.fs.length)=>zL hv (p.fs.getD j jq) (GD hj);have hh:=(qL hv).2.2.1;simp only [yb,xr,xQ] at hh;obtain⟨⟨⟨hw1,hw2⟩,_⟩,⟨hh1,hh2⟩,_⟩:=hh;have hwn:((p.w.toNat:Nat):Int)=p.w:=by omega
  have hhn:((p.h.toNat:Nat):Int)=p.h:=by omega
  have hsz:=fun (l:List (List qc)) (k:Nat)=>Zg (w:=p.w.toNat) (h:=p.h.toNat) (l.take k) (Sz.blankD p.w.toNat p.h.toNat);refine qb ?_;intros;refine kz 0 (fs:=y7 p) rfl ?_;refine vB 9 1 rfl ?_;refine qam 3 rfl ?_;refine ql (fun m E S nk=>∃i:Nat,i+m=p.fs.length/\E=[(1,.one (.fptr (y7 p))),(2,.one (.ptr 1 0)),(8,.one (.ptr 2 0)),(9,.one (.own 3 0 (2*i) 1)),(29,.one (.f (.sl 3 p.fs.length (p.fs.flatMap zu)))),(30,.int p.fs.length),(31,.int i)]/\S=(1,.cells [.f (.c (.int .i64 0)),.f (.c (.int .i64 0)),.f (.c .nils)])::(2,.cells [.f (.c .nils)])::(3,.cells (clD i))::bxD p.fs i/\nk=4+2*i)
   ⟨p.fs.length,_,_,_,[],?wk,0,oM,rfl,rfl,rfl⟩ ?_
  case wk=>exact qm
  rintro m E S nk ⟨i,hi,rfl,rfl,rfl⟩;refine qb ?_;intros;refine qe rfl (fun hi2=>?_) (fun hi2=>?_)
  ·have hi2:i<p.fs.length:=by have:=xC hi2;omega
   have e1:=ZO (cY hi2);have hi3:i=0\/i=1\/i=2\/i=3:=by omega
   rcases hi3 with rfl|rfl|rfl|rfl
   ·refine qb ?_;intros;refine KI rfl rfl rfl rfl rfl rfl (by decide) (by decide) (by decide) rfl ?_;refine qb ?_;intros;refine⟨m-1,oM,_,_,_,[(3,7)],?wk0,1,oM,rfl,rfl,rfl⟩
    case wk0=>exact qm
   ·refine qb ?_;intros;refine KI rfl rfl rfl rfl rfl rfl (by decide) (by decide) (by decide) rfl ?_;refine qb ?_;intros;refine⟨m-1,oM,_,_,_,[(3,9)],?wk1,2,oM,rfl,rfl,rfl⟩
    case wk1=>exact qm
   ·refine qb ?_;intros;refine KI rfl rfl rfl rfl rfl rfl (by decide) (by decide) (by decide) rfl ?_;refine qb ?_;intros;refine⟨m-1,oM,_,_,_,[(3,11)],?wk2,3,oM,rfl,rfl,rfl⟩
    case wk2=>exact qm
   ·refine qb ?_;intros;refine KI rfl rfl rfl rfl rfl rfl (by decide) (by decide) (by decide) rfl ?_;refine qb ?_;intros;refine⟨m-1,oM,_,_,_,[(3,13)],?wk3,4,oM,rfl,rfl,rfl⟩
    case wk3=>exact qm
  ·have hi2:i=p.fs.length:=by have:=xK hi2;omega
   have hN:p.fs.length=1\/p.fs.length=2\/p.fs.length=3\/p.fs.length=4:=by omega
   rcases hN with hN|hN|hN|hN
   ·obtain rfl:i=1:=by omega
    refine qb ?_;intros;refine qk rfl rfl (Jy hFi hFe) ?_;rintro _ ⟨q,hq,_,rfl⟩;have hq:=hq hv;refine qb ?_;intros;refine qe rfl (fun ht=>?_) (fun ht=>?_)
    ·refine qb ?_;intros;exact qf ⟨_,rfl,rfl,_,.bad hv hg1 hg2 q hq (by simpa using ht),rfl⟩
    ·have h0:q.2.2=0:=by simpa using ht
     obtain⟨hql,_,hqs⟩:=Zr hv hq h0;refine qb ?_;intros;refine jr rfl rfl (aR p.w p.h) ?_;rintro _ _ _ ⟨n1,m1,hn',hm',_,_,rfl,rfl,rfl⟩;have en:p.w.toNat=n1:=by unfold jI at hn';omega
     have em:p.h.toNat=m1:=by unfold jI at hm';omega
     subst en em;have hlen:p.h.toNat=(xj (blankD p.w.toNat p.h.toNat)).length:=by rw [yX];simp [blankD]
     refine qb ?_;intros;refine qr (qd (k:=1) rfl (qd (k:=2) rfl (qd (k:=14) rfl (qd (k:=58) rfl (qd (k:=59) rfl (qd (k:=60) rfl (qu _))))))) (qd (k:=1) rfl (qd (k:=2) rfl (qd (k:=3) rfl (qd (k:=4) rfl (qd (k:=5) rfl (qd (k:=8) rfl (qd (k:=9) rfl (qu _)))))))) ?_;refine ky 8 rfl qO qO ?_;refine KJ [(2,[qM q.1]),(4,[.c (.int .i64 (0:Nat))]),(5,zu (p.fs.getD 0 jq))] ⟨rfl,rfl,rfl,trivial⟩ ?_;have hg:some (Bk.cells [.f (.c (.int .i64 (p.w.toNat:Int))),.f (.c (.int .i64 (p.h.toNat:Int))),.f (.sl 1 p.h.toNat ((xj (blankD p.w.toNat p.h.toNat)).map yh))])=some (Bk.cells (zi p.w p.h (blankD p.w.toNat p.h.toNat))):=by
      rw [hwn,hhn,zi,show (blankD p.w.toNat p.h.toNat).length=p.h.toNat by simp [blankD]]
     refine qr (E0:=[(1,.one (.fptr (y7 p))),(2,.one (.ptr 1 0)),(14,.one (.ptr 9 0)),(58,.one (.own 3 0 (2*1) 1)),(59,.int ((2*1:Nat):Int)),(60,.int ((0:Nat):Int))]) (S0:=[(1,.cells [.f (.c (.int .i64 0)),.f (.c (.int .i64 0)),.f (.c .nils)]),(3,.cells [.fz 31 [zu (p.fs.getD 0 jq)],.fz 33 [[.c (.int .i64 (0:Nat))],[qM q.1]]]),(9,.cells (zi p.w p.h (blankD p.w.toNat p.h.toNat)))])
      (qd rfl (qd rfl (qd rfl (qd rfl (qd rfl (qd rfl (qu _))))))) (qd rfl (qd rfl (qd hg (qu _)))) ?_
     refine ql (fun m E S nk=>∃k:Nat,k+m=2*1/\E=[(1,.one (.fptr (y7 p))),(2,.one (.ptr 1 0)),(14,.one (.ptr 9 0)),(58,.one (.own 3 0 (2*1) 1)),(59,.int ((2*1:Nat):Int)),(60,.int k)]/\S=[(1,.cells [.f (.c (.int .i64 0)),.f (.c (.int .i64 0)),.f (.c .nils)]),(3,.cells [.fz 31 [zu (p.fs.getD 0 jq)],.fz 33 [[.c (.int .i64 (0:Nat))],[qM q.1]]]),(9,.cells (zi p.w p.h (z7 p.w.toNat p.h.toNat (blankD p.w.toNat p.h.toNat) ((qF p q.1 1).take k))))]/\nk=10)
      ⟨2*1,_,_,_,[],?wl,0,oM,rfl,rfl,rfl⟩ ?_
     case wl=>exact qm
     rintro m E S nk ⟨k,hk,rfl,rfl,rfl⟩;refine qb ?_;intros;refine qe rfl (fun hk2=>?_) (fun hk2=>?_)
     ·have hk2:k<2*1:=by have:=xC hk2;omega
      have hk3:k=0\/k=1:=by omega
      rcases hk3 with rfl|rfl
      ·have hp:=zj (p:=p) hwn hhn (by omega) (by omega) (hsz (qF p q.1 1) 0) (show (qF p q.1 1)[0]?=some (ww p 0) from rfl) (by have:=j8 hv hFe 0;omega);rw [wq (by omega:0<p.fs.length)] at hp;refine qb ?_;intros;refine yK rfl ZM rfl rfl (kC (hvf 0 oM)) ?_;rintro _ rfl;refine yu rfl ?_;refine qb ?_;intros;refine qk rfl rfl hp ?_;rintro _ rfl;refine qb ?_;intros;refine⟨m-1,oM,_,_,_,[],?wl0,1,oM,rfl,rfl,rfl⟩
       case wl0=>exact qm
      ·have hp:=zj (p:=p) hwn hhn (by omega) (by omega) (hsz (qF p q.1 1) 1) (show (qF p q.1 1)[1]?=some (qS 0 (xH q.1 0)) from rfl) (by have:=zw 0 (xH q.1 0);omega)
       skip
       refine qb ?_;intros;refine yK rfl ZL rfl rfl (kB (i:=0) oM (z8 (by omega:0<q.1.length)) (hqs _ (zmg (z8 (by omega:0<q.1.length))))) ?_;rintro _ rfl;refine yu rfl ?_;refine qb ?_;intros;refine qk rfl rfl hp ?_;rintro _ rfl;refine qb ?_;intros;refine⟨m-1,oM,_,_,_,[],?wl1,2,oM,rfl,rfl,rfl⟩
       case wl1=>exact qm
     ·have hk2:k=2*1:=by have:=xK hk2;omega
      subst hk2;rw [show (qF p q.1 1).take (2*1)=qF p q.1 1 from List.take_of_length_le (Nat.le_of_eq (vn p q.1 1))];refine qb ?_;intros;refine qf ⟨_,rfl,rfl,_,.ok hv hg1 hg2 q hq h0,?_⟩;rw [WX,hN];rfl
   ·obtain rfl:i=2:=by omega
    refine qb ?_;intros;refine qk rfl rfl (Jy hFi hFe) ?_;rintro _ ⟨q,hq,_,rfl⟩;have hq:=hq hv;refine qb ?_;intros;refine qe rfl (fun ht=>?_) (fun ht=>?_)
    ·refine qb ?_;intros;exact qf ⟨_,rfl,rfl,_,.bad hv hg1 hg2 q hq (by simpa using ht),rfl⟩
    ·have h0:q.2.2=0:=by simpa using ht
     obtain⟨hql,_,hqs⟩:=Zr hv hq h0;refine qb ?_;intros;refine jr rfl rfl (aR p.w p.h) ?_;rintro _ _ _ ⟨n1,m1,hn',hm',_,_,rfl,rfl,rfl⟩;have en:p.w.toNat=n1:=by unfold jI at hn';omega
     have em:p.h.toNat=m1:=by unfold jI at hm';omega
     subst en em;have hlen:p.h.toNat=(xj (blankD p.w.toNat p.h.toNat)).length:=by rw [yX];simp [blankD]
     refine qb ?_;intros;refine qr (qd (k:=1) rfl (qd (k:=2) rfl (qd (k:=14) rfl (qd (k:=58) rfl (qd (k:=59) rfl (qd (k:=60) rfl (qu _))))))) (qd (k:=1) rfl (qd (k:=2) rfl (qd (k:=3) rfl (qd (k:=4) rfl (qd (k:=5) rfl (qd (k:=6) rfl (qd (k:=7) rfl (qd (k:=10) rfl (qd (k:=11) rfl (qu _)))))))))) ?_;refine ky 10 rfl qO qO ?_;refine KJ [(2,[qM q.1]),(4,[.c (.int .i64 (0:Nat))]),(5,zu (p.fs.getD 0 jq)),(6,[.c (.int .i64 (1:Nat))]),(7,zu (p.fs.getD 1 jq))] ⟨rfl,rfl,rfl,rfl,rfl,trivial⟩ ?_;have hg:some (Bk.cells [.f (.c (.int .i64 (p.w.toNat:Int))),.f (.c (.int .i64 (p.h.toNat:Int))),.f (.sl 1 p.h.toNat ((xj (blankD p.w.toNat p.h.toNat)).map yh))])=some (Bk.cells (zi p.w p.h (blankD p.w.toNat p.h.toNat))):=by
      rw [hwn,hhn,zi,show (blankD p.w.toNat p.h.toNat).length=p.h.toNat by simp [blankD]]
     refine qr (E0:=[(1,.one (.fptr (y7 p))),(2,.one (.ptr 1 0)),(14,.one (.ptr 11 0)),(58,.one (.own 3 0 (2*2) 1)),(59,.int ((2*2:Nat):Int)),(60,.int ((0:Nat):Int))]) (S0:=[(1,.cells [.f (.c (.int .i64 0)),.f (.c (.int .i64 0)),.f (.c .nils)]),(3,.cells [.fz 31 [zu (p.fs.getD 0 jq)],.fz 33 [[.c (.int .i64 (0:Nat))],[qM q.1]],.fz 31 [zu (p.fs.getD 1 jq)],.fz 33 [[.c (.int .i64 (1:Nat))],[qM q.1]]]),(11,.cells (zi p.w p.h (blankD p.w.toNat p.h.toNat)))])
      (qd rfl (qd rfl (qd rfl (qd rfl (qd rfl (qd rfl (qu _))))))) (qd rfl (qd rfl (qd hg (qu _)))) ?_
     refine ql (fun m E S nk=>∃k:Nat,k+m=2*2/\E=[(1,.one (.fptr (y7 p))),(2,.one (.ptr 1 0)),(14,.one (.ptr 11 0)),(58,.one (.own 3 0 (2*2) 1)),(59,.int ((2*2:Nat):Int)),(60,.int k)]/\S=[(1,.cells [.f (.c (.int .i64 0)),.f (.c (.int .i64 0)),.f (.c .nils)]),(3,.cells [.fz 31 [zu (p.fs.getD 0 jq)],.fz 33 [[.c (.int .i64 (0:Nat))],[qM q.1]],.fz 31 [zu (p.fs.getD 1 jq)],.fz 33 [[.c (.int .i64 (1:Nat))],[qM q.1]]]),(11,.cells (zi p.w p.h (z7 p.w.toNat p.h.toNat (blankD p.w.toNat p.h.toNat) ((qF p q.1 2).take k))))]/\nk=12)
      ⟨2*2,_,_,_,[],?wl,0,oM,rfl,rfl,rfl⟩ ?_
     case wl=>exact qm
     rintro m E S nk ⟨k,hk,rfl,rfl,rfl⟩;refine qb ?_;intros;refine qe rfl (fun hk2=>?_) (fun hk2=>?_)
     ·have hk2:k<2*2:=by have:=xC hk2;omega
      have hk3:k=0\/k=1\/k=2\/k=3:=by omega
      rcases hk3 with rfl|rfl|rfl|rfl
      ·have hp:=zj (p:=p) hwn hhn (by omega) (by omega) (hsz (qF p q.1 2) 0) (show (qF p q.1 2)[0]?=some (ww p 0) from rfl) (by have:=j8 hv hFe 0;omega);rw [wq (by omega:0<p.fs.length)] at hp;refine qb ?_;intros;refine yK rfl ZM rfl rfl (kC (hvf 0 oM)) ?_;rintro _ rfl;refine yu rfl ?_;refine qb ?_;intros;refine qk rfl rfl hp ?_;rintro _ rfl;refine qb ?_;intros;refine⟨m-1,oM,_,_,_,[],?wl0,1,oM,rfl,rfl,rfl⟩
       case wl0=>exact qm
      ·have hp:=zj (p:=p) hwn hhn (by omega) (by omega) (hsz (qF p q.1 2) 1) (show (qF p q.1 2)[1]?=some (qS 0 (xH q.1 0)) from rfl) (by have:=zw 0 (xH q.1 0);omega)
       skip
       refine qb ?_;intros;refine yK rfl ZL rfl rfl (kB (i:=0) oM (z8 (by omega:0<q.1.length)) (hqs _ (zmg (z8 (by omega:0<q.1.length))))) ?_;rintro _ rfl;refine yu rfl ?_;refine qb ?_;intros;refine qk rfl rfl hp ?_;rintro _ rfl;refine qb ?_;intros;refine⟨m-1,oM,_,_,_,[],?wl1,2,oM,rfl,rfl,rfl⟩
       case wl1=>exact qm
      ·have hp:=zj (p:=p) hwn hhn (by omega) (by omega) (hsz (qF p q.1 2) 2) (show (qF p q.1 2)[2]?=some (ww p 1) from rfl) (by have:=j8 hv hFe 1;omega);rw [wq (by omega:1<p.fs.length)] at hp;refine qb ?_;intros;refine yK rfl ZM rfl rfl (kC (hvf 1 oM)) ?_;rintro _ rfl;refine yu rfl ?_;refine qb ?_;intros;refine qk rfl rfl hp ?_;rintro _ rfl;refine qb ?_;intros;refine⟨m-1,oM,_,_,_,[],?wl2,3,oM,rfl,rfl,rfl⟩
       case wl2=>exact qm
      ·have hp:=zj (p:=p) hwn hhn (by omega) (by omega) (hsz (qF p q.1 2) 3) (show (qF p q.1 2)[3]?=some (qS 1 (xH q.1 1)) from rfl) (by have:=zw 1 (xH q.1 1);omega)
       skip
       refine qb ?_;intros;refine yK rfl ZL rfl rfl (kB (i:=1) oM (z8 (by omega:1<q.1.length)) (hqs _ (zmg (z8 (by omega:1<q.1.length))))) ?_;rintro _ rfl;refine yu rfl ?_;refine qb ?_;intros;refine qk rfl rfl hp ?_;rintro _ rfl;refine qb ?_;intros;refine⟨m-1,oM,_,_,_,[],?wl3,4,oM,rfl,rfl,rfl⟩
       case wl3=>exact qm
     ·have hk2:k=2*2:=by have:=xK hk2;omega
      subst hk2;rw [show (qF p q.1 2).take (2*2)=qF p q.1 2 from List.take_of_length_le (Nat.le_of_eq (vn p q.1 2))];refine qb ?_;intros;refine qf ⟨_,rfl,rfl,_,.ok hv hg1 hg2 q hq h0,?_⟩;rw [WX,hN];rfl
   ·obtain rfl:i=3:=by omega
    refine qb ?_;intros;refine qk rfl rfl (Jy hFi hFe) ?_;rintro _ ⟨q,hq,_,rfl⟩;have hq:=hq hv;refine qb ?_;intros;refine qe rfl (fun ht=>?_) (fun ht=>?_)
    ·refine qb ?_;intros;exact qf ⟨_,rfl,rfl,_,.bad hv hg1 hg2 q hq (by simpa using ht),rfl⟩
    ·have h0:q.2.2=0:=by simpa using ht
     obtain⟨hql,_,hqs⟩:=Zr hv hq h0;refine qb ?_;intros;refine jr rfl rfl (aR p.w p.h) ?_;rintro _ _ _ ⟨n1,m1,hn',hm',_,_,rfl,rfl,rfl⟩;have en:p.w.toNat=n1:=by unfold jI at hn';omega
     have em:p.h.toNat=m1:=by unfold jI at hm';omega
     subst en em;have hlen:p.h.toNat=(xj (blankD p.w.toNat p.h.toNat)).length:=by rw [yX];simp [blankD]
     refine qb ?_;intros;refine qr (qd (k:=1) rfl (qd (k:=2) rfl (qd (k:=14) rfl (qd (k:=58) rfl (qd (k:=59) rfl (qd (k:=60) rfl (qu _))))))) (qd (k:=1) rfl (qd (k:=2) rfl (qd (k:=3) rfl (qd (k:=4) rfl (qd (k:=5) rfl (qd (k:=6) rfl (qd (k:=7) rfl (qd (k:=8) rfl (qd (k:=9) rfl (qd (k:=12) rfl (qd (k:=13) rfl (qu _)))))))))))) ?_;refine ky 12 rfl qO qO ?_;refine KJ [(2,[qM q.1]),(4,[.c (.int .i64 (0:Nat))]),(5,zu (p.fs.getD 0 jq)),(6,[.c (.int .i64 (1:Nat))]),(7,zu (p.fs.getD 1 jq)),(8,[.c (.int .i64 (2:Nat))]),(9,zu (p.fs.getD 2 jq))] ⟨rfl,rfl,rfl,rfl,rfl,rfl,rfl,trivial⟩ ?_;have hg:some (Bk.cells [.f (.c (.int .i64 (p.w.toNat:Int))),.f (.c (.int .i64 (p.h.toNat:Int))),.f (.sl 1 p.h.toNat ((xj (blankD p.w.toNat p.h.toNat)).map yh))])=some (Bk.cells (zi p.w p.h (blankD p.w.toNat p.h.toNat))):=by
      rw [hwn,hhn,zi,show (blankD p.w.toNat p.h.toNat).length=p.h.toNat by simp [blankD]]
     refine qr (E0:=[(1,.one (.fptr (y7 p))),(2,.one (.ptr 1 0)),(14,.one (.ptr 13 0)),(58,.one (.own 3 0 (2*3) 1)),(59,.int ((2*3:Nat):Int)),(60,.int ((0:Nat):Int))]) (S0:=[(1,.cells [.f (.c (.int .i64 0)),.f (.c (.int .i64 0)),.f (.c .nils)]),(3,.cells [.fz 31 [zu (p.fs.getD 0 jq)],.fz 33 [[.c (.int .i64 (0:Nat))],[qM q.1]],.fz 31 [zu (p.fs.getD 1 jq)],.fz 33 [[.c (.int .i64 (1:Nat))],[qM q.1]],.fz 31 [zu (p.fs.getD 2 jq)],.fz 33 [[.c (.int .i64 (2:Nat))],[qM q.1]]]),(13,.cells (zi p.w p.h (blankD p.w.toNat p.h.toNat)))])
      (qd rfl (qd rfl (qd rfl (qd rfl (qd rfl (qd rfl (qu _))))))) (qd rfl (qd rfl (qd hg (qu _)))) ?_
     refine ql (fun m E S nk=>∃k:Nat,k+m=2*3/\E=[(1,.one (.fptr (y7 p))),(2,.one (.ptr 1 0)),(14,.one (.ptr 13 0)),(58,.one (.own 3 0 (2*3) 1)),(59,.int ((2*3:Nat):Int)),(60,.int k)]/\S=[(1,.cells [.f (.c (.int .i64 0)),.f (.c (.int .i64 0)),.f (.c .nils)]),(3,.cells [.fz 31 [zu (p.fs.getD 0 jq)],.fz 33 [[.c (.int .i64 (0:Nat))],[qM q.1]],.fz 31 [zu (p.fs.getD 1 jq)],.fz 33 [[.c (.int .i64 (1:Nat))],[qM q.1]],.fz 31 [zu (p.fs.getD 2 jq)],.fz 33 [[.c (.int .i64 (2:Nat))],[qM q.1]]]),(13,.cells (zi p.w p.h (z7 p.w.toNat p.h.toNat (blankD p.w.toNat p.h.toNat) ((qF p q.1 3).take k))))]/\nk=14)
      ⟨2*3,_,_,_,[],?wl,0,oM,rfl,rfl,rfl⟩ ?_
     case wl=>exact qm
     rintro m E S nk ⟨k,hk,rfl,rfl,rfl⟩;refine qb ?_;intros;refine qe rfl (fun hk2=>?_) (fun hk2=>?_)
     ·have hk2:k<2*3:=by have:=xC hk2;omega
      have hk3:k=0\/k=1\/k=2\/k=3\/k=4\/k=5:=by omega
      rcases hk3 with rfl|rfl|rfl|rfl|rfl|rfl
      ·have hp:=zj (p:=p) hwn hhn (by omega) (by omega) (hsz (qF p q.1 3) 0) (show (qF p q.1 3)[0]?=some (ww p 0) from rfl) (by have:=j8 hv hFe 0;omega);rw [wq (by omega:0<p.fs.length)] at hp;refine qb ?_;intros;refine yK rfl ZM rfl rfl (kC (hvf 0 oM)) ?_;rintro _ rfl;refine yu rfl ?_;refine qb ?_;intros;refine qk rfl rfl hp ?_;rintro _ rfl;refine qb ?_;intros;refine⟨m-1,oM,_,_,_,[],?wl0,1,oM,rfl,rfl,rfl⟩
       case wl0=>exact qm
      ·have hp:=zj (p:=p) hwn hhn (by omega) (by omega) (hsz (qF p q.1 3) 1) (show (qF p q.1 3)[1]?=some (qS 0 (xH q.1 0)) from rfl) (by have:=zw 0 (xH q.1 0);omega)
       skip
       refine qb ?_;intros;refine yK rfl ZL rfl rfl (kB (i:=0) oM (z8 (by omega:0<q.1.length)) (hqs _ (zmg (z8 (by omega:0<q.1.length))))) ?_;rintro _ rfl;refine yu rfl ?_;refine qb ?_;intros;refine qk rfl rfl hp ?_;rintro _ rfl;refine qb ?_;intros;refine⟨m-1,oM,_,_,_,[],?wl1,2,oM,rfl,rfl,rfl⟩
       case wl1=>exact qm
      ·have hp:=zj (p:=p) hwn hhn (by omega) (by omega) (hsz (qF p q.1 3) 2) (show (qF p q.1 3)[2]?=some (ww p 1) from rfl) (by have:=j8 hv hFe 1;omega);rw [wq (by omega:1<p.fs.length)] at hp;refine qb ?_;intros;refine yK rfl ZM rfl rfl (kC (hvf 1 oM)) ?_;rintro _ rfl;refine yu rfl ?_;refine qb ?_;intros;refine qk rfl rfl hp ?_;rintro _ rfl;refine qb ?_;intros;refine⟨m-1,oM,_,_,_,[],?wl2,3,oM,rfl,rfl,rfl⟩
       case wl2=>exact qm
      ·have hp:=zj (p:=p) hwn hhn (by omega) (by omega) (hsz (qF p q.1 3) 3) (show (qF p q.1 3)[3]?=some (qS 1 (xH q.1 1)) from rfl) (by have:=zw 1 (xH q.1 1);omega)
       skip
       refine qb ?_;intros;refine yK rfl ZL rfl rfl (kB (i:=1) oM (z8 (by omega:1<q.1.length)) (hqs _ (zmg (z8 (by omega:1<q.1.length))))) ?_;rintro _ rfl;refine yu rfl ?_;refine qb ?_;intros;refine qk rfl rfl hp ?_;rintro _ rfl;refine qb ?_;intros;refine⟨m-1,oM,_,_,_,[],?wl3,4,oM,rfl,rfl,rfl⟩
       case wl3=>exact qm
      ·have hp:=zj (p:=p) hwn hhn (by omega) (by omega) (hsz (qF p q.1 3) 4) (show (qF p q.1 3)[4]?=some (ww p 2) from rfl) (by have:=j8 hv hFe 2;omega);rw [wq (by omega:2<p.fs.length)] at hp;refine qb ?_;intros;refine yK rfl ZM rfl rfl (kC (hvf 2 oM)) ?_;rintro _ rfl;refine yu rfl ?_;refine qb ?_;intros;refine qk rfl rfl hp ?_;rintro _ rfl;refine qb ?_;intros;refine⟨m-1,oM,_,_,_,[],?wl4,5,oM,rfl,rfl,rfl⟩
       case wl4=>exact qm
      ·have hp:=zj (p:=p) hwn hhn (by omega) (by omega) (hsz (qF p q.1 3) 5) (show (qF p q.1 3)[5]?=some (qS 2 (xH q.1 2)) from rfl) (by have:=zw 2 (xH q.1 2);omega)
       skip
       refine qb ?_;intros;refine yK rfl ZL rfl rfl (kB (i:=2) oM (z8 (by omega:2<q.1.length)) (hqs _ (zmg (z8 (by omega:2<q.1.length))))) ?_;rintro _ rfl;refine yu rfl ?_;refine qb ?_;intros;refine qk rfl rfl hp ?_;rintro _ rfl;refine qb ?_;intros;refine⟨m-1,oM,_,_,_,[],?wl5,6,oM,rfl,rfl,rfl⟩
       case wl5=>exact qm
     ·have hk2:k=2*3:=by have:=xK hk2;omega
      subst hk2;rw [show (qF p q.1 3).take (2*3)=qF p q.1 3 from List.take_of_length_le (Nat.le_of_eq (vn p q.1 3))];refine qb ?_;intros;refine qf ⟨_,rfl,rfl,_,.ok hv hg1 hg2 q hq h0,?_⟩;rw [WX,hN];rfl
   ·obtain rfl:i=4:=by omega
    refine qb ?_;intros;refine qk rfl rfl (Jy hFi hFe) ?_;rintro _ ⟨q,hq,_,rfl⟩;have hq:=hq hv;refine qb ?_;intros;refine qe rfl (fun ht=>?_) (fun ht=>?_)
    ·refine qb ?_;intros;exact qf ⟨_,rfl,rfl,_,.bad hv hg1 hg2 q hq (by simpa using ht),rfl⟩
    ·have h0:q.2.2=0:=by simpa using ht
     obtain⟨hql,_,hqs⟩:=Zr hv hq h0;refine qb ?_;intros;refine jr rfl rfl (aR p.w p.h) ?_;rintro _ _ _ ⟨n1,m1,hn',hm',_,_,rfl,rfl,rfl⟩;have en:p.w.toNat=n1:=by unfold jI at hn';omega
     have em:p.h.toNat=m1:=by unfold jI at hm';omega
     subst en em;have hlen:p.h.toNat=(xj (blankD p.w.toNat p.h.toNat)).length:=by rw [yX];simp [blankD]
     refine qb ?_;intros;refine qr (qd (k:=1) rfl (qd (k:=2) rfl (qd (k:=14) rfl (qd (k:=58) rfl (qd (k:=59) rfl (qd (k:=60) rfl (qu _))))))) (qd (k:=1) rfl (qd (k:=2) rfl (qd (k:=3) rfl (qd (k:=4) rfl (qd (k:=5) rfl (qd (k:=6) rfl (qd (k:=7) rfl (qd (k:=8) rfl (qd (k:=9) rfl (qd (k:=10) rfl (qd (k:=11) rfl (qd (k:=14) rfl (qd (k:=15) rfl (qu _)))))))))))))) ?_;refine ky 14 rfl qO qO ?_;refine KJ [(2,[qM q.1]),(4,[.c (.int .i64 (0:Nat))]),(5,zu (p.fs.getD 0 jq)),(6,[.c (.int .i64 (1:Nat))]),(7,zu (p.fs.getD 1 jq)),(8,[.c (.int .i64 (2:Nat))]),(9,zu (p.fs.getD 2 jq)),(10,[.c (.int .i64 (3:Nat))]),(11,zu (p.fs.getD 3 jq))] ⟨rfl,rfl,rfl,rfl,rfl,rfl,rfl,rfl,rfl,trivial⟩ ?_;have hg:some (Bk.cells [.f (.c (.int .i64 (p.w.toNat:Int))),.f (.c (.int .i64 (p.h.toNat:Int))),.f (.sl 1 p.h.toNat ((xj (blankD p.w.toNat p.h.toNat)).map yh))])=some (Bk.cells (zi p.w p.h (blankD p.w.toNat p.h.toNat))):=by
      rw [hwn,hhn,zi,show (blankD p.w.toNat p.h.toNat).length=p.h.toNat by simp [blankD]]
     refine qr (E0:=[(1,.one (.fptr (y7 p))),(2,.one (.ptr 1 0)),(14,.one (.ptr 15 0)),(58,.one (.own 3 0 (2*4) 1)),(59,.int ((2*4:Nat):Int)),(60,.int ((0:Nat):Int))]) (S0:=[(1,.cells [.f (.c (.int .i64 0)),.f (.c (.int .i64 0)),.f (.c .nils)]),(3,.cells [.fz 31 [zu (p.fs.getD 0 jq)],.fz 33 [[.c (.int .i64 (0:Nat))],[qM q.1]],.fz 31 [zu (p.fs.getD 1 jq)],.fz 33 [[.c (.int .i64 (1:Nat))],[qM q.1]],.fz 31 [zu (p.fs.getD 2 jq)],.fz 33 [[.c (.int .i64 (2:Nat))],[qM q.1]],.fz 31 [zu (p.fs.getD 3 jq)],.fz 33 [[.c (.int .i64 (3:Nat))],[qM q.1]]]),(15,.cells (zi p.w p.h (blankD p.w.toNat p.h.toNat)))])
      (qd rfl (qd rfl (qd rfl (qd rfl (qd rfl (qd rfl (qu _))))))) (qd rfl (qd rfl (qd hg (qu _)))) ?_
     refine ql (fun m E S nk=>∃k:Nat,k+m=2*4/\E=[(1,.one (.fptr (y7 p))),(2,.one (.ptr 1 0)),(14,.one (.ptr 15 0)),(58,.one (.own 3 0 (2*4) 1)),(59,.int ((2*4:Nat):Int)),(60,.int k)]/\S=[(1,.cells [.f (.c (.int .i64 0)),.f (.c (.int .i64 0)),.f (.c .nils)]),(3,.cells [.fz 31 [zu (p.fs.getD 0 jq)],.fz 33 [[.c (.int .i64 (0:Nat))],[qM q.1]],.fz 31 [zu (p.fs.getD 1 jq)],.fz 33 [[.c (.int .i64 (1:Nat))],[qM q.1]],.fz 31 [zu (p.fs.getD 2 jq)],.fz 33 [[.c (.int .i64 (2:Nat))],[qM q.1]],.fz 31 [zu (p.fs.getD 3 jq)],.fz 33 [[.c (.int .i64 (3:Nat))],[qM q.1]]]),(15,.cells (zi p.w p.h (z7 p.w.toNat p.h.toNat (blankD p.w.toNat p.h.toNat) ((qF p q.1 4).take k))))]/\nk=16)
      ⟨2*4,_,_,_,[],?wl,0,oM,rfl,rfl,rfl⟩ ?_
     case wl=>exact qm
     rintro m E S nk ⟨k,hk,rfl,rfl,rfl⟩;refine qb ?_;intros;refine qe rfl (fun hk2=>?_) (fun hk2=>?_)
     ·have hk2:k<2*4:=by have:=xC hk2;omega
      have hk3:k=0\/k=1\/k=2\/k=3\/k=4\/k=5\/k=6\/k=7:=by omega
      rcases hk3 with rfl|rfl|rfl|rfl|rfl|rfl|rfl|rfl
      ·have hp:=zj (p:=p) hwn hhn (by omega) (by omega) (hsz (qF p q.1 4) 0) (show (qF p q.1 4)[0]?=some (ww p 0) from rfl) (by have:=j8 hv hFe 0;omega);rw [wq (by omega:0<p.fs.length)] at hp;refine qb ?_;intros;refine yK rfl ZM rfl rfl (kC (hvf 0 oM)) ?_;rintro _ rfl;refine yu rfl ?_;refine qb ?_;intros;refine qk rfl rfl hp ?_;rintro _ rfl;refine qb ?_;intros;refine⟨m-1,oM,_,_,_,[],?wl0,1,oM,rfl,rfl,rfl⟩
       case wl0=>exact qm
      ·have hp:=zj (p:=p) hwn hhn (by omega) (by omega) (hsz (qF p q.1 4) 1) (show (qF p q.1 4)[1]?=some (qS 0 (xH q.1 0)) from rfl) (by have:=zw 0 (xH q.1 0);omega)
       skip
       refine qb ?_;intros;refine yK rfl ZL rfl rfl (kB (i:=0) oM (z8 (by omega:0<q.1.length)) (hqs _ (zmg (z8 (by omega:0<q.1.length))))) ?_;rintro _ rfl;refine yu rfl ?_;refine qb ?_;intros;refine qk rfl rfl hp ?_;rintro _ rfl;refine qb ?_;intros;refine⟨m-1,oM,_,_,_,[],?wl1,2,oM,rfl,rfl,rfl⟩
       case wl1=>exact qm
      ·have hp:=zj (p:=p) hwn hhn (by omega) (by omega) (hsz (qF p q.1 4) 2) (show (qF p q.1 4)[2]?=some (ww p 1) from rfl) (by have:=j8 hv hFe 1;omega);rw [wq (by omega:1<p.fs.length)] at hp;refine qb ?_;intros;refine yK rfl ZM rfl rfl (kC (hvf 1 oM)) ?_;rintro _ rfl;refine yu rfl ?_;refine qb ?_;intros;refine qk rfl rfl hp ?_;rintro _ rfl;refine qb ?_;intros;refine⟨m-1,oM,_,_,_,[],?wl2,3,oM,rfl,rfl,rfl⟩
       case wl2=>exact qm
      ·have hp:=zj (p:=p) hwn hhn (by omega) (by omega) (hsz (qF p q.1 4) 3) (show (qF p q.1 4)[3]?=some (qS 1 (xH q.1 1)) from rfl) (by have:=zw 1 (xH q.1 1);omega)
       skip
       refine qb ?_;intros;refine yK rfl ZL rfl rfl (kB (i:=1) oM (z8 (by omega:1<q.1.length)) (hqs _ (zmg (z8 (by omega:1<q.1.length))))) ?_;rintro _ rfl;refine yu rfl ?_;refine qb ?_;intros;refine qk rfl rfl hp ?_;rintro _ rfl;refine qb ?_;intros;refine⟨m-1,oM,_,_,_,[],?wl3,4,oM,rfl,rfl,rfl⟩
       case wl3=>exact qm
      ·have hp:=zj (p:=p) hwn hhn (by omega) (by omega) (hsz (qF p q.1 4) 4) (show (qF p q.1 4)[4]?=some (ww p 2) from rfl) (by have:=j8 hv hFe 2;omega);rw [wq (by omega:2<p.fs.length)] at hp;refine qb ?_;intros;refine yK rfl ZM rfl rfl (kC (hvf 2 oM)) ?_;rintro _ rfl;refine yu rfl ?_;refine qb ?_;intros;refine qk rfl rfl hp ?_;rintro _ rfl;refine qb ?_;intros;refine⟨m-1,oM,_,_,_,[],?wl4,5,oM,rfl,rfl,rfl⟩
       case wl4=>exact qm
      ·have hp:=zj (p:=p) hwn hhn (by omega) (by omega) (hsz (qF p q.1 4) 5) (show (qF p q.1 4)[5]?=some (qS 2 (xH q.1 2)) from rfl) (by have:=zw 2 (xH q.1 2);omega)
       skip
       refine qb ?_;intros;refine yK rfl ZL rfl rfl (kB (i:=2) oM (z8 (by omega:2<q.1.length)) (hqs _ (zmg (z8 (by omega:2<q.1.length))))) ?_;rintro _ rfl;refine yu rfl ?_;refine qb ?_;intros;refine qk rfl rfl hp ?_;rintro _ rfl;refine qb ?_;intros;refine⟨m-1,oM,_,_,_,[],?wl5,6,oM,rfl,rfl,rfl⟩
       case wl5=>exact qm
      ·have hp:=zj (p:=p) hwn hhn (by omega) (by omega) (hsz (qF p q.1 4) 6) (show (qF p q.1 4)[6]?=some (ww p 3) from rfl) (by have:=j8 hv hFe 3;omega);rw [wq (by omega:3<p.fs.length)] at hp;refine qb ?_;intros;refine yK rfl ZM rfl rfl (kC (hvf 3 oM)) ?_;rintro _ rfl;refine yu rfl ?_;refine qb ?_;intros;refine qk rfl rfl hp ?_;rintro _ rfl;refine qb ?_;intros;refine⟨m-1,oM,_,_,_,[],?wl6,7,oM,rfl,rfl,rfl⟩
       case wl6=>exact qm
      ·have hp:=zj (p:=p) hwn hhn (by omega) (by omega) (hsz (qF p q.1 4) 7) (show (qF p q.1 4)[7]?=some (qS 3 (xH q.1 3)) from rfl) (by have:=zw 3 (xH q.1 3);omega)
       skip
       refine qb ?_;intros;refine yK rfl ZL rfl rfl (kB (i:=3) oM (z8 (by omega:3<q.1.length)) (hqs _ (zmg (z8 (by omega:3<q.1.length))))) ?_;rintro _ rfl;refine yu rfl ?_;refine qb ?_;intros;refine qk rfl rfl hp ?_;rintro _ rfl;refine qb ?_;intros;refine⟨m-1,oM,_,_,_,[],?wl7,8,oM,rfl,rfl,rfl⟩
       case wl7=>exact qm
     ·have hk2:k=2*4:=by have:=xK hk2;omega
      subst hk2;rw [show (qF p q.1 4).take (2*4)=qF p q.1 4 from List.take_of_length_le (Nat.le_of_eq (vn p q.1 4))];refine qb ?_;intros;refine qf ⟨_,rfl,rfl,_,.ok hv hg1 hg2 q hq h0,?_⟩;rw [WX,hN];rfl
def jP(p:Pic)(l:List qc):List (List qc):=qo p++(List.range l.length).map fun i=>qS i (xH l i)
theorem oC{l:List qc}{i:Nat}{q:qc}(hq:l[i]?=some q):((List.range (i+1)).map fun i=>qS i (xH l i))=((List.range i).map fun i=>qS i (xH l i))++[qS i q]:=by
 rw [List.range_succ,List.map_append,List.map_singleton,xM hq]
theorem Jk{p:Pic}{l:List qc}(hl:l.length=p.fs.length)(x:qc):(∃c∈jP p l,x∈c)↔∃c∈qF p l p.fs.length,x∈c:=by
 constructor
 ·rintro ⟨c,hc,hx⟩;rcases List.mem_append.1 hc with hc|hc
  ·obtain⟨i,hi,rfl⟩:=XQ hc;exact⟨_,zN.2 ⟨i,hi,.inl rfl⟩,hx⟩
  ·obtain⟨i,hi,rfl⟩:=List.mem_map.1 hc;have:=List.mem_range.1 hi;exact⟨_,zN.2 ⟨i,oM,.inr rfl⟩,hx⟩
 ·rintro ⟨c,hc,hx⟩;obtain⟨i,hi,rfl|rfl⟩:=zN.1 hc
  ·exact⟨_,List.mem_append.2 (.inl (YL hi)),hx⟩
  ·exact⟨_,List.mem_append.2 (.inr (List.mem_map.2 ⟨i,List.mem_range.2 oM,rfl⟩)),hx⟩
theorem rP{p:Pic}(hv:qx p=true)(hF:X3 p){l:List qc}(hl:l.length<=8)(hs:∀q∈l,qC 1000000 q):DK 21 [yi p,qz l] fun d=>d=yn (jP p l):=by
 refine qD qbK rfl qX fun Z0 lo=>?_;have hl8:=(qL hv).1;have hpl:(qo p).length=p.fs.length:=by simp [qo]
 refine qb ?_;intros;refine qk rfl rfl (Zl (zL hv) oM) ?_;rintro _ rfl;refine qb ?_;intros;refine ql (fun m E S nk=>∃i:Nat,i+m=p.fs.length/\E=[(1,qz l),(5,.one (.own 1 0 i 1)),(6,yn (qo p)),(7,.int i)]/\S=[(1,.data (((qo p).take i).map qM))]/\nk=2)
  ⟨p.fs.length,_,_,_,[],?wk,0,oM,rfl,rfl,rfl⟩ ?_
 case wk=>exact qm
 rintro m E S nk ⟨i,hi,rfl,rfl,rfl⟩;refine qb ?_;intros;refine qe rfl (fun ht=>?_) (fun ht=>?_)
 ·have ht:i<p.fs.length:=by have:=xC ht;omega
  have e0:=ZF (p:=p) (i:=i) oM;have e1:=j7 e0;have hfew:=j8 hv hF i;have hld:(((qo p).take i).map qM).length=i*1:=by rw [List.length_map,List.length_take];omega
  have htk:((qo p).take (i+1)).map qM=((qo p).take i).map qM++[qM (ww p i)]:=by rw [J6 e0,List.map_append];rfl
  refine qb ?_;intros;refine qk rfl rfl (VM oM) ?_;rintro _ rfl;rw [Ze (iU hv i)];refine qb ?_;intros;refine qV (m:=1) (q:=[qM (ww p i)]) rfl rfl rfl (qH _ hld) ⟨rfl,rfl,_,rfl,rfl⟩ oM oM (by decide) rfl ?_;rw [<-htk];refine qb ?_;intros;refine⟨m-1,oM,_,_,_,[(1,3)],?wk1,i+1,oM,rfl,rfl,rfl⟩
  case wk1=>exact qm
 ·have ht:i=p.fs.length:=by have:=xK ht;omega
  subst ht;rw [List.take_of_length_le (by omega)];refine qb ?_;intros;refine ql (fun m E S nk=>∃i:Nat,i+m=l.length/\E=[(1,qz l),(5,.one (.own 1 0 (p.fs.length+i) 1)),(8,.int i)]/\S=[(1,.data ((qo p++(List.range i).map fun i=>qS i (xH l i)).map qM))]/\nk=2)
   ⟨l.length,_,_,_,[],?wk2,0,oM,rfl,rfl,rfl⟩ ?_
  case wk2=>exact⟨za,⟨congrArg (fun z=>some (Bk.data z)) (by simp),rfl,rfl,trivial⟩,rfl,rfl⟩
  rintro m E S nk ⟨i,hi,rfl,rfl,rfl⟩;refine qb ?_;intros;refine qe rfl (fun ht=>?_) (fun ht=>?_)
  ·have ht:i<l.length:=by have:=xC ht;omega
   obtain⟨q,hq⟩:∃r,l[i]?=some r:=⟨_,zge ht⟩;have e1:=xd hq;have hld:((qo p++(List.range i).map fun i=>qS i (xH l i)).map qM).length=(p.fs.length+i)*1:=by simp [hpl]
   have htk:(qo p++(List.range (i+1)).map fun i=>qS i (xH l i)).map qM=(qo p++(List.range i).map fun i=>qS i (xH l i)).map qM++[qM (qS i q)]:=by
    rw [oC hq,<-List.append_assoc,List.map_append];rfl
   refine qb ?_;intros;refine qk rfl rfl (ki (i:=i) (q:=q) oM (hs q (zmg hq))) ?_;rintro _ rfl;refine qb ?_;intros;refine qV (m:=1) (q:=[qM (qS i q)]) rfl rfl rfl (qH _ hld) ⟨rfl,rfl,_,rfl,rfl⟩ oM oM (by decide) rfl ?_;rw [<-htk];refine qb ?_;intros;refine⟨m-1,oM,_,_,_,[(1,3)],?wk3,i+1,oM,rfl,rfl,rfl⟩
   case wk3=>exact qm
  ·have ht:i=l.length:=by have:=xK ht;omega
   subst ht;have hld:((qo p++(List.range l.length).map fun i=>qS i (xH l i)).map qM).length=(p.fs.length+l.length)*1:=by simp [hpl]
   refine ja ?_;refine qr (qd (k:=5) rfl (qu _)) (qd (k:=1) rfl (qu _)) ?_;refine xt 1 rfl qO qO ?_;refine qb ?_;intros;refine qf ⟨_,rfl,rfl,?_⟩;rw [yn,show (jP p l).length=p.fs.length+l.length by simp [jP,hpl]];rfl
theorem Chk.valid{p:Pic}{r:fF}(hr:Chk p r)(h0:r.2.2=0):qx p=true:=by
 cases hr with
 |arg h=>cases h0
 |bad1 i h hb=>exact h
 |bad2 i k h hg hb=>exact h
 |ok h hg hb=>exact h
theorem aL{p:Pic}{l:List qc}:(jP p l).length=p.fs.length+l.length:=by simp [jP,qo]
theorem aN{p:Pic}(hv:qx p=true)(hF:X3 p){l:List qc}:∀a∈jP p l,a.length<1000000:=fun a ha=>by
 rcases List.mem_append.1 ha with ha|ha
 ·obtain⟨i,hi,rfl⟩:=XQ ha;have:=j8 hv hF i;omega
 ·obtain⟨i,_,rfl⟩:=List.mem_map.1 ha;have:=zw i (xH l i);omega
theorem c7{p:Pic}(hFi:Qq p)(hFe:X3 p):DK 10 [yi p] fun d=>∃r,Drw p r/\d=WX r:=by
 refine qD qbU rfl qX fun Z0 lo=>?_;refine qb ?_;intros;refine qk rfl rfl (nA hFi) ?_;rintro _ ⟨r,hr,rfl⟩;refine qb ?_;intros;refine qe rfl (fun ht=>?_) (fun ht=>?_)
 ·refine qb ?_;intros;exact qf ⟨_,rfl,rfl,_,.chk r hr (by simpa using ht),rfl⟩
 ·have h0:r.2.2=0:=by simpa using ht
  have hv:=hr.valid h0;obtain⟨hg1,hg2⟩:=(hr.ok_iff hv).1 h0;have hl8:=(qL hv).1;have hh:=(qL hv).2.2.1;simp only [yb,xr,xQ] at hh;obtain⟨⟨⟨hw1,hw2⟩,_⟩,⟨hh1,hh2⟩,_⟩:=hh;clear hr ht h0;refine qb ?_;intros;refine qk rfl rfl (HN hv) ?_;rintro _ ⟨q,hq,rfl⟩;refine qb ?_;intros;refine qe rfl (fun ht=>?_) (fun ht=>?_)
  ·refine qb ?_;intros;exact qf ⟨_,rfl,rfl,_,.bad hv hg1 hg2 q hq (by simpa using ht),rfl⟩
  ·have h0:q.2.2=0:=by simpa using ht
   obtain⟨hql,_,hqs⟩:=Zr hv hq h0;refine qb ?_;intros;refine qk rfl rfl (rP (l:=q.1) hv hFe oM hqs) ?_;rintro _ rfl;refine qb ?_;intros;refine qk rfl rfl (e7 (p:=p) (parts:=jP p q.1) (by omega) (by omega) (by rw [aL];omega) (aN hv hFe)) ?_;rintro _ rfl;refine qb ?_;intros;refine qf ⟨_,rfl,rfl,_,.ok hv hg1 hg2 q hq h0,?_⟩;rw [WX,<-Jj (Jk (p:=p) hql)];rfl
def XM(p:Pic)(d:qI):Nat->List qc->Bool
 |0,l=>y4 p l&&decide (wp p (jP p l)=d)
 |n+1,l=>y4 p l&&(QR p.w p.h d l.length).any fun q=>XM p d n (l++[q])
theorem iQ{w h:Int}{d:qI}{i:Nat}{q:qc}:q∈QR w h d i↔(∃x y:Nat,x<(w/2).toNat-1/\y<(h/3).toNat/\q=((x:Int),(y:Int)))/\dZ w h d i q=true:=by
 simp only [QR,Wq,Xh,List.mem_flatMap,List.mem_range,List.mem_filter,List.mem_map];constructor
 ·rintro ⟨y,hy,⟨x,hx,rfl⟩,h2⟩;exact⟨⟨x,y,hx,hy,rfl⟩,h2⟩
 ·rintro ⟨⟨x,y,hx,hy,rfl⟩,h2⟩;exact⟨y,hy,⟨x,hx,rfl⟩,h2⟩
theorem eX{p:Pic}{d:qI}(hv:qx p=true)(hFe:X3 p)(hd:Sz p.w.toNat p.h.toNat d):∀(n:Nat) {l:List qc},l.length+n=p.fs.length->(∀q∈l,qC 1000000 q)->DK 44 [yi p,yx p.w p.h d,qz l] fun r=>r=.bool (XM p d n l)
 |0,l,hl,hs=>by
  refine qD HX rfl qX fun Z0 lo=>?_;have hl8:=(qL hv).1;have hh:=(qL hv).2.2.1;simp only [yb,xr,xQ] at hh;obtain⟨⟨⟨hw1,hw2⟩,_⟩,⟨hh1,hh2⟩,_⟩:=hh;have hwn:((p.w.toNat:Nat):Int)=p.w:=by omega
  have hhn:((p.h.toNat:Nat):Int)=p.h:=by omega
  have b1:((l.length:Int)==(p.fs.length:Int))=true:=by rw [<-hl];simp
  have hsm:=rQ (w:=p.w.toNat) (h:=p.h.toNat) oM oM (Zs p (jP p l)) hd;rw [hwn,hhn] at hsm;refine qb ?_;intros;refine qk rfl rfl (bR hv hs) ?_;rintro _ rfl;cases hlf:y4 p l with
  |false=>
   refine qb ?_;intros;refine qe rfl (fun _=>?_) (fun h=>by cases h);refine qb ?_;intros;refine qf ⟨_,rfl,rfl,?_⟩;rw [XM,hlf];rfl
  |true=>
   refine qb ?_;intros;refine qe rfl (fun h=>by cases h) (fun _=>?_);refine qU ?_;intros;refine qe rfl (fun _=>?_) (fun h=>by cases h);refine qb ?_;intros;refine qk rfl rfl (rP (l:=l) hv hFe oM hs) ?_;rintro _ rfl;refine qb ?_;intros;refine qk rfl rfl (e7 (p:=p) (parts:=jP p l) (by omega) (by omega) (by rw [aL];omega) (aN hv hFe)) ?_;rintro _ rfl;refine qb ?_;intros;refine qk rfl rfl hsm ?_;rintro _ rfl;refine qb ?_;intros;refine qf ⟨_,rfl,rfl,?_⟩;rw [XM,hlf,Bool.true_and]
 |n+1,l,hl,hs=>by
  have ih:=fun (q:qc) (hq:qC 1000000 q)=>eX (p:=p) (d:=d) hv hFe hd n (l:=l++[q]) (by rw [List.length_append,List.length_singleton];omega) (fun (r:qc) hr=>by
   rcases List.mem_append.1 hr with hr|hr
   ·exact hs r hr
   ·rw [List.mem_singleton] at hr;rw [hr];exact hq)
  refine qD HX rfl qX fun Z0 lo=>?_;have hl8:=(qL hv).1;have hh:=(qL hv).2.2.1;simp only [yb,xr,xQ] at hh;obtain⟨⟨⟨hw1,hw2⟩,_⟩,⟨hh1,hh2⟩,_⟩:=hh;have b1:((l.length:Int)==(p.fs.length:Int))=false:=by
   have:¬(l.length:Int)=p.fs.length:=by omega
   simpa using this
  refine qb ?_;intros;refine qk rfl rfl (bR hv hs) ?_;rintro _ rfl;cases hlf:y4 p l with
  |false=>
   refine qb ?_;intros;refine qe rfl (fun _=>?_) (fun h=>by cases h);refine qb ?_;intros;refine qf ⟨_,rfl,rfl,?_⟩;rw [XM,hlf];rfl
  |true=>
   refine qb ?_;intros;refine qe rfl (fun h=>by cases h) (fun _=>?_);refine qU ?_;intros;refine qe rfl (fun h=>by cases h) (fun _=>?_);refine qb ?_;intros;refine qk rfl rfl (HP (i:=l.length) hv oM hd) ?_;rintro _ rfl;have hsr:XM p d (n+1) l=(QR p.w p.h d l.length).any fun q=>XM p d n (l++[q]):=by rw [XM,hlf,Bool.true_and]
   have hCs:∀q∈QR p.w p.h d l.length,qC 1000000 q:=fun q hq=>by
    obtain⟨⟨x,y,hx,hy,rfl⟩,_⟩:=iQ.1 hq;unfold qC;simp only;omega
   have hCn:(QR p.w p.h d l.length).length<=1000000:=by
    have h1:=Vy (w:=p.w) (h:=p.h) (d:=d) (i:=l.length) (nw:=(p.w/2).toNat-1) (p.h/3).toNat;have h2:(p.h/3).toNat*((p.w/2).toNat-1)<=20*30:=Nat.mul_le_mul oM oM;rw [QR];omega
   generalize QR p.w p.h d l.length=C at *;refine qb ?_;intros;refine ql (fun m E S nk=>∃k:Nat,k+m=C.length/\((C.take k).any fun q=>XM p d n (l++[q]))=false/\E=[(2,qz l),(3,.one (.ptr 0 0)),(4,.one (.ptr 1 0)),(8,qz C),(9,.int k)]/\S=[(0,.cells (yj p)),(1,.cells (zi p.w p.h d))]/\nk=2)
    ⟨C.length,_,_,_,[],?wk,0,oM,rfl,rfl,rfl,rfl⟩ ?_
   case wk=>exact qm
   rintro m E S nk ⟨k,hk,hno,rfl,rfl,rfl⟩;refine qb ?_;intros;refine qe rfl (fun ht=>?_) (fun ht=>?_)
   ·have ht:k<C.length:=by have:=xC ht;omega
    obtain⟨q,hq⟩:∃q,C[k]?=some q:=⟨_,zge ht⟩;have e1:=xd hq;have hfl:=xb l;have hfl2:=xb (l++[q]);refine qb ?_;intros;refine qV (m:=l.length) (q:=l.flatMap qh) rfl rfl rfl (qH _ (show ([]:List FD).length=0*2 from rfl)) ⟨rfl,rfl,rfl⟩ (by omega) (by omega) (by decide) rfl ?_;rw [List.nil_append,Nat.zero_add];refine qb ?_;intros;refine qV (m:=1) (q:=qh q) rfl rfl rfl (qH _ hfl) ⟨rfl,rfl,_,rfl,rfl⟩ oM oM (by decide) rfl ?_;rw [show l.flatMap qh++qh q=(l++[q]).flatMap qh by simp,show l.length+1=(l++[q]).length by simp];refine qb ?_;intros;refine Qb 5 rfl qO qO ?_;refine qk rfl rfl (ih q (hCs q (zmg hq))) ?_;rintro _ rfl;cases hsq:XM p d n (l++[q]) with
    |true=>
     refine qb ?_;intros;refine qe rfl (fun _=>?_) (fun h=>by cases h);refine qb ?_;intros;refine qf ⟨_,rfl,rfl,?_⟩;rw [hsr,List.any_eq_true.2 ⟨q,zmg hq,hsq⟩]
    |false=>
     refine qb ?_;intros;refine qe rfl (fun h=>by cases h) (fun _=>?_);refine qb ?_;intros;refine⟨m-1,oM,_,_,_,[],?wk1,k+1,oM,?_,rfl,rfl,rfl⟩
     case wk1=>exact qm
     rw [List.take_add_one,hq,List.any_append,hno];simp [hsq]
   ·have ht:k=C.length:=by have:=xK ht;omega
    subst ht;rw [List.take_length] at hno;refine qb ?_;intros;refine qf ⟨_,rfl,rfl,?_⟩;rw [hsr,hno]
end Go.Ag

namespace Go.Ag
open Go.Ab Go.Proofs
def XW(L:List (List qc × Nat)):List (Int × Int × Nat):=L.map fun c=>((hd c.1).1,(hd c.1).2,c.2)
def J4(L:List (List qc × Nat)):List DC:=L.map fun c=>.f (qM c.1)
def zQ(L:List (List qc × Nat)):List (List qc):=L.map fun c=>c.1
def QU(L:List (List qc × Nat))(clk:Nat):Bk:=.mp (.sm (XW L) clk) (J4 L)
theorem Qx(ρ:List (Nat × Nat))(L:List (List qc × Nat))(clk:Nat):XO ρ (QU L clk)=QU L clk:=by
 have h:∀L:List (List qc × Nat),KY ρ (J4 L)=J4 L:=by
  intro L;induction L with
  |nil=>rfl
  |cons c L ih=>exact congrArg (DC.f (qM c.1)::·) ih
 simp only [QU,XO,h]
theorem Qv{n:Nat}(L:List (List qc × Nat))(clk:Nat):Wa n (QU L clk)=true:=by
 have h:∀L:List (List qc × Nat),qW (vL n) (J4 L)=true:=by
  intro L;induction L with
  |nil=>rfl
  |cons c L ih=>exact ih
 exact h L
theorem lU{k:qc}{c:List qc}:y9 k c=true↔k.1=(hd c).1/\k.2=(hd c).2:=by
 unfold y9;rw [xQ];exact⟨fun h=>by rw [h];exact⟨rfl,rfl⟩,fun h=>Prod.ext h.1.symm h.2.symm⟩
inductive At (L:List (List qc × Nat)) (k:qc):Option Nat->Prop
 |no (h1:Q5 (zQ L) k=[]) (h2:(zQ L).any (y9 k)=false) (h3:cut (zQ L) k=zQ L):At L k none
 |yes (i:Nat) (c:List qc) (hi:i<L.length) (hc:(J4 L)[i]?=some (.f (qM c))) (h1:Q5 (zQ L) k=c) (h2:(zQ L).any (y9 k)=true) (h3:zQ (L.eraseIdx i)=cut (zQ L) k) (h4:XW (L.eraseIdx i)=(XW L).eraseIdx i) (h5:J4 (L.eraseIdx i)=(J4 L).eraseIdx i):At L k (some i)
theorem NL(k:qc):∀L:List (List qc × Nat),At L k (ke k.1 k.2 (XW L))
 |[]=>.no rfl rfl rfl
 |c::L=>by
  have ih:=NL k L;have e:XW (c::L)=((hd c.1).1,(hd c.1).2,c.2)::XW L:=rfl;rw [e,ke];by_cases h:k.1=(hd c.1).1/\k.2=(hd c.1).2
  ·rw [if_pos h];have hh:=lU.2 h;refine .yes 0 c.1 (by simp) rfl ?_ ?_ ?_ rfl rfl
   ·simp only [Q5,zQ,List.map_cons,List.find?_cons,hh];rfl
   ·simp only [zQ,List.map_cons,List.any_cons,hh,Bool.true_or]
   ·simp only [cut,zQ,List.map_cons,List.eraseP_cons,hh,List.eraseIdx_zero,List.tail_cons,cond_true]
  ·rw [if_neg h];have hh:y9 k c.1=false:=by
    rw [Bool.eq_false_iff];exact fun h2=>h (lU.1 h2)
   generalize ke k.1 k.2 (XW L)=o at ih;cases ih with
   |no h1 h2 h3=>
    refine .no ?_ ?_ ?_
    ·simp only [Q5,zQ,List.map_cons,List.find?_cons,hh];exact h1
    ·simp only [zQ,List.map_cons,List.any_cons,hh,Bool.false_or];exact h2
    ·simp only [cut,zQ,List.map_cons,List.eraseP_cons,hh,cond_false];exact congrArg (c.1::·) h3
   |yes i x hi hc h1 h2 h3 h4 h5=>
    refine .yes (i+1) x (by simp;omega) (by simpa [J4] using hc) ?_ ?_ ?_ ?_ ?_
    ·simp only [Q5,zQ,List.map_cons,List.find?_cons,hh];exact h1
    ·simp only [zQ,List.map_cons,List.any_cons,hh,Bool.false_or];exact h2
    ·simp only [cut,zQ,List.map_cons,List.eraseP_cons,hh,cond_false,List.eraseIdx_cons_succ];exact congrArg (c.1::·) h3
    ·simp only [List.eraseIdx_cons_succ];exact congrArg (((hd c.1).1,(hd c.1).2,c.2)::·) h4
    ·simp only [List.eraseIdx_cons_succ];exact congrArg (DC.f (qM c.1)::·) h5
section
variable{p:Par}{base rs:Nat}{Q:qp->Bx->Nat->Prop}{r:List SOper}{W:Wt}{A:List Nat}{E:qp}{S:Bx}{nk:Nat}{id:Nat}{dst:Option Nat}{aid:Option Nat}{ws:List Nat}{keep:Bool}
theorem P7 {m k x:Opd} {kb clk:Nat} {c:List qc} {q:qc} {L:List (List qc × Nat)} (hm:ro E m=some (.one (.om kb))) (hk:ro E k=some (zd q)) (hx:ro E x=some (qz c)) (hq:hd c=q) (hb:lk S kb=some (QU L clk)) (hn:(zQ L).any (y9 q)=false) (hW:jH S kb W=true)
 (h:DPW p base rs Q r W A (xn E dst .undef) (put kb (QU (L++[(c,clk)]) (clk+1)) S) nk):DPW p base rs Q (⟨id,dst,.e (.stupd m k x),none,aid,ws,keep⟩::r) W A E S nk:=by
 have ha:=NL q L;have hkf:ke q.1 q.2 (XW L)=none:=by
  generalize ke q.1 q.2 (XW L)=o at ha;cases ha with
  |no=>rfl
  |yes i c hi hc h1 h2 h3 h4 h5=>rw [hn] at h2;cases h2
 refine G8 hm hk hx hb hkf hW ?_;have e1:XW (L++[(c,clk)])=XW L++[(q.1,q.2,clk)]:=by simp [XW,hq]
 have e2:J4 (L++[(c,clk)])=J4 L++[.f (qM c)]:=by simp [J4]
 rw [QU,e1,e2] at h;exact h
theorem rI {ok:Bool} {m k:Opd} {kb clk:Nat} {q:qc} {L:List (List qc × Nat)} (hm:ro E m=some (.one (.om kb))) (hk:ro E k=some (zd q)) (hb:lk S kb=some (QU L clk))
 (h:DPW p base rs Q r W A (xn E dst (okD ok (.f (qM (Q5 (zQ L) q))) ((zQ L).any (y9 q)))) S nk):DPW p base rs Q (⟨id,dst,.e (.stlook (.one .nils) ok m k),none,aid,ws,keep⟩::r) W A E S nk:=by
 have ha:=NL q L;generalize hkf:ke q.1 q.2 (XW L)=o at ha;cases ha with
 |no h1 h2 h3=>
  rw [h1,h2] at h;exact uE hm hk hb hkf (fun Z H=>RF.nil 2) h
 |yes i c hi hc h1 h2 h3 h4 h5=>
  rw [h1,h2] at h;exact DJ hm hk hb hkf (by simpa [XW] using hi) hc h
theorem rH {m k:Opd} {kb clk:Nat} {q:qc} {L:List (List qc × Nat)} (hm:ro E m=some (.one (.om kb))) (hk:ro E k=some (zd q)) (hb:lk S kb=some (QU L clk)) (hn:(zQ L).any (y9 q)=true) (hW:jH S kb W=true)
 (h:∀L',zQ L'=cut (zQ L) q->DPW p base rs Q r W A (xn E dst .undef) (put kb (QU L' clk) S) nk):DPW p base rs Q (⟨id,dst,.e (.stdel m k),none,aid,ws,keep⟩::r) W A E S nk:=by
 have ha:=NL q L;generalize hkf:ke q.1 q.2 (XW L)=o at ha;cases ha with
 |no h1 h2 h3=>rw [hn] at h2;cases h2
 |yes i c hi hc h1 h2 h3 h4 h5=>
  refine HA hm hk hb hkf hW ?_;have h:=h (L.eraseIdx i) h3;rw [QU,h4,h5] at h;exact h
theorem rF {m:Opd} {kb clk:Nat} {L:List (List qc × Nat)} (hm:ro E m=some (.one (.om kb))) (hb:lk S kb=some (QU L clk))
 (h:DPW p base rs Q r W A (xn E dst (.int (zQ L).length)) S nk):DPW p base rs Q (⟨id,dst,.e (.stlen m),none,aid,ws,keep⟩::r) W A E S nk:=by
 refine G9 hm hb ?_;rw [show (XW L).length=(zQ L).length by simp [XW,zQ]];exact h
end
end Go.Ag

namespace Go.Ag
open Go.Ab Go.Proofs
theorem rR{a b:List qc}(hn:a.length<1000000000)(hm:b.length<1000000000):DK 41 [qz a,qz b] fun d=>d=.bool (decide (a=b)):=by
 refine qD qbx rfl qX fun Z0 lo=>?_;refine qb ?_;intros;refine qe rfl (fun ht=>?_) (fun ht=>?_)
 ·refine qb ?_;intros;refine qf ⟨_,rfl,rfl,?_⟩;rw [decide_eq_false];intro e;subst e;simp at ht
 ·have hl:a.length=b.length:=by
   have:((a.length:Int))=b.length:=by simpa using ht
   omega
  refine qb ?_;intros;refine ql (fun m E S nk=>∃k:Nat,k+m=a.length/\a.take k=b.take k/\E=[(0,qz a),(1,qz b),(12,.int a.length),(13,.int k)]/\S=[]/\nk=0) ⟨a.length,_,_,_,[],?wk,0,by omega,by simp,rfl,rfl,rfl⟩ ?_
  case wk=>exact qm
  rintro m E S nk ⟨k,hk,htk,rfl,rfl,rfl⟩;refine qb ?_;intros;refine qe rfl (fun hi=>?_) (fun hi=>?_)
  ·have hi:k<a.length:=by have:=xC hi;omega
   obtain⟨p,hp⟩:∃q,a[k]?=some q:=⟨_,zge hi⟩;obtain⟨q,hq⟩:∃q,b[k]?=some q:=⟨_,zge oM⟩;have e1:=xd hp;have e2:=xd hq;refine qb ?_;intros;refine zJ (vd (p:=p) (q:=q) rfl rfl) ?_;refine qb ?_;intros;refine qe rfl (fun he=>?_) (fun he=>?_)
   ·refine qb ?_;intros;refine qf ⟨_,rfl,rfl,?_⟩;rw [decide_eq_false];intro e;subst e;rw [hp] at hq;obtain rfl:=zsi hq;simp at he
   ·have he:p=q:=by simpa using he
    subst he;refine qb ?_;intros;refine⟨m-1,oM,_,_,_,[],?wk1,k+1,oM,?_,rfl,rfl,rfl⟩
    case wk1=>exact qm
    rw [List.take_add_one,List.take_add_one,hp,hq,htk]
  ·have hi:k=a.length:=by have:=xK hi;omega
   subst hi;refine qb ?_;intros;refine qf ⟨_,rfl,rfl,?_⟩;rw [List.take_length,hl,List.take_length] at htk;rw [decide_eq_true htk]
def qtw(i:Nat)(cs:List (List qc))(L:List (List qc × Nat))(clk:Nat)(T:List FD)(d:DV)(S':Bx)(nk:Nat):Prop:=((∃c L',Ym i cs (zQ L)=some c/\zQ L'=cut (zQ L) (hd c)/\d=.tup [zd (QH (hd c)),.bool true]/\S'=[(0,QU L' clk),(1,.data T)]/\nk=4)\/(Ym i cs (zQ L)=none/\d=.tup [zd (0,0),.bool false]/\S'=[(0,QU L clk),(1,.data T)]/\nk=3))
theorem eR{i:Nat}{cs L:List (List qc)}{k:Nat}{c:List qc}(hc:cs[k]?=some c)(h:(cs.take k).find? (wy i L)=none)(hn:wy i L c=false):(cs.take (k+1)).find? (wy i L)=none:=by
 rw [List.take_add_one,hc,List.find?_append,h];simp [hn]
theorem CT{i:Nat}{cs L:List (List qc)}{k:Nat}{c:List qc}(hc:cs[k]?=some c)(h:(cs.take k).find? (wy i L)=none)(hn:wy i L c=true):Ym i cs L=some c:=by
 have hk:=(zgs hc).1;have e:cs=cs.take k++c::cs.drop (k+1):=by
  rw [<-(zgs hc).2,List.getElem_cons_drop,List.take_append_drop]
 unfold Ym;rw [e,List.find?_append,h];simp [hn]
theorem TD{i clk:Nat}{cs:List (List qc)}{L:List (List qc × Nat)}{T:List FD}(hi:i<8)(hn:cs.length<1000000)(hcs:∀c∈cs,c≠[]/\c.length<1000000/\∀q∈c,zO q=true):Z4 42 [.int i,yn cs,.one (.om 0)] [(0,QU L clk),(1,.data T)] 2 (qtw i cs L clk T):=by
 refine va qbw rfl fun Z β H lo=>?_;refine qb ?_;intros;refine ql (fun m E S nk=>∃k:Nat,k+m=cs.length/\(cs.take k).find? (wy i (zQ L))=none/\E=[(0,.int i),(2,.one (.om 0)),(6,.one (.ptr 2 0)),(13,yn cs),(14,.int cs.length),(15,.int k)]/\S=[(2,.cells [.f (.c (.int .i64 0)),.f (.c (.int .i64 0))]),(0,QU L clk),(1,.data T)]/\nk=3)
  ⟨cs.length,_,_,_,[],?wk,0,oM,rfl,rfl,rfl,rfl⟩ ?_
 case wk=>exact⟨za,⟨rfl,rfl,rfl,by rw [Qx];rfl,Qv _ _,rfl,rfl,rfl,rfl,trivial⟩,rfl,rfl⟩
 rintro m E S nk ⟨k,hk,hnf,rfl,rfl,rfl⟩;refine qb ?_;intros;refine qe rfl (fun ht=>?_) (fun ht=>?_)
 ·have ht:k<cs.length:=by have:=xC ht;omega
  obtain⟨c,hc⟩:∃c,cs[k]?=some c:=⟨_,zge ht⟩;obtain⟨hne,hcl,h60⟩:=hcs c (zmg hc);have e1:=j7 hc;have hq:c[0]?=some (hd c):=by
   obtain⟨a,t,rfl⟩:=List.exists_cons_of_ne_nil hne;rfl
  have hc0:=(zgs hq).1;have e2:=xd hq;have hq60:=h60 _ (zmg hq);simp only [zO,xr,xQ] at hq60;have w1:IntKind.i64.wrap ((hd c).1.tdiv 2)=(hd c).1.tdiv 2:=by rw [Int.tdiv_eq_ediv_of_nonneg (by omega)];exact qq (by omega) (by omega)
  have w2:IntKind.i64.wrap ((hd c).2.tdiv 3)=(hd c).2.tdiv 3:=by rw [Int.tdiv_eq_ediv_of_nonneg (by omega)];exact qq (by omega) (by omega)
  have hat:qC 1000000 (QH (hd c)):=by
   unfold qC QH;simp only;rw [Int.tdiv_eq_ediv_of_nonneg (by omega),Int.tdiv_eq_ediv_of_nonneg (by omega)];omega
  have hll:=zw i (QH (hd c));refine qb ?_;intros;refine rI rfl rfl rfl ?_;cases hany:(zQ L).any (y9 (hd c)) with
  |false=>
   have hnl:wy i (zQ L) c=false:=by rw [wy,hany,Bool.false_and]
   refine qb ?_;intros;refine qe rfl (fun _=>?_) (fun h=>by cases h);refine qb ?_;intros;refine⟨m-1,oM,_,_,_,[],?wk1,k+1,oM,eR hc hnf hnl,rfl,rfl,rfl⟩
   case wk1=>exact⟨za,⟨rfl,rfl,rfl,by rw [Qx];rfl,Qv _ _,rfl,rfl,rfl,rfl,trivial⟩,rfl,rfl⟩
  |true=>
   refine qb ?_;intros;refine qe rfl (fun h=>by cases h) (fun _=>?_);refine qb ?_;intros;rw [w1,w2];refine qk rfl rfl (XZ (i:=i) (q:=QH (hd c)) hi hat) ?_;rintro _ rfl;refine qb ?_;intros;refine qk rfl rfl (rR (a:=c) (b:=qS i (QH (hd c))) oM oM) ?_;rintro _ rfl;by_cases heq:c=qS i (QH (hd c))
   ·have hyl:wy i (zQ L) c=true:=by rw [wy,hany,decide_eq_true heq];rfl
    rw [decide_eq_true heq];refine qb ?_;intros;refine qe rfl (fun _=>?_) (fun h=>by cases h);refine qb ?_;intros;refine rH rfl rfl rfl hany rfl (fun L' hL'=>?_);refine qb ?_;intros;exact qf ⟨_,rfl,rfl,_,qd rfl (qd rfl (qu _)),.inl ⟨c,L',CT hc hnf hyl,hL',rfl,rfl,rfl⟩⟩
   ·have hnl:wy i (zQ L) c=false:=by rw [wy,hany,decide_eq_false heq];rfl
    rw [decide_eq_false heq];refine qb ?_;intros;refine qe rfl (fun h=>by cases h) (fun _=>?_);refine qb ?_;intros;refine⟨m-1,oM,_,_,_,[],?wk2,k+1,oM,eR hc hnf hnl,rfl,rfl,rfl⟩
    case wk2=>exact⟨za,⟨rfl,rfl,rfl,by rw [Qx];rfl,Qv _ _,rfl,rfl,rfl,rfl,trivial⟩,rfl,rfl⟩
 ·have ht:k=cs.length:=by have:=xK ht;omega
  subst ht;rw [List.take_length] at hnf;refine qb ?_;intros;exact qf ⟨_,rfl,rfl,_,qd rfl (qd rfl (qu _)),.inr ⟨hnf,rfl,rfl,rfl⟩⟩
theorem ClS.count{g:Int}{l:List qc}{cs:List (List qc)}(hl:qK l)(h:ClS g l cs):cs.length<=l.length/\∀c∈cs,c.length<=l.length:=by
 constructor
 ·have:=wC (h.heads hl).nodup (b:=l) fun x hx=>by
   obtain⟨c,hc,rfl⟩:=List.mem_map.1 hx;obtain⟨p,t,hpt,_⟩:=h.first hl c hc;rw [hpt];exact h.mem c hc p (by rw [hpt];simp)
  simpa using this
 ·intro c hc;exact wC (h.rows c hc).nodup (h.mem c hc)
end Go.Ag
