/- -/
import Derived.Test.YtandgamnamkkhaaGreatDoorAb35
set_option linter.unusedSimpArgs false
set_option maxHeartbeats 16000000
set_option linter.unusedVariables false
set_option maxRecDepth 8000
namespace Go.Ah
open Go.Ab Go.Proofs
def kX(f:qd->List qd)(N:Nat):List qd->List qd
 |[]=>[]
 |c::cs=>if (f c).length=N then f c else kX f N cs
def zJ(g:Int)(all:List (List qd)):Nat->List qd->List qd
 |0,l=>l
 |n+1,l=>kX (fun c=>if jr g l c l.length=true then zJ g all n (l++[c]) else []) all.length ((all[l.length]?).getD [])
theorem LJ{p:Par}{base rs:Nat}{Q:qo->Bx->Nat->Prop}{r:List SOper}{W:Wt}{A:List Nat}{E:qo}{S:Bx}{nk:Nat}{t:Nat}(e:Nat){x y:DC}(ht:lk E t=some (.agg [.f (.c .nils),x,y]))(h:DPW p base rs Q r W A ((t,.agg [.f (.sl e 0 []),x,y])::E) S nk):DPW p base rs Q r W A E S nk:=.mk fun Z β H F c QP hS hE hC hA=>by
 refine h.run Z β H F c QP hS (fun k d hd=>?_) hC hA;rw [qR] at hd;split at hd
 ·rename_i e;subst e;obtain rfl:=zsi hd;obtain⟨v,hv,cs,rfl,hr⟩:=hE _ _ ht
  match cs,hr with
  |[c1,c2,c3],⟨h1,h2,h3,_⟩=>
   have h1:RF Z H (.c .nils) c1:=h1;cases h1;exact⟨_,hv,_,rfl,RF.nil _,h2,h3,trivial⟩
 ·exact hE k d hd
def xR(p:Pic)(i:Nat):List (List qd):=(List.range i).map (yH p)
def XS(p:Pic)(i:Nat):List qd:=zJ p.gap (xR p (i+1)) (i+1) []
abbrev GU:=List qd × Int × Int
def Ep(r:GU):DV:=.agg [.f (.sl 2 r.1.length (r.1.flatMap qh)),.f (.c (.int .i64 r.2.1)),.f (.c (.int .i64 r.2.2))]
inductive PlcR (p:Pic):GU->Prop
 |bad (i:Nat) (hi:i<p.fs.length) (hb:(XS p i).length<=i) (hok:∀j,j<i->¬(XS p j).length<=j):PlcR p ([],(i:Int),150)
 |ok (hok:∀j,j<p.fs.length->¬(XS p j).length<=j):PlcR p (XS p (p.fs.length-1),((XS p (p.fs.length-1)).length:Int),0)
theorem WJ{p:Pic}(hv:qJ p=true)(i:Nat):(∀q∈yH p i,qB 1000000 q)/\(yH p i).length<1000000:=by
 have hh:=(xr hv).2.2.1;simp only [yo,xt,xF] at hh;have h1:(p.w/2).toNat-1<=30:=by omega
 have h2:(p.h/3).toNat<=20:=by omega
 refine⟨fun q hq=>?_,?_⟩
 ·unfold yH QR at hq;obtain⟨y,hy,hq⟩:=List.mem_flatMap.1 hq;unfold ky at hq;obtain⟨x,hx,rfl⟩:=List.mem_map.1 (List.mem_filter.1 hq).1;have:=List.mem_range.1 hx;have:=List.mem_range.1 hy;unfold qB;simp only;omega
 ·have h3:=Zb p i ((p.w/2).toNat-1) (p.h/3).toNat;have h4:(p.h/3).toNat*((p.w/2).toNat-1)<=20*30:=Nat.mul_le_mul h2 h1;unfold yH;omega
structure LegL (g:Int) (all:List (List qd)) (l:List qd):Prop where
 le:l.length<=all.length
 ch:∀(i:Nat) (q:qd),l[i]?=some q->q∈(all[i]?).getD []
 ap:∀(i k:Nat) (a b:qd),k<i->l[i]?=some a->l[k]?=some b->wx g i a k b=false
theorem WI(g:Int)(i k:Nat)(a b:qd):wx g i a k b=wx g k b i a:=by unfold wx;rw [AO]
theorem LegL.nil(g:Int)(all:List (List qd)):LegL g all []:=⟨Nat.zero_le _,fun _ _ h=>by simp at h,fun _ _ _ _ _ h=>by simp at h⟩
theorem LegL.take{g:Int}{all:List (List qd)}{l:List qd}(h:LegL g all l)(n:Nat):LegL g all (l.take n):=by
 have e:∀{i:Nat} {q:qd},(l.take n)[i]?=some q->l[i]?=some q:=fun {i q} hi=>by
  rw [List.getElem?_take] at hi;split at hi
  ·exact hi
  ·cases hi
 exact⟨by rw [List.length_take];have:=h.le;omega,fun i q hi=>h.ch i q (e hi),fun i k a b hk ha hb=>h.ap i k a b hk (e ha) (e hb)⟩
theorem LegL.all{g:Int}{all all':List (List qd)}{l:List qd}(h:LegL g all l)(hl:l.length<=all'.length)(he:∀i,i<l.length->all'[i]?=all[i]?):LegL g all' l:=
 ⟨hl,fun i q hi=>by rw [he i (zgs hi).1];exact h.ch i q hi,h.ap⟩
theorem Ju{g:Int}{l:List qd}{c:qd}:jr g l c l.length=true↔∀(j:Nat) (b:qd),l[j]?=some b->wx g l.length c j b=false:=by
 unfold jr;rw [List.all_eq_true];constructor
 ·intro h j b hb;have:=h j (List.mem_range.2 (zgs hb).1);rw [zg hb] at this;simpa using this
 ·intro h j hj;obtain⟨b,hb⟩:∃r,l[j]?=some r:=⟨_,zge (List.mem_range.1 hj)⟩;rw [zg hb,h j b hb];rfl
theorem JV{α:Type}{l:List α}{c q:α}{i:Nat}(h:(l++[c])[i]?=some q):l[i]?=some q\/(i=l.length/\q=c):=by
 rcases Nat.lt_trichotomy i l.length with hi|hi|hi
 ·rw [List.getElem?_append_left hi] at h;exact .inl h
 ·subst hi;simp at h;exact .inr ⟨rfl,h.symm⟩
 ·rw [List.getElem?_eq_none (by simp;omega)] at h;cases h
theorem LegL.snoc{g:Int}{all:List (List qd)}{l:List qd}{c:qd}(h:LegL g all l)(hl:l.length<all.length)(hc:c∈(all[l.length]?).getD [])(hf:jr g l c l.length=true):LegL g all (l++[c]):=by
 refine⟨by rw [List.length_append,List.length_singleton];omega,fun i q hi=>?_,fun i k a b hk ha hb=>?_⟩
 ·rcases JV hi with hi|⟨rfl,rfl⟩
  ·exact h.ch i q hi
  ·exact hc
 ·rcases JV ha with g1|⟨g1,g2⟩
  ·rcases JV hb with g3|⟨g3,g4⟩
   ·exact h.ap i k a b hk g1 g3
   ·have:=(zgs g1).1;omega
  ·rcases JV hb with g3|⟨g3,g4⟩
   ·rw [g1,g2];exact Ju.1 hf k b g3
   ·omega
theorem XN{f:qd->List qd}{N:Nat}:∀cs:List qd,(kX f N cs=[]/\∀c∈cs,(f c).length≠N)\/∃(i:Nat) (c:qd),cs[i]?=some c/\(∀x∈cs.take i,(f x).length≠N)/\(f c).length=N/\kX f N cs=f c
 |[]=>.inl ⟨rfl,fun c hc=>by cases hc⟩
 |c::cs=>by
  by_cases h:(f c).length=N
  ·exact .inr ⟨0,c,rfl,fun x hx=>by simp at hx,h,by rw [kX,if_pos h]⟩
  ·rcases XN cs with⟨h1,h2⟩|⟨i,d,h1,h2,h3,h4⟩
   ·refine .inl ⟨by rw [kX,if_neg h,h1],fun x hx=>?_⟩;rcases List.mem_cons.1 hx with rfl|hx
    ·exact h
    ·exact h2 x hx
   ·refine .inr ⟨i+1,d,by simpa using h1,fun x hx=>?_,h3,by rw [kX,if_neg h,h4]⟩;rw [List.take_succ_cons] at hx;rcases List.mem_cons.1 hx with rfl|hx
    ·exact h
    ·exact h2 x hx
theorem G1{f:qd->List qd}{N:Nat}{cs:List qd}{i:Nat}{c:qd}(h:cs[i]?=some c)(hb:∀x∈cs.take i,(f x).length≠N)(hc:(f c).length=N):kX f N cs=f c:=by
 induction cs generalizing i with
 |nil=>simp at h
 |cons x cs ih=>
  cases i with
  |zero=>simp at h;subst h;rw [kX,if_pos hc]
  |succ i=>
   rw [kX,if_neg (hb x (by simp)),ih (by simpa using h) fun y hy=>hb y (by rw [List.take_succ_cons];exact List.mem_cons_of_mem _ hy)]
def kZ(g:Int)(all:List (List qd))(n:Nat)(l:List qd)(c:qd):List qd:=if jr g l c l.length=true then zJ g all n (l++[c]) else []
theorem JU(g:Int)(all:List (List qd))(n:Nat)(l:List qd):zJ g all (n+1) l=kX (kZ g all n l) all.length ((all[l.length]?).getD []):=rfl
theorem B1{g:Int}{all:List (List qd)}:∀{n:Nat} {l:List qd},l.length+n=all.length->(zJ g all n l).length=all.length\/zJ g all n l=[]
 |0,l,h=>.inl (by rw [zJ];omega)
 |n+1,l,h=>by
  rw [JU];rcases XN (f:=kZ g all n l) (N:=all.length) ((all[l.length]?).getD []) with⟨h1,_⟩|⟨_,c,_,_,h3,h4⟩
  ·exact .inr h1
  ·rw [h4];exact .inl h3
theorem QI{g:Int}{all:List (List qd)}:∀{n:Nat} {l:List qd},LegL g all l->l.length+n=all.length->(zJ g all n l).length=all.length->LegL g all (zJ g all n l)/\∃t,zJ g all n l=l++t
 |0,l,hl,_,_=>⟨hl,[],by rw [zJ,List.append_nil]⟩
 |n+1,l,hl,hn,hlen=>by
  rw [JU] at hlen ⊢;rcases XN (f:=kZ g all n l) (N:=all.length) ((all[l.length]?).getD []) with⟨h1,_⟩|⟨i,c,h1,_,h3,h4⟩
  ·rw [h1] at hlen;simp at hlen;omega
  ·rw [h4];have hpos:0<all.length:=by omega
   unfold kZ at h3 ⊢;by_cases hf:jr g l c l.length=true
   ·rw [if_pos hf] at h3 ⊢;obtain⟨g1,t,g2⟩:=QI (hl.snoc (by omega) (zmg h1) hf) (by rw [List.length_append,List.length_singleton];omega) h3;exact⟨g1,c::t,by rw [g2,List.append_assoc];rfl⟩
   ·rw [if_neg hf] at h3;simp at h3;omega
theorem aJ{α:Type}{m:List α}{i:Nat}{c:α}(h:m[i]?=some c):m.take (i+1)=m.take i++[c]:=by
 obtain⟨hi,rfl⟩:=zgs h;rw [List.take_add_one,h];rfl
theorem HZ{g:Int}{all:List (List qd)}{m:List qd}{i:Nat}{c:qd}(hm:LegL g all m)(hi:m[i]?=some c):jr g (m.take i) c (m.take i).length=true:=by
 have hl:(m.take i).length=i:=by rw [List.length_take];have:=(zgs hi).1;omega
 refine Ju.2 fun j b hb=>?_;rw [hl];have hj:=(zgs hb).1;rw [hl] at hj;rw [List.getElem?_take,if_pos hj] at hb;exact hm.ap i j c b hj hi hb
theorem YM{g:Int}{all:List (List qd)}{m:List qd}(hm:LegL g all m)(hlen:m.length=all.length):∀{n i:Nat},i+n=all.length->(zJ g all n (m.take i)).length=all.length
 |0,i,h=>by rw [zJ,List.length_take];omega
 |n+1,i,h=>by
  obtain⟨c,hc⟩:∃c,m[i]?=some c:=⟨_,zge oM⟩;have hl:(m.take i).length=i:=by rw [List.length_take];omega
  have ih:=YM hm hlen (n:=n) (i:=i+1) oM;rw [aJ hc] at ih;rw [JU,hl];have hs:(kZ g all n (m.take i) c).length=all.length:=by rw [kZ,if_pos (HZ hm hc)];exact ih
  rcases XN (f:=kZ g all n (m.take i)) (N:=all.length) ((all[i]?).getD []) with⟨_,h2⟩|⟨_,_,_,_,h3,h4⟩
  ·exact absurd hs (h2 c (hm.ch i c hc))
  ·rw [h4];exact h3
def BM(B:Nat)(L l:List qd):Prop:=∀j,j<l.length->B.testBit j=true->L[j]?=l[j]?
def YH(g:Int)(all:List (List qd))(k B:Nat)(l:List qd):Prop:=∀L,LegL g all L->k<L.length->¬BM B L l
def ye(g:Int)(all:List (List qd))(k B:Nat)(l:List qd)(cs:List qd):Prop:=∀L,LegL g all L->k<L.length->BM B L l->∀q∈cs,L[l.length]?≠some q
theorem ye.nil{g:Int}{all:List (List qd)}{k B:Nat}{l:List qd}:ye g all k B l []:=fun _ _ _ _ q hq=>by cases hq
theorem ye.end{g:Int}{all:List (List qd)}{k B:Nat}{l C:List qd}(hC:all[l.length]?=some C)(hk:l.length<=k)(h:ye g all k B l C):YH g all k B l:=fun L hL hlen ha=>by
 obtain⟨q,hq⟩:∃q,L[l.length]?=some q:=⟨_,zge oM⟩;have:=hL.ch _ q hq;rw [hC] at this;exact h L hL hlen ha q this hq
theorem ye.mono{g:Int}{all:List (List qd)}{k k' B B':Nat}{l C:List qd}(h:ye g all k B l C)(hk:k<=k')(hB:∀j,j<l.length->B.testBit j=true->B'.testBit j=true):ye g all k' B' l C:=fun L hL hlen ha=>h L hL oM fun j hj hb=>ha j hj (hB j hj hb)
theorem ye.clash{g:Int}{all:List (List qd)}{k B j:Nat}{l C:List qd}{c b:qd}(h:ye g all k B l C)(hb:l[j]?=some b)(hB:B.testBit j=true)(hc:wx g j b l.length c=true):ye g all k B l (C++[c]):=fun L hL hlen ha q hq e=>by
 rcases List.mem_append.1 hq with hq|hq
 ·exact h L hL hlen ha q hq e
 ·rw [List.mem_singleton] at hq;subst hq;have hj:=(zgs hb).1;have h1:=ha j hj hB;rw [hb] at h1;rw [WI,hL.ap l.length j q b hj e h1] at hc;cases hc
theorem ye.fail{g:Int}{all:List (List qd)}{k B B':Nat}{l C:List qd}{c:qd}(h:ye g all k B l C)(hs:YH g all k B' (l++[c]))(hB:∀j,j<l.length->B'.testBit j=true->B.testBit j=true):ye g all k B l (C++[c]):=fun L hL hlen ha q hq e=>by
 rcases List.mem_append.1 hq with hq|hq
 ·exact h L hL hlen ha q hq e
 ·rw [List.mem_singleton] at hq;subst hq;refine hs L hL hlen fun j hj hb=>?_;by_cases hjl:j<l.length
  ·rw [List.getElem?_append_left hjl];exact ha j hjl (hB j hjl hb)
  ·have:j=l.length:=by rw [List.length_append,List.length_singleton] at hj;omega
   subst this;rw [e];simp
theorem YH.drop{g:Int}{all:List (List qd)}{k B:Nat}{l:List qd}{c:qd}(hs:YH g all k B (l++[c]))(hB:B.testBit l.length=false):YH g all k B l:=fun L hL hlen ha=>hs L hL hlen fun j hj hb=>by
 by_cases hjl:j<l.length
 ·rw [List.getElem?_append_left hjl];exact ha j hjl hb
 ·have:j=l.length:=by rw [List.length_append,List.length_singleton] at hj;omega
  subst this;rw [hB] at hb;cases hb
theorem ye.step{g:Int}{all:List (List qd)}{k B n:Nat}{l C:List qd}(hl:LegL g all l)(hn:l.length+(n+1)=all.length)(hk:k<all.length)(h:ye g all k B l C)(hC:∀c∈C,c∈(all[l.length]?).getD []):∀c∈C,(kZ g all n l c).length≠all.length:=fun c hc hlen=>by
 unfold kZ at hlen;by_cases hf:jr g l c l.length=true
 ·rw [if_pos hf] at hlen;obtain⟨g1,t,g2⟩:=QI (hl.snoc (by omega) (hC c hc) hf) (by rw [List.length_append,List.length_singleton];omega) hlen;refine h _ g1 oM (fun j hj _=>?_) c hc ?_
  ·rw [g2,List.append_assoc,List.getElem?_append_left hj]
  ·rw [g2,List.append_assoc];simp
 ·rw [if_neg hf] at hlen;simp at hlen;omega
abbrev rP(f:FuncId)(a:Nat)(ds:List DV)(S:Bx)(nk:Nat)(R:DV->Bx->Nat->Prop):Prop:=∀Z0 lo anc β0 H1,anc<=a->GV (parK Z0 lo anc β0 H1) a f ds S nk R
theorem Wf {f:FuncId} {a:Nat} {sf:SFn} (hf:zK Tryz.prog 7 f=some sf) {ds:List DV} {S:Bx} {nk:Nat} {R:DV->Bx->Nat->Prop} (hn:Nat.ble ds.length sf.n=true) (hank:a<=nk)
 (h:∀Z β H lo,DPS (parK Z lo a β H) sf.n sf.code (VF (parK Z lo a β H) sf.res R) (kp ds 0) S nk):rP f a ds S nk R:=fun Z0 lo anc β0 H1 ha=>TE (p:=parK Z0 lo anc β0 H1) hf hn ha hank fun Z β H=>h Z β H lo
def Z8(a b c:FD):Bk:=.cells [.f a,.f b,.f c]
theorem CC{cs:List (List qd)}{i:Nat}{x:List qd}(h:cs[i]?=some x):qT (cs.map qV) ((i:Int).toNat) 1=some [qV x]:=by
 have:=WU h;rw [Nat.mul_one] at this;exact this
theorem aC{p:Pic}{all:List (List qd)}{fa fb fc:FD}(ha8:1<=all.length/\all.length<=8)(hs:∀c∈all,(∀q∈c,qB 1000000 q)/\c.length<1000000):∀(n:Nat) {l:List qd},l.length+n=all.length->(∀q∈l,qB 1000000 q)->
 rP 120 2 [yz p,qx l,.one (.own 0 0 all.length 1)] [(0,.data (all.map qV)),(1,Z8 fa fb fc)] 2 fun d S' _=>d=qx (zJ p.gap all n l)/\S'=[(0,.data (all.map qV)),(1,Z8 fa fb fc)]
 |0,l,hl,hsl=>by
  refine Wf (pC 120).2 rfl oM fun Z β H lo=>?_;have b1:((l.length:Int)==(all.length:Int))=true:=by rw [<-hl];simp
  refine xn ?_;intros;refine qb rfl (fun _=>?_) (fun h=>by cases h);refine xn ?_;intros;exact qc ⟨_,rfl,rfl,_,qf rfl (qf rfl (qw _)),rfl,rfl⟩
 |n+1,l,hl,hsl=>by
  have ih:=fun c (hc:qB 1000000 c)=>aC (p:=p) (fa:=fa) (fb:=fb) (fc:=fc) ha8 hs n (l:=l++[c]) (by rw [List.length_append,List.length_singleton];omega) (fun q hq=>by
   rcases List.mem_append.1 hq with hq|hq
   ·exact hsl q hq
   ·rw [List.mem_singleton] at hq;rw [hq];exact hc)
  refine Wf (pC 120).2 rfl oM fun Z β H lo=>?_;have b1:((l.length:Int)==(all.length:Int))=false:=by
   have:¬(l.length:Int)=all.length:=by omega
   simpa using this
  obtain⟨C,hC⟩:∃r,all[l.length]?=some r:=⟨_,zge oM⟩;have hCs:=hs C (zmg hC);have e0:=CC hC;have hlen:all[l.length]?.getD []=C:=by rw [hC];rfl
  have hlf:=qL l;rw [zJ,hlen];generalize hf:(fun c=>if jr p.gap l c l.length=true then zJ p.gap all n (l++[c]) else [])=f
  refine yB ?_;refine yq wq (fun base=>?_);refine Qz rfl ?_;refine xT rfl ?_;refine zE ?_;refine Qa 2 (fs:=vS p) rfl ?_;refine xn ?_;intros;refine qb rfl (fun h=>by cases h) (fun _=>?_);clear b1;refine qa ?_;intros;refine qm (fun m E S nk=>∃j:Nat,j+m=C.length/\kX f all.length C=kX f all.length (C.drop j)/\E=[(1,qx l),(2,.one (.own 0 0 all.length 1)),(3,.one (.fptr (vS p))),(7,.int l.length),(8,.int j)]/\S=[(0,.data (all.map qV)),(1,Z8 fa fb fc)]/\nk=2)
   ⟨C.length,_,_,_,[],?wk,0,oM,rfl,rfl,rfl,rfl⟩ ?_
  case wk=>exact⟨xH,⟨rfl,rfl,rfl,rfl,rfl,rfl,trivial⟩,rfl,rfl⟩
  rintro m E S nk ⟨j,hj,htr,rfl,rfl,rfl⟩;refine qa ?_;intros;refine qb rfl (fun hj2=>?_) (fun hj2=>?_)
  ·have hj2:j<C.length:=by have:=qG hj2;omega
   obtain⟨c,hc⟩:∃r,C[j]?=some r:=⟨_,zge hj2⟩;have e1:=qY hc;have hcs:=hCs.1 c (zmg hc);have hdr:C.drop j=c::C.drop (j+1):=by
    rw [List.drop_eq_getElem_cons hj2];rw [(zgs hc).2]
   rw [hdr,kX] at htr;have n1:=vW l.length c;refine qa ?_;intros;refine qm (fun m E S nk=>∃(k:Nat) (w:Bool),k+m=l.length/\w=jr p.gap l c k/\E=[(1,qx l),(2,.one (.own 0 0 all.length 1)),(3,.one (.fptr (vS p))),(7,.int l.length),(8,.int j),(9,.bool w),(10,.int k)]/\S=[(0,.data (all.map qV)),(1,Z8 fa fb fc)]/\nk=2)
    ⟨l.length,_,_,_,[],?wk2,0,true,oM,rfl,rfl,rfl,rfl⟩ ?_
   case wk2=>exact⟨xH,⟨rfl,rfl,rfl,rfl,rfl,rfl,trivial⟩,rfl,rfl⟩
   rintro m2 E S nk ⟨k,w,hk,hw,rfl,rfl,rfl⟩;refine qa ?_;intros;refine qb rfl (fun hk2=>?_) (fun hk2=>?_)
   ·have hk2:k<l.length:=by have:=qG hk2;omega
    obtain⟨b,hb⟩:∃r,l[k]?=some r:=⟨_,zge hk2⟩;have e2:=qY hb;have hbs:=hsl b (zmg hb);have n2:=vW k b;have hfs:=pJ (g:=p.gap) (c:=c) hb;rw [<-hw] at hfs;clear hw;cases w with
    |false=>
     refine qa ?_;intros;refine⟨m2-1,oM,_,_,_,[],?wk3,k+1,false,oM,hfs.symm,rfl,rfl,rfl⟩
     case wk3=>exact⟨xH,⟨rfl,rfl,rfl,rfl,rfl,rfl,trivial⟩,rfl,rfl⟩
    |true=>
     refine qa ?_;intros;refine qj rfl rfl (Yw (i:=l.length) (q:=c) oM hcs) ?_;rintro _ rfl;refine qa ?_;intros;refine qj rfl rfl (Yw (i:=k) (q:=b) oM hbs) ?_;rintro _ rfl;refine qa ?_;intros;refine qj rfl rfl (ka (wG hcs) (wG hbs) oM oM) ?_;rintro _ rfl;have b2:decide (xC (xO l.length c) (xO k b)>p.gap)=jr p.gap l c (k+1):=by
      rw [hfs,Bool.true_and,wx];by_cases h:xC (xO l.length c) (xO k b)<=p.gap
      ·rw [decide_eq_true h,decide_eq_false (by omega)];rfl
      ·rw [decide_eq_false h,decide_eq_true (by omega)];rfl
     clear hfs;refine xn ?_;intros;refine⟨m2-1,oM,_,_,_,[],?wk4,k+1,_,oM,rfl,rfl,rfl,rfl⟩
     case wk4=>exact⟨xH,⟨rfl,rfl,rfl,rfl,rfl,rfl,trivial⟩,rfl,rfl⟩
   ·have hk2:k=l.length:=by have:=qQ hk2;omega
    subst hk2;have hfc:f c=if w=true then zJ p.gap all n (l++[c]) else []:=by rw [<-hf,hw]
    clear hw;cases w with
    |false=>
     refine qa ?_;intros;refine qb rfl (fun _=>?_) (fun h=>by cases h);refine qa ?_;intros;refine⟨m-1,by omega,_,_,_,[],?wk5,j+1,by omega,by rw [htr,if_neg (by rw [hfc];simp;omega)],rfl,rfl,rfl⟩
     case wk5=>exact⟨xH,⟨rfl,rfl,rfl,rfl,rfl,rfl,trivial⟩,rfl,rfl⟩
    |true=>
     rw [if_pos rfl] at hfc;refine qa ?_;intros;refine qb rfl (fun h=>by cases h) (fun _=>?_);refine qa ?_;intros;refine qy (m:=l.length) (q:=l.flatMap qh) (l':=[]) rfl rfl rfl rfl ⟨rfl,rfl,rfl⟩ oM oM (by decide) rfl ?_;refine qa ?_;intros;refine qy (m:=1) (q:=qh c) rfl rfl rfl (qp _ (by rw [List.nil_append,hlf,Nat.zero_add])) ⟨rfl,rfl,_,rfl,rfl⟩ (by omega) (by omega) (by decide) rfl ?_;have hf4:([]++l.flatMap qh++qh c).length=(0+l.length+1)*2:=by
      rw [List.nil_append,List.length_append,hlf,show (qh c).length=2 from rfl];omega
     have h4:DV.one (.f (.sl 2 (0+l.length+1) ([]++l.flatMap qh++qh c)))=qx (l++[c]):=by
      rw [qx,List.nil_append,Nat.zero_add];simp
     refine JB 5 rfl qD qD ?_;refine AI (E0:=[(1,qx l),(2,.one (.own 0 0 all.length 1)),(3,.one (.fptr (vS p))),(7,.int l.length),(8,.int j),(61,yz p),(71,qx (l++[c])),(72,.one (.own 0 0 all.length 1))]) (S0:=[(0,.data (all.map qV)),(1,Z8 fa fb fc)]) (n0:=2) (a:=2) [] ⟨⟨rfl,rfl,rfl,rfl,rfl,rfl,rfl,rfl,rfl,rfl,rfl,rfl,congrArg some h4,rfl,rfl,rfl,trivial⟩,⟨rfl,rfl,rfl,rfl,rfl,rfl,trivial⟩,rfl,rfl⟩ rfl rfl rfl ⟨xH,trivial,rfl,rfl⟩ (ih c hcs _ _ _ _ _ (Nat.le_refl _)) ?_;rintro _ S' nk' ⟨rfl,rfl⟩;rw [<-hfc];refine qa ?_;intros;refine qb rfl (fun hb=>?_) (fun hb=>?_)
     ·have hb:(f c).length=all.length:=by
       have h:((f c).length:Int)=all.length:=by simpa using hb
       omega
      refine qa ?_;intros;refine qc ⟨_,rfl,rfl,_,qf rfl (qf rfl (qw _)),?_,rfl⟩;rw [htr,if_pos hb];rfl
     ·have hb:¬(f c).length=all.length:=fun h=>by
       rw [h] at hb;simp at hb
      refine qa ?_;intros;refine⟨m-1,by omega,_,_,_,[],?wk6,j+1,by omega,by rw [htr,if_neg hb],rfl,rfl,rfl⟩
      case wk6=>exact⟨xH,⟨rfl,rfl,rfl,rfl,rfl,rfl,trivial⟩,rfl,rfl⟩
  ·have hj2:j=C.length:=by have:=qQ hj2;omega
   subst hj2;rw [List.drop_length] at htr;rw [htr];refine qa ?_;intros;refine Vl 6 2 rfl ?_;exact qc ⟨_,rfl,rfl,_,qf rfl (qf rfl (qw _)),rfl,rfl⟩
theorem n8{p:Pic}{all:List (List qd)}{fa fb fc:FD}(ha8:1<=all.length/\all.length<=8)(hs:∀c∈all,(∀q∈c,qB 1000000 q)/\c.length<1000000):
 rP 120 2 [yz p,.one (.f (.c .nils)),.one (.own 0 0 all.length 1)] [(0,.data (all.map qV)),(1,Z8 fa fb fc)] 2 fun d S' _=>d=qx (zJ p.gap all all.length [])/\S'=[(0,.data (all.map qV)),(1,Z8 fa fb fc)]:=fun Z0 lo anc β0 H1 ha Z β H args hS hag=>by
 refine aC (p:=p) (fa:=fa) (fb:=fb) (fc:=fc) ha8 hs all.length (l:=[]) (by simp) (fun q hq=>by cases hq) Z0 lo anc β0 H1 ha Z β H args hS ?_
 match args,hag with
 |[v1,v2,v3],⟨h1,⟨c,hv,hc⟩,h3⟩=>
  refine⟨h1,⟨c,hv,?_⟩,h3⟩;cases hc;exact (RF.nil 2:RF Z H (.sl 2 0 []) .nils)
theorem JO(p:Pic)(i:Nat):xR p (i+1)=xR p i++[yH p i]:=by simp [xR,List.range_succ]
theorem zn(p:Pic)(i:Nat):(xR p i).length=i:=by simp [xR]
def GO(p:Pic):Nat->List qd
 |0=>[]
 |i+1=>XS p i
theorem DP{p:Pic}(hv:qJ p=true):DK 81 [yz p] fun d=>∃r,PlcR p r/\d=Ep r:=by
 refine qI fun Z0 lo=>?_;have hl8:=(xr hv).1;refine yB ?_;refine yq wq (fun base=>?_);refine Qz rfl ?_;refine Qz rfl ?_;refine zE ?_;refine Qa 0 (fs:=vS p) rfl ?_;refine qa ?_;intros;refine qH 3 rfl qD qD ?_;refine qm (fun m E S nk=>∃i:Nat,i+m=p.fs.length/\(∀j,j<i->¬(XS p j).length<=j)/\E=[(1,.one (.fptr (vS p))),(2,.one (.ptr 1 0)),(3,.one (.own 0 0 i 1)),(4,qx (GO p i)),(5,.int i)]/\S=[(0,.data ((xR p i).map qV)),(1,Z8 (.c .nils) (.c (.int .i64 0)) (.c (.int .i64 0)))]/\nk=2)
  ⟨p.fs.length,_,_,_,[(0,2)],?wk,0,oM,fun j hj=>oM,rfl,rfl,rfl⟩ ?_
 case wk=>exact⟨xH,⟨rfl,rfl,rfl,rfl,rfl,rfl,trivial⟩,rfl,rfl⟩
 rintro m E S nk ⟨i,hi,hok,rfl,rfl,rfl⟩;refine qa ?_;intros;refine qb rfl (fun hi2=>?_) (fun hi2=>?_)
 ·have hi2:i<p.fs.length:=by have:=qG hi2;omega
  have hal:=zn p i;have hml:((xR p i).map qV).length=i*1:=by rw [List.length_map];omega
  have hsr:=n8 (p:=p) (all:=xR p (i+1)) (fa:=.c .nils) (fb:=.c (.int .i64 0)) (fc:=.c (.int .i64 0)) (by rw [zn];omega) (fun c hc=>by
   obtain⟨k,hk,rfl⟩:=List.mem_map.1 hc;exact WJ hv k)
  rw [zn,JO,List.map_append] at hsr;have hst:zJ p.gap (xR p i++[yH p i]) (i+1) []=XS p i:=by rw [XS,JO]
  rw [hst] at hsr;refine qa ?_;intros;refine qj rfl rfl (L3 hv hi2) ?_;rintro _ rfl;refine qa ?_;intros;refine qy (m:=1) (q:=[qV (yH p i)]) rfl rfl rfl (qp _ hml) ⟨rfl,rfl,_,rfl,rfl⟩ oM oM (by decide) rfl ?_;refine qa ?_;intros;have hmm:(xR p i).map qV++[yH p i].map qV=(xR p (i+1)).map qV:=by rw [JO,List.map_append]
  refine AI (E0:=[(1,.one (.fptr (vS p))),(2,.one (.ptr 1 0)),(3,.one (.own 0 0 (i+1) 1)),(5,.int i),(22,yz p),(23,.one (.own 0 0 (i+1) 1))]) (S0:=[(0,.data ((xR p i).map qV++[yH p i].map qV)),(1,Z8 (.c .nils) (.c (.int .i64 0)) (.c (.int .i64 0)))]) (n0:=2) (a:=2) [(0,3)] ⟨xH,⟨rfl,rfl,rfl,rfl,rfl,rfl,trivial⟩,rfl,rfl⟩ rfl rfl rfl ⟨xH,trivial,rfl,rfl⟩ (hsr _ _ _ _ _ (Nat.zero_le _)) ?_;rintro _ S' nk' ⟨rfl,rfl⟩;refine qa ?_;intros;refine qb rfl (fun hb=>?_) (fun hb=>?_)
  ·have hb:=qG hb;refine yB ?_;refine yq wq (fun base=>?_);refine xT rfl ?_;refine xT rfl ?_;refine LJ (t:=30) 2 rfl ?_;refine qa ?_;intros;exact qc ⟨_,rfl,rfl,([],(i:Int),150),.bad i hi2 oM hok,rfl⟩
  ·have hb:=qQ hb;refine qa ?_;intros;refine⟨m-1,oM,_,_,_,[],?wk2,i+1,oM,fun j hj=>?_,rfl,rfl,rfl⟩
   case wk2=>exact⟨xH,⟨congrArg (fun z=>some (Bk.data z)) hmm,rfl,rfl,rfl,rfl,rfl,trivial⟩,rfl,rfl⟩
   by_cases hji:j=i
   ·subst hji;omega
   ·exact hok j oM
 ·have hi2:i=p.fs.length:=by have:=qQ hi2;omega
  subst hi2;have hbest:GO p p.fs.length=XS p (p.fs.length-1):=by
   obtain⟨k,hk⟩:∃k,p.fs.length=k+1:=⟨p.fs.length-1,oM⟩;rw [hk];rfl
  rw [hbest];refine qa ?_;intros;exact qc ⟨_,rfl,rfl,_,.ok hok,rfl⟩
theorem cN{n:Int}(h1:0<=n)(h2:n<18446744073709551616):IntKind.u64.wrap n=n:=by
 simp [IntKind.wrap,IntKind.signed,IntKind.bits];omega
theorem XG{a:Nat}(ha:a<256):(BitVec.ofInt 64 (a:Int)).toNat=a:=by
 rw [BitVec.ofInt_natCast,BitVec.toNat_ofNat,Nat.mod_eq_of_lt (by omega)]
theorem J2{k:Nat}(hk:k<8):2^k<256:=Nat.pow_lt_pow_right oM hk
theorem eR{a b:Nat}(ha:a<256)(hb:b<256):a|||b<256:=Nat.or_lt_two_pow (n:=8) ha hb
theorem Dl{k:Nat}(hk:k<8):yN .shl .u64 1 .i64 (k:Int)=some (.int .u64 ((2^k:Nat):Int)):=by
 have h1:¬(k:Int)<0:=by omega
 have h2:=J2 hk;have h3:min (k:Int).toNat IntKind.u64.bits=k:=by
  show min k 64=k
  omega
 simp only [yN,if_neg h1,h3];rw [Int.one_mul,show (2:Int)^k=((2^k:Nat):Int) by push_cast;rfl];generalize 2^k=m at h2 ⊢;rw [cN (by omega) (by omega)]
theorem Ga{a b:Nat}(ha:a<256)(hb:b<256):yN .or .u64 (a:Int) .u64 (b:Int)=some (.int .u64 ((a|||b:Nat):Int)):=by
 have h:=eR ha hb;simp only [yN,ne_eq,not_true_eq_false,if_false,reduceIte];show some (C.int .u64 (IntKind.u64.wrap ((BitVec.ofInt 64 (a:Int)|||BitVec.ofInt 64 (b:Int)).toNat:Nat)))=_;rw [BitVec.toNat_or,XG ha,XG hb,cN (by omega) (by omega)]
theorem Dk{a k:Nat}(hk:k<8):yN .shr .u64 (a:Int) .i64 (k:Int)=some (.int .u64 ((a/2^k:Nat):Int)):=by
 have h1:¬(k:Int)<0:=by omega
 have h3:min (k:Int).toNat IntKind.u64.bits=k:=by
  show min k 64=k
  omega
 simp only [yN,if_neg h1,h3];rw [Int.fdiv_eq_ediv_of_nonneg _ (Int.le_of_lt (Int.pow_pos (by omega))),show (2:Int)^k=((2^k:Nat):Int) by push_cast;rfl];rfl
theorem UZ{a:Nat}(ha:a<256):yN .and .u64 (a:Int) .u64 1=some (.int .u64 ((a % 2:Nat):Int)):=by
 simp only [yN,ne_eq,not_true_eq_false,if_false,reduceIte];show some (C.int .u64 (IntKind.u64.wrap ((BitVec.ofInt 64 (a:Int)&&& BitVec.ofInt 64 ((1:Nat):Int)).toNat:Nat)))=_;rw [BitVec.toNat_and,XG ha,XG (by omega),Nat.and_one_is_mod,cN (by omega) (by omega)]
def X8(W i:Nat):Nat:=(BitVec.ofInt 64 (W:Int)&&& ~~~ BitVec.ofInt 64 ((2^i:Nat):Int)).toNat
theorem Kf{W i:Nat}(hW:W<256):X8 W i<256:=by
 unfold X8;rw [BitVec.toNat_and,XG hW];exact Nat.lt_of_le_of_lt Nat.and_le_left hW
theorem AL{W i j:Nat}(hW:W<256)(hi:i<8)(hj:j<8)(hne:j≠i)(h:W.testBit j=true):(X8 W i).testBit j=true:=by
 unfold X8;rw [BitVec.toNat_and,XG hW,Nat.testBit_and,h,Bool.true_and,BitVec.testBit_toNat,BitVec.getLsbD_not,<-BitVec.testBit_toNat,XG (J2 hi),Nat.testBit_two_pow_of_ne (fun e=>hne e.symm)];simp;omega
theorem EZ{W i:Nat}(hW:W<256):yN .andNot .u64 (W:Int) .u64 ((2^i:Nat):Int)=some (.int .u64 (X8 W i:Int)):=by
 have h:=Kf (i:=i) hW;simp only [yN,ne_eq,not_true_eq_false,if_false,reduceIte];show some (C.int .u64 (IntKind.u64.wrap (X8 W i:Nat)))=_;rw [cN (by omega) (by omega)]
theorem Fv{W i:Nat}:(((W/2^i % 2:Nat):Int)==0)=!W.testBit i:=by
 rw [Nat.testBit_eq_decide_div_mod_eq];rcases Nat.mod_two_eq_zero_or_one (W/2^i) with h|h<;>rw [h]<;>rfl
theorem FL{k:Nat}(hk:k<8):IntKind.u64.wrap (1*2^min (k:Int).toNat IntKind.u64.bits)=((2^k:Nat):Int):=by
 have h:=Dl hk;simp only [yN,if_neg (show¬(k:Int)<0 by omega),zoi,C.int.injEq,true_and] at h;exact h
theorem M6{a b:Nat}(ha:a<256)(hb:b<256):IntKind.u64.wrap ((BitVec.ofInt IntKind.u64.bits (a:Int)|||BitVec.ofInt IntKind.u64.bits (b:Int)).toNat:Nat)=((a|||b:Nat):Int):=by
 have h:=Ga ha hb;simp only [yN,ne_eq,not_true_eq_false,if_false,reduceIte,zoi,C.int.injEq,true_and] at h;exact h
theorem U7{a k:Nat}(hk:k<8):(a:Int).fdiv (2^min (k:Int).toNat IntKind.u64.bits)=((a/2^k:Nat):Int):=by
 have h:=Dk (a:=a) hk;simp only [yN,if_neg (show¬(k:Int)<0 by omega),zoi,C.int.injEq,true_and] at h;exact h
theorem M7{a:Nat}(ha:a<256):IntKind.u64.wrap ((BitVec.ofInt IntKind.u64.bits (a:Int)&&& BitVec.ofInt IntKind.u64.bits 1).toNat:Nat)=((a % 2:Nat):Int):=by
 have h:=UZ ha;simp only [yN,ne_eq,not_true_eq_false,if_false,reduceIte,zoi,C.int.injEq,true_and] at h;exact h
theorem BW{W i:Nat}(hW:W<256):IntKind.u64.wrap ((BitVec.ofInt IntKind.u64.bits (W:Int)&&& ~~~ BitVec.ofInt IntKind.u64.bits ((2^i:Nat):Int)).toNat:Nat)=((X8 W i:Nat):Int):=by
 have h:=EZ (i:=i) hW;simp only [yN,ne_eq,not_true_eq_false,if_false,reduceIte,zoi,C.int.injEq,true_and] at h;exact h
abbrev rC:List (Nat × Nat):=[(0,0),(1,0),(2,0),(3,0),(4,0)]
abbrev Kc(p:Pic)(A:List Bool)(all:List (List qd))(k i:Nat)(D:List FD):Bx:=[(0,.cells [.own 5 0 i 2]),(1,.cells [.f (.c (.int .i64 k))]),(2,.cells [.f (.sl 1 all.length (all.map qV))]),(3,.cells [.fptr (XP p (qz p).length ((qz p).map zF) A)]),(4,.cells [.fn 109 rC]),(5,.data D)]
def iY(p:Pic)(all:List (List qd))(m:Nat):Prop:=∃L,LegL p.gap all L/\L.length=m
abbrev Kp(B:Nat):DV:=.one (.f (.c (.int .u64 (B:Int))))
inductive TryR (p:Pic) (A:List Bool) (all:List (List qd)) (n:Nat) (l:List qd) (mst:Nat):DV->Bx->Nat->Prop
 |found (k:Nat) (D:List FD) (hl:(zJ p.gap all n l).length=all.length) (hD:qT D 0 (all.length*2)=some ((zJ p.gap all n l).flatMap qh)):TryR p A all n l mst (.tup [.bool true,Kp 0]) (Kc p A all k all.length D) 6
 |fail (k B:Nat) (D:List FD) (hB:B<256) (h1:mst<=k) (h2:l.length<=k) (h3:k<all.length) (ha:iY p all k) (hF:YH p.gap all k B l) (hD:qT D 0 (l.length*2)=some (l.flatMap qh)):TryR p A all n l mst (.tup [.bool false,Kp B]) (Kc p A all k l.length D) 6
theorem dY{α:Type}{D q r:List α}{n i m:Nat}(h:qT D 0 n=some q)(h2:qT q i m=some r):qT D i m=some r:=by
 obtain⟨h1,rfl⟩:=x6 h;obtain⟨h3,rfl⟩:=x6 h2;rw [List.drop_zero] at *;rw [List.length_take] at h3;rw [zw (by omega),List.drop_take,List.take_take];congr 2;omega
theorem FI{p:Pic}{A:List Bool}{all:List (List qd)}(ha8:1<=all.length/\all.length<=8)(hs:∀c∈all,(∀q∈c,qB 1000000 q)/\c.length<1000000):∀(n:Nat) {l:List qd} {i mst:Nat} {D:List FD},l.length=i->i+n=all.length->LegL p.gap all l->mst<all.length->iY p all mst->qT D 0 (i*2)=some (l.flatMap qh)->
 rP 109 5 [.one (.ptr 0 0),.one (.ptr 1 0),.one (.ptr 2 0),.one (.ptr 3 0),.one (.ptr 4 0)] (Kc p A all mst i D) 6 (TryR p A all n l mst)
 |0,l,i,mst,D,hil,hl,hL,hm,hat,hD=>by
  subst hil;refine Wf (pC 109).2 rfl oM fun Z β H lo=>?_;obtain⟨m1,hm1⟩:∃m1:Nat,max (mst:Int) (l.length:Int)=(m1:Int):=⟨max mst l.length,oM⟩;have b1:((l.length:Int)==(all.length:Int))=true:=by
   have:l.length=all.length:=by omega
   rw [this];simp
  refine xn ?_;intros;refine gM ?_;refine xn ?_;intros;rw [hm1];refine qb rfl (fun _=>?_) (fun h=>by cases h);refine xn ?_;intros;have hla:l.length=all.length:=by omega
  have hr:=TryR.found (p:=p) (A:=A) (all:=all) (n:=0) (l:=l) (mst:=mst) m1 D hla (by rw [<-hla];exact hD);rw [<-hla] at hr;exact qc ⟨_,rfl,rfl,_,zj _,hr⟩
 |n+1,l,i,mst,D,hil,hl,hL,hm,hat,hD=>by
  have hls:∀q∈l,qB 1000000 q:=fun q hq=>by
   obtain⟨j,hj⟩:=List.getElem?_of_mem hq;have h1:=hL.ch j q hj;cases hc:all[j]? with
   |none=>rw [hc] at h1;cases h1
   |some c=>rw [hc] at h1;exact (hs c (zmg hc)).1 q h1
  have ih:=fun (c:qd) {k:Nat} {D:List FD} (hf:jr p.gap l c l.length=true) (hc:c∈(all[l.length]?).getD [])=>FI (p:=p) (A:=A) ha8 hs n (l:=l++[c]) (i:=i+1) (mst:=k) (D:=D) (by rw [List.length_append,List.length_singleton];omega) (by omega) (hL.snoc (by omega) hc hf);subst hil;refine Wf (pC 109).2 rfl oM fun Z β H lo=>?_;obtain⟨m1,hm1⟩:∃m1:Nat,max (mst:Int) (l.length:Int)=(m1:Int):=⟨max mst l.length,oM⟩;have hat1:iY p all m1:=by
   by_cases h:mst<=l.length
   ·rw [show m1=l.length by omega];exact⟨l,hL,rfl⟩
   ·rw [show m1=mst by omega];exact hat
  have b1:((l.length:Int)==(all.length:Int))=false:=by
   have:¬(l.length:Int)=all.length:=by omega
   simpa using this
  obtain⟨C,hC⟩:∃r,all[l.length]?=some r:=⟨_,zge oM⟩;have hCs:=hs C (zmg hC);have hCg:(all[l.length]?).getD []=C:=by rw [hC];rfl
  have e0:qT (all.map qV) (l.length*1) 1=some [qV C]:=WU hC;have hlf:=qL l;have hi8:l.length<8:=by omega
  refine xn ?_;intros;refine gM ?_;refine xn ?_;intros;rw [hm1];refine qb rfl (fun h=>by cases h) (fun _=>?_);clear b1;refine qa ?_;intros;refine qm (fun m E S nk=>∃(j B k:Nat) (D:List FD),j+m=C.length/\B<256/\mst<=k/\l.length<=k/\k<all.length/\iY p all k/\ye p.gap all k B l (C.take j)/\qT D 0 (l.length*2)=some (l.flatMap qh)/\E=[(0,.one (.ptr 0 0)),(1,.one (.ptr 1 0)),(2,.one (.ptr 2 0)),(3,.one (.ptr 3 0)),(4,.one (.ptr 4 0)),(7,.int l.length),(8,Kp B),(27,qx C),(28,.int C.length),(29,.int j)]/\S=Kc p A all k l.length D/\nk=6)
   ⟨C.length,_,_,_,[],?wk,0,0,m1,D,oM,oM,oM,oM,oM,hat1,ye.nil,hD,rfl,rfl,rfl⟩ ?_
  case wk=>exact⟨xH,⟨rfl,rfl,rfl,rfl,rfl,rfl,rfl,rfl,rfl,rfl,rfl,rfl,rfl,rfl,rfl,rfl,rfl,rfl,trivial⟩,rfl,rfl⟩
  clear hD hat1 hm1 hat;clear D m1;rintro m E S nk ⟨j,B,k,D,hj,hB,hmk,hlk,hkN,hat,hF,hD,rfl,rfl,rfl⟩;refine qa ?_;intros;refine qb rfl (fun hj2=>?_) (fun hj2=>?_)
  ·have hj2:j<C.length:=by have:=qG hj2;omega
   obtain⟨q,hq⟩:∃r,C[j]?=some r:=⟨_,zge hj2⟩;have e1:=qY hq;have hqs:=hCs.1 q (zmg hq);have htk:C.take (j+1)=C.take j++[q]:=aJ hq;refine qa ?_;intros;refine Qa 6 (fs:=qh q) rfl ?_;refine qm (fun m E S nk=>∃k2:Nat,k2+m=l.length/\(∀(j:Nat) b,j<k2->l[j]?=some b->wx p.gap l.length q j b=false)/\E=[(0,.one (.ptr 0 0)),(1,.one (.ptr 1 0)),(2,.one (.ptr 2 0)),(3,.one (.ptr 3 0)),(4,.one (.ptr 4 0)),(7,.int l.length),(8,Kp B),(27,qx C),(28,.int C.length),(29,.int j),(10,.one (.fptr (qh q))),(33,.one (.own 5 0 l.length 2)),(34,.int l.length),(35,.int k2)]/\S=Kc p A all k l.length D/\nk=6)
    ⟨l.length,_,_,_,[],?wk2,0,oM,fun j b hj=>oM,rfl,rfl,rfl⟩ ?_
   case wk2=>exact⟨xH,⟨rfl,rfl,rfl,rfl,rfl,rfl,rfl,rfl,rfl,rfl,rfl,rfl,rfl,rfl,rfl,rfl,rfl,rfl,trivial⟩,rfl,rfl⟩
   rintro m2 E S nk ⟨k2,hk2m,hok,rfl,rfl,rfl⟩;refine qa ?_;intros;refine qb rfl (fun hk2=>?_) (fun hk2=>?_)
   ·have hk2:k2<l.length:=by have:=qG hk2;omega
    obtain⟨b,hb⟩:∃r,l[k2]?=some r:=⟨_,zge hk2⟩;have hbs:=hls b (zmg hb);have e2:qT D ((k2:Int).toNat*2) 2=some (qh b):=dY hD (qY hb);have hcl:=L0 (p:=p) (A:=A) (i:=k2) (k:=l.length) oM oM hbs hqs;refine qa ?_;intros;refine qj rfl rfl hcl ?_;rintro _ rfl;refine qa ?_;intros;refine qb rfl (fun hd=>?_) (fun hd=>?_)
    ·refine qa ?_;intros;rw [FL (k:=k2) (by omega),M6 hB (J2 (by omega))];refine⟨m-1,oM,_,_,_,[],?wk3,j+1,B|||2^k2,k,D,oM,eR hB (J2 oM),hmk,hlk,hkN,hat,?_,hD,rfl,rfl,rfl⟩
     case wk3=>exact⟨xH,⟨rfl,rfl,rfl,rfl,rfl,rfl,rfl,rfl,rfl,rfl,rfl,rfl,rfl,rfl,rfl,rfl,rfl,rfl,trivial⟩,rfl,rfl⟩
     rw [htk];refine ye.clash (j:=k2) (hF.mono (Nat.le_refl _) fun x _ hx=>?_) hb ?_ hd
     ·rw [Nat.testBit_or,hx,Bool.true_or]
     ·rw [Nat.testBit_or,Nat.testBit_two_pow_self,Bool.or_true]
    ·refine qa ?_;intros;refine⟨m2-1,oM,_,_,_,[],?wk4,k2+1,oM,fun x b' hx hb'=>?_,rfl,rfl,rfl⟩
     case wk4=>exact⟨xH,⟨rfl,rfl,rfl,rfl,rfl,rfl,rfl,rfl,rfl,rfl,rfl,rfl,rfl,rfl,rfl,rfl,rfl,rfl,trivial⟩,rfl,rfl⟩
     by_cases hxk:x=k2
     ·subst hxk;rw [hb] at hb';obtain rfl:=zsi hb';rw [WI];exact hd
     ·exact hok x b' oM hb'
   ·have hk2:k2=l.length:=by have:=qQ hk2;omega
    subst hk2;have hfree:jr p.gap l q l.length=true:=Ju.2 fun x b hb=>hok x b (zgs hb).1 hb;have hqC:q∈(all[l.length]?).getD []:=by rw [hCg];exact zmg hq
    have hstep:kZ p.gap all n l q=zJ p.gap all n (l++[q]):=by rw [kZ,if_pos hfree]
    have hsnf:(l++[q]).flatMap qh=l.flatMap qh++qh q:=by simp
    have hfl1:(l.flatMap qh++qh q).length=(l.length+1)*2:=by rw [List.length_append,hlf,show (qh q).length=2 from rfl];omega
    refine qa ?_;intros;refine qy (k:=5) (m:=1) (q:=qh q) rfl rfl rfl hD ⟨rfl,rfl,_,rfl,rfl⟩ oM oM (by decide) rfl ?_;refine qa ?_;intros;refine nG (E0:=[(0,.one (.ptr 0 0)),(1,.one (.ptr 1 0)),(2,.one (.ptr 2 0)),(3,.one (.ptr 3 0)),(4,.one (.ptr 4 0)),(7,.int l.length),(8,Kp B),(27,qx C),(28,.int C.length),(29,.int j),(56,.one (.fn 109 rC))]) (S0:=Kc p A all k (l.length+1) (l.flatMap qh++qh q)) (n0:=6) (a:=5) [(5,7)] ⟨xH,⟨rfl,rfl,rfl,rfl,rfl,rfl,rfl,rfl,rfl,rfl,rfl,rfl,rfl,rfl,rfl,rfl,rfl,rfl,trivial⟩,rfl,rfl⟩ rfl F3 rfl rfl rfl ⟨xH,trivial,rfl,rfl⟩ (ih q hfree hqC hkN hat (by rw [hsnf];exact qp _ hfl1) _ _ _ _ _ (Nat.le_refl _)) ?_;intro d S' nk' hR;cases hR with
    |found k' D' hlen hsub=>
     refine qa ?_;intros;refine qb rfl (fun _=>?_) (fun h=>by cases h);refine qa ?_;intros;have hCf:=ye.step (n:=n) hL (by omega) hkN hF fun c hc=>by rw [hCg];exact List.mem_of_mem_take hc
     have hs1:zJ p.gap all (n+1) l=zJ p.gap all n (l++[q]):=by
      rw [JU,hCg,G1 hq hCf (by rw [hstep];exact hlen),hstep]
     exact qc ⟨_,rfl,rfl,_,zj _,.found k' D' (by rw [hs1];exact hlen) (by rw [hs1];exact hsub)⟩
    |fail k' W D' hW hk1 hk2 hk3 hat' hFS hsub=>
     rw [List.length_append,List.length_singleton] at hk2 hsub;rw [List.length_append,List.length_singleton];have hD2:qT D' 0 (l.length*2)=some (l.flatMap qh):=by
      refine dY hsub ?_;rw [hsnf,zw (by rw [hfl1];omega),List.drop_zero,<-hlf,List.take_left]
     have hF2:ye p.gap all k' B l (C.take j):=hF.mono hk1 fun _ _ h=>h;refine qa ?_;intros;refine qb rfl (fun h=>by cases h) (fun _=>?_);refine qa ?_;intros;refine XA (o':=0) (n':=l.length) rfl rfl rfl (Nat.zero_le _) oM oM oM ?_;refine qa ?_;intros;rw [U7 (a:=W) (k:=l.length) hi8,M7 (a:=W/2^l.length) (Nat.lt_of_le_of_lt (Nat.div_le_self _ _) hW),Fv];refine qb rfl (fun hb=>?_) (fun hb=>?_)
     ·refine qa ?_;intros;exact qc ⟨_,rfl,rfl,_,zj _,.fail k' W D' hW (by omega) (by omega) hk3 hat' (hFS.drop (by simpa using hb)) hD2⟩
     ·refine qa ?_;intros;rw [FL (k:=l.length) hi8,BW (i:=l.length) hW,M6 hB (Kf hW)];refine⟨m-1,oM,_,_,_,[],?wk5,j+1,B|||X8 W l.length,k',D',oM,eR hB (Kf hW),oM,oM,hk3,hat',?_,hD2,rfl,rfl,rfl⟩
      case wk5=>exact⟨xH,⟨rfl,rfl,rfl,rfl,rfl,rfl,rfl,rfl,rfl,rfl,rfl,rfl,rfl,rfl,rfl,rfl,rfl,rfl,trivial⟩,rfl,rfl⟩
      rw [htk];refine ye.fail (hF2.mono (Nat.le_refl _) fun x _ hx=>?_) hFS fun x hx hxW=>?_
      ·rw [Nat.testBit_or,hx,Bool.true_or]
      ·rw [Nat.testBit_or,AL hW hi8 (by omega) (by omega) hxW,Bool.or_true]
  ·have hj2:j=C.length:=by have:=qQ hj2;omega
   subst hj2;rw [List.take_length] at hF;refine qa ?_;intros;exact qc ⟨_,rfl,rfl,_,zj _,.fail k B D hB hmk hlk hkN hat (hF.end hC hlk) hD⟩
theorem pS{p:Par}{n:Nat}{Q:Exit->qo->Bx->Nat->Prop}{E:qo}{S:Bx}{nk:Nat}{s:SC}(k m:Nat){l:List FD}(hk:lk S k=some (.data l))(h:DPS p n s Q E (put k (.data (l.take m)) S) nk):DPS p n s Q E S nk:=.mk fun Z β H F hS hE=>by
 refine h.run Z β H F ?_ hE;refine⟨hS.wf,hS.lo,hS.z,hS.zlo,hS.zz,hS.glob,hS.nk,hS.bd,fun κ x hκ=>?_,fun κ κ' x x' b N N' hj hj'=>?_,hS.blo,hS.anch,hS.ancn⟩
 ·rw [ZE hk rfl] at hκ;split at hκ
  ·rename_i e;split at hκ
   ·rename_i e2;obtain rfl:=vg e e2;obtain rfl:=zsi hκ;obtain⟨s,hs,hbx⟩:=hS.box (k,0) _ (xL hk rfl);refine⟨s,hs,?_⟩;cases s with
    |nil=>
     have:l.length=0:=hbx;show (l.take m).length=0;rw [List.length_take,this];simp
    |blk b N=>
     obtain⟨h1,h2,h3,cs,rest,h4,h5,h6⟩:=hbx;refine⟨h1,h2,h3,cs.take m,cs.drop m++rest,?_,?_,qe.take h6 m⟩
     ·rw [<-List.append_assoc,List.take_append_drop];exact h4
     ·rw [<-List.append_assoc,List.take_append_drop];exact h5
   ·cases hκ
  ·exact hS.box κ x hκ
 ·have f:∀i z,lk (put k (.data (l.take m)) S) i=some z->∃z',lk S i=some z':=fun i z hz=>by
   rw [yY] at hz;split at hz
   ·cases hl:lk S i with
    |none=>rw [hl] at hz;cases hz
    |some q=>exact⟨q,rfl⟩
   ·exact⟨z,hz⟩
  obtain⟨z1,e1⟩:=f _ x hj;obtain⟨z2,e2⟩:=f _ x' hj';exact hS.inj κ κ' z1 z2 b N N' e1 e2
def Qy(l:List FD)(k:Nat):List FD:=l.take k++List.replicate (l.length-k) (.c .nils)
theorem CZ{l:List FD}{k:Nat}{x:FD}(h:l[k]?=some x):(Qy l k).set k x=Qy l (k+1):=by
 have hk:=(zgs h).1;have h1:(l.take k).length=k:=by rw [List.length_take];omega
 unfold Qy;rw [List.set_append_right _ _ (by omega),h1,Nat.sub_self,show l.length-k=(l.length-(k+1))+1 by omega,List.replicate_succ,List.set_cons_zero,List.take_add_one,h];simp
theorem C0{l:List FD}{k:Nat}(h:k<=l.length):(Qy l k).length=l.length:=by
 unfold Qy;rw [List.length_append,List.length_take,List.length_replicate];omega
theorem ZT{p:Pic}{n j:Nat}(h:j<n):(xR p n)[j]?=some (yH p j):=by simp [xR,h]
theorem lY{p:Pic}{n j:Nat}{L:List qd}(h:LegL p.gap (xR p n) L)(hj:j<L.length):¬(XS p j).length<=j:=by
 have hn:=h.le;rw [zn] at hn;have hl:(L.take (j+1)).length=j+1:=by rw [List.length_take];omega
 have h1:LegL p.gap (xR p (j+1)) (L.take (j+1)):=(h.take (j+1)).all (by rw [hl,zn];omega) fun i hi=>by
  rw [hl] at hi;rw [ZT (by omega),ZT (by omega)]
 have h2:=YM h1 (by rw [hl,zn]) (n:=j+1) (i:=0) (by rw [zn];omega);rw [zn,List.take_zero] at h2;unfold XS;omega
theorem NZ{p:Pic}(h1:1<=p.fs.length)(hl:(zJ p.gap (xR p p.fs.length) p.fs.length []).length=p.fs.length):PlcR p (zJ p.gap (xR p p.fs.length) p.fs.length [],(p.fs.length:Int),0):=by
 have hs:=(QI (LegL.nil p.gap (xR p p.fs.length)) (n:=p.fs.length) (by rw [zn];simp) (by rw [hl,zn])).1;have he:zJ p.gap (xR p p.fs.length) p.fs.length []=XS p (p.fs.length-1):=by
  obtain⟨k,hk⟩:∃k,p.fs.length=k+1:=⟨p.fs.length-1,oM⟩;rw [hk];rfl
 have hok:=PlcR.ok (p:=p) fun j hj=>lY hs oM;rw [<-he,hl] at hok;exact hok
theorem HG{p:Pic}{k B:Nat}(hk:k<p.fs.length)(ha:iY p (xR p p.fs.length) k)(hF:YH p.gap (xR p p.fs.length) k B []):PlcR p ([],(k:Int),150):=by
 obtain⟨L,hL,hlen⟩:=ha;refine .bad k hk ?_ fun j hj=>lY hL oM;rcases B1 (g:=p.gap) (all:=xR p (k+1)) (n:=k+1) (l:=[]) (by rw [zn];simp) with h|h
 ·exfalso;rw [zn] at h;have hs:=(QI (LegL.nil p.gap (xR p (k+1))) (n:=k+1) (by rw [zn];simp) (by rw [h,zn])).1;have h2:LegL p.gap (xR p p.fs.length) (zJ p.gap (xR p (k+1)) (k+1) []):=hs.all (by rw [h,zn];omega) fun i hi=>by
   rw [h] at hi;rw [ZT (by omega),ZT (by omega)]
  exact hF _ h2 (by omega) fun j hj=>by simp at hj
 ·unfold XS;rw [h];simp
def N3(r:GU):DV:=.tup [qx r.1,.int r.2.1,.int r.2.2]
theorem D3{p:Pic}(hFi:Zr p)(hFe:iV p):DK 75 [yz p] fun d=>∃r,(qJ p=true->PlcR p r)/\(qJ p=false->r=([],0,150))/\d=N3 r:=by
 refine qI fun Z0 lo=>?_;have hcv:=bZ hFi;refine yB ?_;refine yq wq (fun base=>?_);refine Qz rfl ?_;refine xT rfl ?_;refine xT rfl ?_;refine xT rfl ?_;refine zE ?_;refine Qa 0 (fs:=vS p) rfl ?_;refine qa ?_;intros;refine qj rfl rfl hcv ?_;rintro _ rfl;cases hv:qJ p with
 |false=>
  refine qa ?_;intros;refine qb rfl (fun _=>?_) (fun h=>by cases h);refine qa ?_;intros;refine Vl 2 2 rfl ?_;exact qc ⟨_,rfl,rfl,([],0,150),fun h=>(by cases h),fun _=>rfl,rfl⟩
 |true=>
  have hl8:=(xr hv).1;refine qa ?_;intros;refine qb rfl (fun h=>by cases h) (fun _=>?_);refine qa ?_;intros;refine qj rfl rfl (DJ hv) ?_;rintro _ ⟨A,hA,rfl⟩;refine qa ?_;intros;refine pR (n:=p.fs.length) (m:=p.fs.length) [.c .nils] rfl rfl ⟨rfl,rfl,trivial⟩ rfl (by decide) (Nat.le_refl _) oM oM ?_;refine qa ?_;intros;have hal:=zn p p.fs.length;have hml:((xR p p.fs.length).map qV).length=p.fs.length:=by rw [List.length_map,hal]
  refine qm (fun m E S nk=>∃i:Nat,i+m=p.fs.length/\E=[(5,.one (.ptr 1 0)),(6,.one (.ptr 3 0)),(23,.int p.fs.length),(24,.int i)]/\S=[(1,.cells [.fptr (XP p (qz p).length ((qz p).map zF) A)]),(2,.data (Qy ((xR p p.fs.length).map qV) i)),(3,.cells [.own 2 0 p.fs.length 1])]/\nk=4)
   ⟨p.fs.length,_,_,_,[],?wk,0,oM,rfl,rfl,rfl⟩ ?_
  case wk=>exact⟨xH,⟨rfl,rfl,rfl,by rw [Qy,hml,aS];rfl,rfl,rfl,rfl,rfl,rfl,trivial⟩,rfl,rfl⟩
  rintro m E S nk ⟨i,hi,rfl,rfl,rfl⟩;refine qa ?_;intros;refine qb rfl (fun hi2=>?_) (fun hi2=>?_)
  ·have hi2:i<p.fs.length:=by have:=qG hi2;omega
   have hx:((xR p p.fs.length).map qV)[i]?=some (qV (yH p i)):=by rw [List.getElem?_map,ZT hi2];rfl
   have hset:=CZ hx;refine qa ?_;intros;refine qj rfl rfl (A4 hv hFe hA hi2) ?_;rintro _ rfl;refine qa ?_;intros;refine vq (k:=2) (o:=i) (l:=[.f (qV (yH p i))]) rfl rfl rfl rfl rfl (show i+1<=(Qy ((xR p p.fs.length).map qV) i).length by rw [C0 (by omega),hml];omega) rfl ?_;rw [show QC (.data (Qy ((xR p p.fs.length).map qV) i)) i [.f (qV (yH p i))]=.data (Qy ((xR p p.fs.length).map qV) (i+1)) from congrArg Bk.data hset];refine qa ?_;intros;refine⟨m-1,oM,_,_,_,[],?wk2,i+1,oM,rfl,rfl,rfl⟩
   case wk2=>exact⟨xH,⟨rfl,rfl,rfl,rfl,rfl,rfl,rfl,rfl,rfl,trivial⟩,rfl,rfl⟩
  ·have hi2:i=p.fs.length:=by have:=qQ hi2;omega
   subst hi2;have hfil:Qy ((xR p p.fs.length).map qV) p.fs.length=(xR p p.fs.length).map qV:=by rw [Qy,hml,List.take_of_length_le (by omega)];simp
   rw [hfil];have hfl:((xR p p.fs.length).map qV).length=p.fs.length*1:=by omega
   refine qH 2 rfl qD qD ?_;refine ya ?_;refine yB ?_;refine yq wq (fun base=>?_);refine Qz rfl ?_;refine zE ?_;refine gL 4 0 2 rfl rfl ?_;refine qa ?_;intros;have htry:=FI (p:=p) (A:=A) (all:=xR p p.fs.length) (by rw [hal];exact hl8) (fun c hc=>by
    obtain⟨k,hk,rfl⟩:=List.mem_map.1 hc;exact WJ hv k) p.fs.length (l:=[]) (i:=0) (mst:=0) (D:=[]) rfl (by rw [hal];omega) (LegL.nil _ _) (by rw [hal];omega) ⟨[],LegL.nil _ _,rfl⟩ rfl
   refine nG (E0:=[(8,.one (.ptr 0 0)),(9,.one (.ptr 1 0)),(36,.one (.fn 109 rC))]) (S0:=Kc p A (xR p p.fs.length) 0 0 []) (n0:=6) (a:=5) [(0,4),(1,6),(2,3),(3,1),(4,7),(5,5)] ⟨xH,⟨rfl,rfl,rfl,rfl,rfl,rfl,by rw [hal];rfl,rfl,rfl,rfl,rfl,rfl,rfl,rfl,rfl,rfl,rfl,rfl,trivial⟩,rfl,rfl⟩ rfl F3 rfl rfl rfl ⟨xH,trivial,rfl,rfl⟩ (htry _ _ _ _ _ (Nat.zero_le _)) ?_;intro d S' nk' hR;cases hR with
   |found k D hlen hsub=>
    rw [hal] at hlen hsub ⊢;have hpl:=NZ hl8.1 hlen;have hfl2:=qL (zJ p.gap (xR p p.fs.length) p.fs.length []);rw [hlen] at hfl2;obtain⟨hs1,hs2⟩:=x6 hsub;rw [List.drop_zero] at hs2;have hpd:qx (zJ p.gap (xR p p.fs.length) p.fs.length [])=.one (.f (.sl 2 p.fs.length (D.take (p.fs.length*2)))):=by rw [qx,hlen,hs2]
    have hfl3:(D.take (p.fs.length*2)).length=p.fs.length*2:=by rw [<-hs2];exact hfl2
    refine qa ?_;intros;refine qb rfl (fun h=>by cases h) (fun _=>?_);refine qa ?_;intros;refine qu (qf (k:=2) rfl (qf (k:=3) rfl (qf (k:=4) rfl (qw _)))) (qf (k:=5) rfl (qw _)) ?_;refine pS 5 (p.fs.length*2) rfl ?_;refine qH 5 rfl qD qD ?_;refine qc ⟨_,rfl,rfl,_,fun _=>hpl,fun h=>(by cases h),?_⟩;rw [N3,hpd];rfl
   |fail k B D hB h1 h2 h3 ha hF hD=>
    rw [hal] at h3;have hpl:=HG h3 ha hF;refine qa ?_;intros;refine qb rfl (fun _=>?_) (fun h=>by cases h);refine qa ?_;intros;refine Vl 2 2 rfl ?_;exact qc ⟨_,rfl,rfl,_,fun _=>hpl,fun h=>(by cases h),rfl⟩
def rO(p:Pic):Prop:=Chk p (0,0,0)/\∃r,PlcR p r/\r.2.2=0
theorem Chk.zero{p:Pic}{r:BQ}(h:Chk p r)(h0:r.2.2=0):r=(0,0,0)/\qJ p=true:=by
 cases h with
 |arg _=>cases h0
 |bad1 i _ _=>cases h0
 |bad2 i k _ _ _=>cases h0
 |ok h _ _=>exact⟨rfl,h⟩
theorem PlcR.zero{p:Pic}{r r':GU}(h:PlcR p r)(h':PlcR p r')(h0:r.2.2=0):r'.2.2=0:=by
 cases h with
 |bad i _ _ _=>cases h0
 |ok hok=>
  cases h' with
  |bad i hi hb _=>exact absurd hb (hok i hi)
  |ok _=>rfl
theorem gY{p:Pic}(hF:Zr p):DK 45 [yz p] fun d=>∃b,d=.bool b/\(b=true->rO p):=by
 refine qI fun Z0 lo=>?_;refine qa ?_;intros;refine qj rfl rfl (D1 hF) ?_;rintro _ ⟨r,hr,rfl⟩;obtain⟨r1,r2,r3⟩:=r;refine qa ?_;intros;refine qb (t:=(r3 !=0)) rfl (fun h1=>?_) (fun h1=>?_)
 ·refine qa ?_;intros;exact qc ⟨_,rfl,rfl,false,rfl,fun h=>by cases h⟩
 ·have h1:r3=0:=by simpa using h1
  obtain⟨e,hv⟩:=hr.zero h1;rw [e] at hr;refine qa ?_;intros;refine qj rfl rfl (DP hv) ?_;rintro _ ⟨q,hq,rfl⟩;obtain⟨q1,q2,q3⟩:=q;refine qa ?_;intros;exact qc ⟨_,rfl,rfl,(q3==0),rfl,fun h=>⟨hr,_,hq,by simpa using h⟩⟩
theorem pW{p:Pic}(hF:Zr p)(hw:iV p)(hd:rO p):DK 39 [yz p] fun d=>d=.bool true:=by
 obtain⟨hc,r0,hr0,h0⟩:=hd;have hv:qJ p=true:=(hc.zero rfl).2;refine qI fun Z0 lo=>?_;refine qa ?_;intros;refine qj rfl rfl (A5 hF hw) ?_;rintro _ ⟨r,hr,rfl⟩;obtain rfl:=hr.uniq hc;refine qa ?_;intros;refine qb (t:=false) rfl (fun h=>by cases h) (fun _=>?_);refine qa ?_;intros;refine qj rfl rfl (D3 hF hw) ?_;rintro _ ⟨q,hq,_,rfl⟩;have hz:=hr0.zero (hq hv) h0;obtain⟨q1,q2,q3⟩:=q;simp only at hz;subst hz;refine qa ?_;intros;exact qc ⟨_,rfl,rfl,rfl⟩
end Go.Ah
