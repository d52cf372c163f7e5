/- -/
import Derived.Test.YtandgamnamkkhaaGreatDoorAb28
set_option linter.unusedSimpArgs false
set_option maxHeartbeats 8000000
set_option linter.unusedVariables false
set_option maxRecDepth 8000
namespace Go.Ah
open Go.Ab
def iU(R:xk)(p:qd):Prop:=∃e∈R,e.1=p.2/\p.1∈e.2
structure RowsS (R:xk):Prop where
 nd:(R.map (·.1)).Nodup
 str:∀e∈R,e.2.Pairwise (·<·)
 len:∀e∈R,e.2.length<1000000
theorem RowsS.ok{R:xk}(h:RowsS R):RowsOk R:=⟨h.nd,fun e he i j x y hij hi hj=>by
 obtain⟨hi',hi2⟩:=zgs hi;obtain⟨hj',hj2⟩:=zgs hj;have:=List.pairwise_iff_getElem.1 (h.str e he) i j hi' hj' hij;omega,h.len⟩
theorem RowsS.nil:RowsS []:=⟨by simp,by simp,by simp⟩
theorem RowsS.lft{R:xk}(h:RowsS R)(y low high:Int):RowsS (lft R y low high):=by
 refine⟨?_,fun e he=>?_,fun e he=>?_⟩
 ·have:(Ah.lft R y low high).map (·.1)=R.map (·.1):=by unfold Ah.lft;rw [List.map_map];rfl
  rw [this];exact h.nd
 ·simp only [Ah.lft,List.mem_map] at he;obtain⟨e',he',rfl⟩:=he;simp only;split
  ·exact (h.str e' he').filter _
  ·exact h.str e' he'
 ·simp only [Ah.lft,List.mem_map] at he;obtain⟨e',he',rfl⟩:=he;have:=h.len e' he';simp only;split
  ·exact Nat.lt_of_le_of_lt (List.length_filter_le _ _) this
  ·exact this
def Wb(y low high:Int)(p:qd):Prop:=p.2=y/\low<=p.1/\p.1<=high
theorem G3{R:xk}{y low high:Int}{p:qd}:p∈yJ R y low high↔iU R p/\Wb y low high p:=by
 simp only [yJ,List.mem_flatMap,List.mem_filter,List.mem_map,xF,iU,Wb,wu,xt];constructor
 ·rintro ⟨e,⟨he,hy⟩,x,⟨hx,h1,h2⟩,rfl⟩;exact⟨⟨e,he,hy,hx⟩,rfl,h1,h2⟩
 ·rintro ⟨⟨e,he,h1,h2⟩,h3,h4,h5⟩;exact⟨e,⟨he,by rw [h1,h3]⟩,p.1,⟨h2,h4,h5⟩,by rw [<-h3]⟩
theorem OB{R:xk}{y low high:Int}{p:qd}(h:(R.map (·.1)).Nodup):iU (lft R y low high) p↔iU R p/\¬Wb y low high p:=by
 simp only [lft,iU,List.mem_map,Wb];constructor
 ·rintro ⟨e,⟨e',he',rfl⟩,h1,h2⟩;simp only at h1 h2;split at h2
  ·rename_i hy;simp only [List.mem_filter,wu,Bool.not_eq_true',Bool.and_eq_false_iff,decide_eq_false_iff_not] at h2;refine⟨⟨e',he',h1,h2.1⟩,?_⟩;rintro ⟨_,h3,h4⟩;rcases h2.2 with h|h
   ·exact h h3
   ·exact h h4
  ·rename_i hy;refine⟨⟨e',he',h1,h2⟩,?_⟩;rintro ⟨h3,_⟩;exact hy (by rw [h1,h3])
 ·rintro ⟨⟨e,he,h1,h2⟩,h3⟩;refine⟨_,⟨e,he,rfl⟩,h1,?_⟩;simp only;split
  ·rename_i hy;simp only [List.mem_filter,wu,Bool.not_eq_true',Bool.and_eq_false_iff,decide_eq_false_iff_not];refine⟨h2,?_⟩;by_cases h4:low<=p.1
   ·right;intro h5;exact h3 ⟨by rw [<-h1,hy],h4,h5⟩
   ·left;exact h4
  ·exact h2
theorem aH{R:xk}(h:RowsS R)(y low high:Int):(yJ R y low high).Nodup:=by
 by_cases hy:∃(i:Nat) (xs:List Int),R[i]?=some (y,xs)
 ·obtain⟨i,xs,hi⟩:=hy;obtain⟨t1,_⟩:=dU (low:=low) (high:=high) h.nd hi;rw [t1];have hs:=h.str _ (zmg hi);have:(xs.filter (wu low high)).Pairwise (·<·):=hs.filter _;have h2:(xs.filter (wu low high)).Nodup:=List.Pairwise.imp (fun {a b} hab=>Int.ne_of_lt hab) this;rw [List.Nodup,List.pairwise_map];exact List.Pairwise.imp (fun {a b} hab e=>hab (by injection e)) h2
 ·have hn:∀e∈R,e.1≠y:=fun e he h=>hy (by
   obtain⟨i,hi⟩:=List.getElem?_of_mem he;exact⟨i,e.2,by rw [hi,<-h]⟩)
  rw [(WO (low:=low) (high:=high) hn).1];exact List.nodup_nil
def wN(R:xk)(rest:List qd):Prop:=RowsS R/\∀p,iU R p↔p∈rest
theorem fI{rest t:List qd}(hr:rest.Nodup)(ht:t.Nodup)(hs:∀x∈t,x∈rest):(minus rest t).length+t.length=rest.length:=by
 have h1:(minus rest t++t).Perm rest:=by
  refine (List.perm_ext_iff_of_nodup ?_ hr).2 fun x=>?_
  ·rw [List.nodup_append];refine⟨List.Pairwise.filter _ hr,ht,fun a ha b hb e=>?_⟩;subst e;exact (yX.1 ha).2 hb
  ·rw [List.mem_append,yX];constructor
   ·rintro (h|h)
    ·exact h.1
    ·exact hs x h
   ·intro h;by_cases hx:x∈t
    ·exact .inr hx
    ·exact .inl ⟨h,hx⟩
 have:=h1.length_eq;simpa using this
theorem wN.take{R:xk}{rest:List qd}(h:wN R rest)(hr:rest.Nodup)(y low high:Int):wN (lft R y low high) (minus rest (yJ R y low high))/\(yJ R y low high).Nodup/\(∀x,x∈yJ R y low high↔x∈rest/\Wb y low high x)/\(minus rest (yJ R y low high)).length+(yJ R y low high).length=rest.length:=by
 have hm:∀x,x∈yJ R y low high↔x∈rest/\Wb y low high x:=fun x=>by rw [G3,h.2]
 refine⟨⟨h.1.lft y low high,fun p=>?_⟩,aH h.1 y low high,hm,fI hr (aH h.1 y low high) fun x hx=>((hm x).1 hx).1⟩;rw [OB h.1.nd,yX,hm,h.2];constructor
 ·rintro ⟨a,b⟩;exact⟨a,fun c=>b c.2⟩
 ·rintro ⟨a,b⟩;exact⟨a,fun c=>b ⟨a,c⟩⟩
theorem only{t:List qd}{p:qd}(hn:t.Nodup)(h:∀x∈t,x=p):t=[]\/t=[p]:=by
 match t,hn,h with
 |[],_,_=>exact .inl rfl
 |[x],_,h=>right;rw [h x (by simp)]
 |x::y::t,hn,h=>
  rw [List.nodup_cons] at hn;have h1:=h x (by simp);have h2:=h y (by simp);exact absurd (by rw [h1,h2];simp) hn.1
theorem wN.set{R:xk}{rest:List qd}(h:wN R rest){i:Nat}{x y:Int}{xs:List Int}(hi:R[i]?=some (y,xs))(hlt:∀z∈xs,z<x)(hl:xs.length+1<1000000):wN (R.set i (y,xs++[x])) (rest++[(x,y)]):=by
 have hil:i<R.length:=(zgs hi).1;have hmem:(y,xs)∈R:=zmg hi;refine⟨⟨?_,fun e he=>?_,fun e he=>?_⟩,fun p=>?_⟩
 ·have:(R.set i (y,xs++[x])).map (·.1)=R.map (·.1):=by
   rw [List.map_set];apply List.ext_getElem?;intro j;rw [List.getElem?_set];split
   ·rename_i e;subst e;have:=(zgs hi).2;simp [hil,this]
   ·rfl
  rw [this];exact h.1.nd
 ·rcases List.mem_or_eq_of_mem_set he with h'|h'
  ·exact h.1.str e h'
  ·subst h';simp only;rw [List.pairwise_append];exact⟨h.1.str _ hmem,by simp,fun a ha b hb=>by simp at hb;subst hb;exact hlt a ha⟩
 ·rcases List.mem_or_eq_of_mem_set he with h'|h'
  ·exact h.1.len e h'
  ·subst h';simpa using hl
 ·have hset:∀e,e∈R.set i (y,xs++[x])↔e=(y,xs++[x])\/(e∈R/\e.1≠y):=by
   intro e;constructor
   ·intro he;obtain⟨j,hj⟩:=List.getElem?_of_mem he;rw [List.getElem?_set] at hj;split at hj
    ·left;exact (zsi (by simpa [hil] using hj)).symm
    ·rename_i hne;right;refine⟨zmg hj,fun hy=>hne ?_⟩;have hjl:j<R.length:=(zgs hj).1;have k1:(R.map (·.1))[j]?=some y:=by simp [hj,hy]
     have k2:(R.map (·.1))[i]?=some y:=by simp [hi]
     exact (List.getElem?_inj (by simpa using hil) h.1.nd).1 (k2.trans k1.symm)
   ·rintro (rfl|⟨he,hne⟩)
    ·exact List.mem_iff_getElem?.2 ⟨i,by rw [List.getElem?_set_self hil]⟩
    ·obtain⟨j,hj⟩:=List.getElem?_of_mem he;refine List.mem_iff_getElem?.2 ⟨j,?_⟩;rw [List.getElem?_set_ne (fun e=>hne ?_)]
     ·exact hj
     ·subst e;rw [hi] at hj;rw [<-zsi hj]
  rw [List.mem_append,List.mem_singleton,<-h.2];constructor
  ·rintro ⟨e,he,h1,h2⟩;rcases (hset e).1 he with rfl|⟨he',hne⟩
   ·simp only at h1 h2;rcases List.mem_append.1 h2 with h3|h3
    ·exact .inl ⟨_,hmem,h1,h3⟩
    ·right;simp at h3;exact Prod.ext h3 h1.symm
   ·exact .inl ⟨e,he',h1,h2⟩
  ·rintro (⟨e,he,h1,h2⟩|rfl)
   ·by_cases hy:e.1=y
    ·have:e=(y,xs):=by
      obtain⟨j,hj⟩:=List.getElem?_of_mem he;have hjl:j<R.length:=(zgs hj).1;have k1:(R.map (·.1))[j]?=some y:=by simp [hj,hy]
      have k2:(R.map (·.1))[i]?=some y:=by simp [hi]
      have:=(List.getElem?_inj (by simpa using hil) h.1.nd).1 (k2.trans k1.symm);subst this;rw [hi] at hj;exact (zsi hj).symm
     subst this;exact⟨_,(hset _).2 (.inl rfl),h1,List.mem_append_left _ h2⟩
    ·exact⟨e,(hset e).2 (.inr ⟨he,hy⟩),h1,h2⟩
   ·exact⟨_,(hset _).2 (.inl rfl),rfl,by simp⟩
theorem wN.push{R:xk}{rest:List qd}(h:wN R rest){x y:Int}(hn:∀e∈R,e.1≠y):wN (R++[(y,[x])]) (rest++[(x,y)]):=by
 refine⟨⟨?_,fun e he=>?_,fun e he=>?_⟩,fun p=>?_⟩
 ·rw [List.map_append,List.nodup_append];refine⟨h.1.nd,by simp,fun a ha b hb e=>?_⟩;simp at hb;subst hb;subst e;obtain⟨e',he',h'⟩:=List.mem_map.1 ha;exact hn e' he' h'
 ·rcases List.mem_append.1 he with h'|h'
  ·exact h.1.str e h'
  ·simp at h';subst h';simp
 ·rcases List.mem_append.1 he with h'|h'
  ·exact h.1.len e h'
  ·simp at h';subst h';simp
 ·rw [List.mem_append,List.mem_singleton,<-h.2];constructor
  ·rintro ⟨e,he,h1,h2⟩;rcases List.mem_append.1 he with h'|h'
   ·exact .inl ⟨e,h',h1,h2⟩
   ·simp at h';subst h';simp at h1 h2;exact .inr (Prod.ext h2 h1.symm)
  ·rintro (⟨e,he,h1,h2⟩|rfl)
   ·exact⟨e,List.mem_append_left _ he,h1,h2⟩
   ·exact⟨(y,[x]),List.mem_append_right _ (by simp),rfl,by simp⟩
end Go.Ah

namespace Go.Ah
open Go.Ab Go.Proofs
def yD(o d:Int):Int:=if o<0\/d<o then d else o
theorem n3:∀(L:List Int) (o:Int),0<=o->(∀d∈L,0<=d)->L.foldl yD o=L.foldl min o
 |[],_,_,_=>rfl
 |d::L,o,ho,hL=>by
  have hd:=hL d (by simp);simp only [List.foldl_cons];have e:yD o d=min o d:=by unfold yD;split<;>omega
  rw [e];exact n3 L (min o d) (by omega) fun x hx=>hL x (by simp [hx])
theorem EY(a b:List qd):(zS a b).foldl yD (-1)=xC a b:=by
 by_cases ha:a=[]
 ·subst ha;simp [zS,xC]
 ·by_cases hb:b=[]
  ·subst hb;obtain⟨p,a',rfl⟩:=List.exists_cons_of_ne_nil ha;have:∀l:List qd,zS l []=[]:=fun l=>by simp [zS]
   rw [this];rfl
  ·obtain⟨p,a',rfl⟩:=List.exists_cons_of_ne_nil ha;obtain⟨q,b',rfl⟩:=List.exists_cons_of_ne_nil hb;have hd:xC (p::a') (q::b')=(zS (p::a') (q::b')).foldl min (xg p q):=rfl;have hnn:∀d∈zS (p::a') (q::b'),0<=d:=fun d hd=>by
    obtain⟨x,_,y,_,rfl⟩:=W3.1 hd;exact K6 x y
   have hf:∃L,zS (p::a') (q::b')=xg p q::L:=⟨_,by simp [zS];rfl⟩;obtain⟨L,hL⟩:=hf;rw [hd];rw [hL] at hnn ⊢;simp only [List.foldl_cons];rw [show yD (-1) (xg p q)=xg p q by simp [yD],show min (xg p q) (xg p q)=xg p q by omega];exact n3 L _ (K6 p q) fun x hx=>hnn x (by simp [hx])
theorem ka{a b:List qd}(ha:ki a)(hb:ki b)(hn:a.length<1000000)(hm:b.length<1000000):DK 161 [qx a,qx b] fun d=>d=.int (xC a b):=by
 refine qI fun Z0 lo=>?_;refine qa ?_;intros;refine qm (fun m E S nk=>∃k:Nat,k+m=a.length/\E=[(0,qx a),(1,qx b),(5,.int ((zS (a.take k) b).foldl yD (-1))),(6,.int k)]/\S=[]/\nk=0) ⟨a.length,_,_,_,[],?wk,0,oM,rfl,rfl,rfl⟩ ?_
 case wk=>exact ql
 rintro m E S nk ⟨k,hk,rfl,rfl,rfl⟩;refine qa ?_;intros;refine qb rfl (fun ht=>?_) (fun ht=>?_)
 ·simp at ht;obtain⟨p,hp⟩:∃q,a[k]?=some q:=⟨_,zge oM⟩;have e3:=qY hp;have hps:=ha p (zmg hp);refine qa ?_;intros;refine qm (fun m E S nk=>∃j:Nat,j+m=b.length/\E=[(0,qx a),(1,qx b),(5,.int (((b.take j).map (xg p)).foldl yD ((zS (a.take k) b).foldl yD (-1)))),(6,.int k),(7,.int j)]/\S=[]/\nk=0) ⟨b.length,_,_,_,[],?wk2,0,oM,rfl,rfl,rfl⟩ ?_
  case wk2=>exact ql
  rintro m2 E S nk ⟨j,hj,rfl,rfl,rfl⟩;refine qa ?_;intros;refine qb rfl (fun ht2=>?_) (fun ht2=>?_)
  ·simp at ht2;obtain⟨q,hq⟩:∃q,b[j]?=some q:=⟨_,zge oM⟩;have e4:=qY hq;have hqs:=hb q (zmg hq);have hD:((b.take (j+1)).map (xg p)).foldl yD ((zS (a.take k) b).foldl yD (-1))=yD (((b.take j).map (xg p)).foldl yD ((zS (a.take k) b).foldl yD (-1))) (xg p q):=by
    rw [List.take_add_one,hq];simp
   refine qa ?_;intros;refine qj rfl rfl (Ct (p:=p) (q:=q) hps hqs) ?_;rintro _ rfl;generalize ((b.take j).map (xg p)).foldl yD ((zS (a.take k) b).foldl yD (-1))=o at *;refine qa ?_;intros;refine qb rfl (fun ht3=>?_) (fun ht3=>?_)
   ·have hc:yD o (xg p q)=xg p q:=by unfold yD;simp at ht3;rw [if_pos (by omega)]
    rw [hc] at hD;refine qa ?_;intros;refine⟨m2-1,oM,_,_,_,[],?wk3,j+1,oM,rfl,rfl,rfl⟩
    case wk3=>rw [hD];exact ql
   ·have hc:yD o (xg p q)=o:=by unfold yD;simp at ht3;rw [if_neg (by omega)]
    rw [hc] at hD;refine qa ?_;intros;refine⟨m2-1,oM,_,_,_,[],?wk3,j+1,oM,rfl,rfl,rfl⟩
    case wk3=>rw [hD];exact ql
  ·simp at ht2;obtain rfl:j=b.length:=by omega
   refine qa ?_;intros;have hD:((b.take b.length).map (xg p)).foldl yD ((zS (a.take k) b).foldl yD (-1))=(zS (a.take (k+1)) b).foldl yD (-1):=by
    rw [List.take_add_one,hp,List.take_length];simp [zS]
   rw [hD];refine⟨m-1,oM,_,_,_,[],?wk3,k+1,oM,rfl,rfl,rfl⟩
   case wk3=>exact ql
 ·simp at ht;obtain rfl:k=a.length:=by omega
  refine qa ?_;intros;refine qc ⟨_,rfl,rfl,?_⟩;rw [List.take_length,EY]
end Go.Ah
