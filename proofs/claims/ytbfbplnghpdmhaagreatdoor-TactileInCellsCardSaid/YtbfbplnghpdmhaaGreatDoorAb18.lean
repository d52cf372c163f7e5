/- -/
import Derived.Test.YtbfbplnghpdmhaaGreatDoorAb17
set_option linter.unusedSimpArgs false
set_option maxHeartbeats 8000000
set_option linter.unusedVariables false
namespace Go.Ag
open Go.Ab Go.Proofs
theorem bU(p q:qc):0<=xy p q:=by simp only [xy];omega
theorem VY(p q:qc):xy p q=xy q p:=by simp only [xy];omega
theorem HD(p q:qc):xy p q=0↔p=q:=by
 obtain⟨p1,p2⟩:=p;obtain⟨q1,q2⟩:=q;simp only [xy,zpi];omega
theorem VQ{a b:List qc}{z:Int}:z∈yR a b↔∃x∈a,∃y∈b,xy x y=z:=by simp [yR]
theorem Yo{a b:List qc}(ha:a≠[])(hb:b≠[]):(∃x∈a,∃y∈b,xy x y=x8 a b)/\∀x∈a,∀y∈b,x8 a b<=xy x y:=by
 obtain⟨p,a',rfl⟩:=List.exists_cons_of_ne_nil ha;obtain⟨q,b',rfl⟩:=List.exists_cons_of_ne_nil hb;have hd:x8 (p::a') (q::b')=(yR (p::a') (q::b')).foldl min (xy p q):=rfl;refine⟨?_,fun x hx y hy=>?_⟩
 ·rcases J5 (yR (p::a') (q::b')) (xy p q) with h|h
  ·exact⟨p,by simp,q,by simp,by rw [hd,h]⟩
  ·exact VQ.1 (hd▸h)
 ·rw [hd];exact (WU _ _).2 _ (VQ.2 ⟨x,hx,y,hy,rfl⟩)
theorem Yp(a b:List qc):x8 a b=x8 b a:=by
 by_cases ha:a=[]
 ·subst ha;cases b<;>rfl
 ·by_cases hb:b=[]
  ·subst hb;cases a<;>rfl
  ·obtain⟨⟨x,hx,y,hy,h⟩,h1⟩:=Yo ha hb;obtain⟨⟨x',hx',y',hy',h'⟩,h2⟩:=Yo hb ha;have g1:=h1 y' hy' x' hx';have g2:=h2 y hy x hx;rw [VY] at g1 g2;omega
end Go.Ag

namespace Go.Ag
open Go.Ab
inductive Conn (gap:Int) (rest:List qc) (p:qc):qc->Prop
 |base:p∈rest->Conn gap rest p p
 |step {x y:qc}:Conn gap rest p x->y∈rest->xy x y<=gap->Conn gap rest p y
def minus(l c:List qc):List qc:=l.filter fun x=>!decide (x∈c)
theorem yg{l c:List qc}{x:qc}:x∈minus l c↔x∈l/\x∉c:=by simp [minus]
inductive ClS (gap:Int):List qc->List (List qc)->Prop
 |nil:ClS gap [] []
 |cons {p:qc} {r c:List qc} {cs:List (List qc)}:qJ c->(∀x,x∈c↔Conn gap (p::r) p x)->ClS gap (minus (p::r) c) cs->ClS gap (p::r) (c::cs)
theorem ClS.uniq{gap:Int}{l:List qc}{a b:List (List qc)}(ha:ClS gap l a)(hb:ClS gap l b):a=b:=by
 induction ha generalizing b with
 |nil=>cases hb;rfl
 |cons h1 h2 h3 ih=>
  cases hb with
  |cons g1 g2 g3=>
   have e:=qJ.ext h1 g1 fun p=>(h2 p).trans (g2 p).symm;subst e;rw [ih g3]
theorem Conn.mem{gap:Int}{rest:List qc}{p x:qc}(h:Conn gap rest p x):x∈rest:=by
 cases h with
 |base h=>exact h
 |step _ h _=>exact h
theorem Vq{gap:Int}{rest one:List qc}{p:qc}(hp:p∈one)(hc:∀x∈one,Conn gap rest p x)(hcl:∀x∈one,∀y∈rest,xy x y<=gap->y∈one)(x:qc):x∈one↔Conn gap rest p x:=by
 constructor
 ·exact hc x
 ·intro h;induction h with
  |base _=>exact hp
  |step _ h2 h3 ih=>exact hcl _ ih _ h2 h3
theorem qJ.filter{l:List qc}(h:qJ l)(f:qc->Bool):qJ (l.filter f):=List.Pairwise.filter f h
theorem qJ.minus{l:List qc}(h:qJ l)(c:List qc):qJ (minus l c):=h.filter _
theorem qJ.nodup{l:List qc}(h:qJ l):l.Nodup:=by
 refine List.Pairwise.imp ?_ h;intro a b hab e;subst e;exact jz hab
theorem Yf{p:qc}{r c:List qc}(hp:p∈c):(minus (p::r) c).length<=r.length:=by
 unfold minus;rw [List.filter_cons,if_neg (by simp [hp])];exact List.length_filter_le _ _
theorem wA:∀{a b:List qc},a.Nodup->(∀x∈a,x∈b)->a.length<=b.length
 |[],b,_,_=>Nat.zero_le _
 |x::a,b,hn,h=>by
  rw [List.nodup_cons] at hn;have hx:=h x (by simp);have:=wA (a:=a) (b:=b.erase x) hn.2 fun y hy=>by
   rw [List.mem_erase_of_ne (fun e=>hn.1 (by rw [<-e];exact hy))];exact h y (by simp [hy])
  rw [List.length_erase_of_mem hx] at this;have hpos:0<b.length:=List.length_pos_of_mem hx;simp only [List.length_cons];omega
theorem nB{one:List qc}(h:one≠[])(y:qc){gap:Int}:x8 one [y]<=gap↔∃x∈one,xy x y<=gap:=by
 obtain⟨⟨x,hx,z,hz,he⟩,h2⟩:=Yo h (b:=[y]) (by simp);simp only [List.mem_singleton] at hz;subst hz;constructor
 ·intro hg;exact⟨x,hx,oM⟩
 ·rintro ⟨w,hw,hg⟩;have:=h2 w hw z (by simp);omega
end Go.Ag

namespace Go.Ag
open Go.Ab Go.Proofs
theorem u5:DK 83 [KE] fun d=>d=KE:=by
 refine qD IU rfl xa fun Z0 lo=>?_;refine qb ?_;intros;refine qd rfl (fun _=>?_) (fun h=>by cases h);refine qb ?_;intros;exact qf ⟨_,rfl,rfl,rfl⟩
theorem Wm{l:List qc}(h:qJ l):qr l=l:=qJ.ext (xg l) h fun p=>qO
theorem aQ{α:Type}:∀(cs l:List α) (i:Nat),(setLs l i cs).take i=l.take i
 |[],_,_=>rfl
 |c::cs,l,i=>by
  simp only [setLs];have h:=aQ cs (l.set i c) (i+1);have h2:=congrArg (List.take i) h;rw [List.take_take,List.take_take,Nat.min_eq_left (by omega)] at h2;rw [h2,List.take_set_of_le (Nat.le_refl i)]
theorem iI:∀(l:List qc) (i:Nat) (x:qc),setLs (l.flatMap qh) (i*2) (qh x)=(l.set i x).flatMap qh
 |[],i,x=>by simp [setLs,qh]
 |y::l,0,x=>by simp [setLs,qh]
 |y::l,i+1,x=>by
  have:=iI l i x;simp only [setLs,qh] at this;simp only [List.flatMap_cons,List.set_cons_succ,setLs,qh];rw [show (i+1)*2=i*2+1+1 by omega];simp only [List.cons_append,List.nil_append,List.set_cons_succ];rw [<-this]
theorem B1(l:List qc)(i:Nat)(x:qc):Q2 (.data (l.flatMap qh)) (i*2) [.f (.c (.int .i64 x.1)),.f (.c (.int .i64 x.2))]=.data ((l.set i x).flatMap qh):=congrArg Bk.data (iI l i x)
theorem Xq.step{l:List qc}(hs:Xq l){i j:Nat}{x y:qc}(hi:l[i]?=some x)(hj:l[j]?=some y)(hij:i<j)(hne:y≠x):xq x y=true:=Km (by rw [hs i j x y hi hj hij];decide) (fun e=>hne e)
theorem qJ.snoc{c:List qc}(h:qJ c){y x:qc}(hl:c.getLast?=some y)(hb:xq y x=true):qJ (c++[x]):=by
 rw [qJ,List.pairwise_append];refine⟨h,by simp,fun a ha b hb'=>?_⟩;simp only [List.mem_singleton] at hb';subst hb';obtain⟨i,hi⟩:=List.getElem?_of_mem ha;rw [List.getLast?_eq_getElem?] at hl;have h1:=(zgs hi).1;have h2:=(zgs hl).1;by_cases e:i=c.length-1
 ·subst e;rw [hi] at hl;rw [zsi hl];exact hb
 ·have:=List.pairwise_iff_getElem.1 h i (c.length-1) h1 h2 oM;rw [(zgs hi).2,(zgs hl).2] at this;exact wN this hb
theorem uS{l:List qc}(hs:Xq l)(hp:0<l.length)(hb:l.length<1000000):ZX 83 [.one (.own 0 0 l.length 2)] [(0,.data (l.flatMap qh))] 1 fun d S nk=>nk=1/\d=.one (.own 0 0 (qr l).length 2)/\∃rest,S=[(0,.data ((qr l).flatMap qh++rest))]:=by
 refine vb IU rfl fun Z β H lo=>?_;obtain⟨n,hn⟩:∃n,l.length=n:=⟨_,rfl⟩;have hflat:=xc l;rw [hn];refine qb ?_;intros;refine qd rfl (fun ht=>?_) (fun ht=>?_)
 ·simp at ht;obtain⟨x,rfl⟩:∃x,l=[x]:=by
   match l,hn,hp with
   |[x],_,_=>exact⟨x,rfl⟩
   |x::y::l,hn,_=>simp at hn;omega
  simp at hn;subst hn;have hso:qr [x]=[x]:=Wm (by simp);rw [hso];refine qb ?_;intros;exact qf ⟨_,rfl,rfl,_,zK _,rfl,rfl,[],by simp⟩
 ·simp at ht;refine qb ?_;intros;refine qm (fun m E S nk=>∃k:Nat,1<=k/\k<=n/\m=n-k/\qJ (l.take k)/\E=[(0,.one (.own 0 0 n 2)),(3,.int k)]/\S=[(0,.data (l.flatMap qh))]/\nk=1) ⟨n-1,_,_,_,[],?wk,1,oM,oM,rfl,?h1,rfl,rfl,rfl⟩ ?_
  case wk=>exact ql
  case h1=>
   cases l with
   |nil=>simp at hp
   |cons x l=>simp
  rintro m E S nk ⟨k,hk1,hkn,hm,hro,rfl,rfl,rfl⟩;refine qb ?_;intros;refine qd rfl (fun ht2=>?_) (fun ht2=>?_)
  ·simp at ht2;obtain⟨j,rfl⟩:∃j,k=j+1:=⟨k-1,oM⟩;obtain⟨x,hx⟩:∃x,l[j+1]?=some x:=⟨_,zge oM⟩;obtain⟨y,hy⟩:∃y,l[j]?=some y:=⟨_,zge oM⟩;have e1:xK (l.flatMap qh) (Int.toNat ((j+1:Nat):Int)*2) 2=some (qh x):=xi hx;have e2:xK (l.flatMap qh) (Int.toNat ((j:Nat):Int)*2) 2=some (qh y):=xi hy;refine qb ?_;intros;rw [show IntKind.i64.wrap (((j+1:Nat):Int)-1)=(j:Nat) by rw [qo (by omega) (by omega)];omega];refine qb ?_;intros;refine zJ (ve (p:=x) (q:=y) rfl rfl) ?_;refine qb ?_;intros;refine qd rfl (fun he=>?_) (fun he=>?_)
   ·have hxy:x=y:=by simpa using he
    subst hxy;refine qb ?_;intros;refine YZ (o':=(j+1)*2) (n':=n-(j+1)) rfl rfl rfl oM oM oM rfl ?_;refine qb ?_;intros;refine qm (fun m E S nk=>∃(w k2:Nat) (cur:List qc),1<=k2/\j+1+k2<=n/\m=n-(j+1+k2)/\j+1<=w/\w<=j+k2/\cur.length=n/\qJ (cur.take w)/\(∀p,p∈cur.take w↔p∈l.take (j+1+k2))/\(∀i,j+k2<=i->cur[i]?=l[i]?)/\cur[w-1]?=l[j+k2]?/\E=[(0,.one (.own 0 0 n 2)),(3,.int w),(4,.one (.own 0 ((j+1)*2) (n-(j+1)) 2)),(5,.int k2)]/\S=[(0,.data (cur.flatMap qh))]/\nk=1) ⟨n-(j+1+1),_,_,_,[],?wk1,j+1,1,l,by omega,by omega,rfl,by omega,by omega,hn,hro,fun p=>?hm1,fun i _=>rfl,by rw [Nat.add_sub_cancel,hx,hy],rfl,rfl,rfl⟩ ?_
    case wk1=>exact ql
    case hm1=>
     rw [List.take_add_one (i:=j+1),hx,List.mem_append];simp only [Option.toList_some,List.mem_singleton];refine⟨.inl,fun h=>h.elim id fun e=>?_⟩;subst e;rw [List.take_add_one,hy];simp
    rintro m E S nk ⟨w,k2,cur,hk2,hkn2,hm2,hw1,hw2,hcl,hcr,hcm,hcu,hla,rfl,rfl,rfl⟩;have hcf:=xc cur;refine qb ?_;intros;refine qd rfl (fun ht3=>?_) (fun ht3=>?_)
    ·simp at ht3;obtain⟨i,rfl⟩:∃i,k2=i+1:=⟨k2-1,oM⟩;obtain⟨a,ha⟩:∃a,l[j+1+(i+1)]?=some a:=⟨_,zge oM⟩;obtain⟨b,hb2⟩:∃b,l[j+(i+1)]?=some b:=⟨_,zge oM⟩;have ha':cur[j+1+(i+1)]?=some a:=by rw [hcu _ (by omega)];exact ha
     have hb':cur[j+1+i]?=some b:=by rw [hcu _ (by omega),<-hb2];congr 1;omega
     have e3:xK (cur.flatMap qh) ((j+1)*2+Int.toNat ((i+1:Nat):Int)*2) 2=some (qh a):=by
      have:=xi ha'
      rwa [Nat.add_mul] at this
     have e4:xK (cur.flatMap qh) ((j+1)*2+Int.toNat ((i:Nat):Int)*2) 2=some (qh b):=by
      have:=xi hb'
      rwa [Nat.add_mul] at this
     refine qb ?_;intros;refine cD rfl rfl oM oM ?_;refine qb ?_;intros;rw [show IntKind.i64.wrap (((i+1:Nat):Int)-1)=(i:Nat) by rw [qo (by omega) (by omega)];omega];refine cD rfl rfl oM oM ?_;refine qb ?_;intros;refine zJ (ve (neg:=true) (p:=a) (q:=b) rfl rfl) ?_;refine qb ?_;intros;refine qd rfl (fun hne=>?_) (fun heq=>?_)
     ·have hab:a≠b:=by simpa using hne
      have hba:xq b a=true:=hs.step hb2 ha oM hab;refine qb ?_;intros;refine cD rfl rfl oM oM ?_;refine qb ?_;intros;refine vB rfl rfl rfl rfl rfl ?hle rfl ?_
      case hle=>show Int.toNat (w:Int)*2+2<=(cur.flatMap qh).length;rw [hcf];simp;omega
      rw [Int.toNat_natCast w,show Q2 (.data (cur.flatMap qh)) (w*2) (List.map DC.f (qh a))=.data ((cur.set w a).flatMap qh) from B1 cur w a];refine qb ?_;intros;have htk:(cur.set w a).take (w+1)=cur.take w++[a]:=by
       rw [List.take_add_one,List.take_set_of_le (Nat.le_refl w),List.getElem?_set_self (by omega)];rfl
      refine⟨n-(j+1+(i+1+1)),by omega,_,_,_,[],?wk2,w+1,i+1+1,cur.set w a,by omega,by omega,rfl,by omega,by omega,by simpa using hcl,?hr,fun p=>?hm2,fun q hq=>?hu,?hl,rfl,rfl,rfl⟩
      case wk2=>exact ql
      case hr=>
       rw [htk];refine hcr.snoc (y:=b) ?_ hba;rw [List.getLast?_eq_getElem?,List.length_take,Nat.min_eq_left (by omega),List.getElem?_take,if_pos (by omega),hla];exact hb2
      case hm2=>
       rw [htk,List.mem_append,hcm,show j+1+(i+1+1)=j+1+(i+1)+1 by omega,List.take_add_one,ha,List.mem_append];simp
      case hu=>rw [List.getElem?_set_ne (by omega),hcu q (by omega)]
      case hl=>rw [Nat.add_sub_cancel,List.getElem?_set_self (by omega),<-ha];congr 1;omega
     ·have hab:a=b:=by simpa using heq
      subst hab;refine qb ?_;intros;refine⟨n-(j+1+(i+1+1)),oM,_,_,_,[],?wk3,w,i+1+1,cur,oM,oM,rfl,oM,oM,hcl,hcr,fun p=>?hm3,fun q hq=>hcu q oM,?hl3,rfl,rfl,rfl⟩
      case wk3=>exact ql
      case hm3=>
       rw [hcm,show j+1+(i+1+1)=j+1+(i+1)+1 by omega,List.take_add_one (i:=j+1+(i+1)),ha,List.mem_append];simp only [Option.toList_some,List.mem_singleton];refine⟨.inl,fun h=>h.elim id fun e=>?_⟩;subst e;refine zmg (i:=j+(i+1)) ?_;rw [List.getElem?_take,if_pos (by omega)];exact hb2
      case hl3=>rw [hla,hb2,<-ha];congr 1;omega
    ·simp at ht3;have hk:j+1+k2=n:=by omega
     have hso:qr l=cur.take w:=qJ.ext (xg l) hcr fun p=>by
      rw [qO,hcm,hk,List.take_of_length_le (by omega)]
     refine qb ?_;intros;refine YZ (o':=w*2) (n':=n-w) rfl rfl rfl oM oM oM rfl ?_;refine qaI (zf:=[.c (.int .i64 0),.c (.int .i64 0)]) rfl rfl ?hle ⟨rfl,rfl,rfl,rfl,trivial⟩ rfl (by decide) oM rfl ?_
     case hle=>rw [hcf];omega
     refine qb ?_;intros;refine YZ (o':=0) (n':=w) rfl rfl rfl oM oM oM rfl ?_;refine qb ?_;intros;have hwl:(qr l).length=w:=by rw [hso,List.length_take];omega
     rw [hwl];refine qf ⟨_,rfl,rfl,_,qe (k:=0) rfl (qy _),rfl,rfl,(setLs (cur.flatMap qh) (w*2) (yM [.c (.int .i64 0),.c (.int .i64 0)] (n-w))).drop (w*2),?_⟩;have h1:(qr l).flatMap qh=(setLs (cur.flatMap qh) (w*2) (yM [.c (.int .i64 0),.c (.int .i64 0)] (n-w))).take (w*2):=by
      rw [aQ,hso];have hsp:cur.flatMap qh=(cur.take w).flatMap qh++(cur.drop w).flatMap qh:=by rw [<-List.flatMap_append,List.take_append_drop]
      have hl2:((cur.take w).flatMap qh).length=w*2:=by rw [xc,List.length_take];omega
      rw [hsp,<-hl2,List.take_left]
     rw [h1,List.take_append_drop]
   ·have hxy:x≠y:=by simpa using he
    have hyx:xq y x=true:=hs.step hy hx oM hxy;refine qb ?_;intros;refine⟨n-(j+1+1),oM,_,_,_,[],?wk5,j+1+1,oM,oM,rfl,?hr5,rfl,rfl,rfl⟩
    case wk5=>exact ql
    case hr5=>
     rw [List.take_add_one,hx];refine hro.snoc (y:=y) ?_ hyx;rw [List.getLast?_eq_getElem?,List.length_take,Nat.min_eq_left (by omega),List.getElem?_take,if_pos (by omega),Nat.add_sub_cancel];exact hy
  ·simp at ht2;obtain rfl:k=n:=by omega
   rw [List.take_of_length_le (by omega)] at hro;rw [Wm hro,hn];refine qb ?_;intros;exact qf ⟨_,rfl,rfl,_,zK _,rfl,rfl,[],by simp⟩
end Go.Ag

namespace Go.Ag
open Go.Ab
def oC(R:xU)(p:qc):Prop:=∃e∈R,e.1=p.2/\p.1∈e.2
structure RowsS (R:xU):Prop where
 nd:(R.map (·.1)).Nodup
 str:∀e∈R,e.2.Pairwise (·<·)
 len:∀e∈R,e.2.length<1000000
theorem RowsS.ok{R:xU}(h:RowsS R):RowsOk R:=⟨h.nd,fun e he i j x y hij hi hj=>by
 obtain⟨hi',hi2⟩:=zgs hi;obtain⟨hj',hj2⟩:=zgs hj;have:=List.pairwise_iff_getElem.1 (h.str e he) i j hi' hj' hij;omega,h.len⟩
theorem RowsS.nil:RowsS []:=⟨by simp,by simp,by simp⟩
theorem RowsS.lft{R:xU}(h:RowsS R)(y low high:Int):RowsS (lft R y low high):=by
 refine⟨?_,fun e he=>?_,fun e he=>?_⟩
 ·have:(Ag.lft R y low high).map (·.1)=R.map (·.1):=by unfold Ag.lft;rw [List.map_map];rfl
  rw [this];exact h.nd
 ·simp only [Ag.lft,List.mem_map] at he;obtain⟨e',he',rfl⟩:=he;simp only;split
  ·exact (h.str e' he').filter _
  ·exact h.str e' he'
 ·simp only [Ag.lft,List.mem_map] at he;obtain⟨e',he',rfl⟩:=he;have:=h.len e' he';simp only;split
  ·exact Nat.lt_of_le_of_lt (List.length_filter_le _ _) this
  ·exact this
def KM(y low high:Int)(p:qc):Prop:=p.2=y/\low<=p.1/\p.1<=high
theorem OO{R:xU}{y low high:Int}{p:qc}:p∈jZ R y low high↔oC R p/\KM y low high p:=by
 simp only [jZ,List.mem_flatMap,List.mem_filter,List.mem_map,xV,oC,KM,va,xD];constructor
 ·rintro ⟨e,⟨he,hy⟩,x,⟨hx,h1,h2⟩,rfl⟩;exact⟨⟨e,he,hy,hx⟩,rfl,h1,h2⟩
 ·rintro ⟨⟨e,he,h1,h2⟩,h3,h4,h5⟩;exact⟨e,⟨he,by rw [h1,h3]⟩,p.1,⟨h2,h4,h5⟩,by rw [<-h3]⟩
theorem Ad{R:xU}{y low high:Int}{p:qc}(h:(R.map (·.1)).Nodup):oC (lft R y low high) p↔oC R p/\¬KM y low high p:=by
 simp only [lft,oC,List.mem_map,KM];constructor
 ·rintro ⟨e,⟨e',he',rfl⟩,h1,h2⟩;simp only at h1 h2;split at h2
  ·rename_i hy;simp only [List.mem_filter,va,Bool.not_eq_true',Bool.and_eq_false_iff,decide_eq_false_iff_not] at h2;refine⟨⟨e',he',h1,h2.1⟩,?_⟩;rintro ⟨_,h3,h4⟩;rcases h2.2 with h|h
   ·exact h h3
   ·exact h h4
  ·rename_i hy;refine⟨⟨e',he',h1,h2⟩,?_⟩;rintro ⟨h3,_⟩;exact hy (by rw [h1,h3])
 ·rintro ⟨⟨e,he,h1,h2⟩,h3⟩;refine⟨_,⟨e,he,rfl⟩,h1,?_⟩;simp only;split
  ·rename_i hy;simp only [List.mem_filter,va,Bool.not_eq_true',Bool.and_eq_false_iff,decide_eq_false_iff_not];refine⟨h2,?_⟩;by_cases h4:low<=p.1
   ·right;intro h5;exact h3 ⟨by rw [<-h1,hy],h4,h5⟩
   ·left;exact h4
  ·exact h2
theorem d5{R:xU}(h:RowsS R)(y low high:Int):(jZ R y low high).Nodup:=by
 by_cases hy:∃(i:Nat) (xs:List Int),R[i]?=some (y,xs)
 ·obtain⟨i,xs,hi⟩:=hy;obtain⟨t1,_⟩:=gZ (low:=low) (high:=high) h.nd hi;rw [t1];have hs:=h.str _ (zmg hi);have:(xs.filter (va low high)).Pairwise (·<·):=hs.filter _;have h2:(xs.filter (va low high)).Nodup:=List.Pairwise.imp (fun {a b} hab=>Int.ne_of_lt hab) this;rw [List.Nodup,List.pairwise_map];exact List.Pairwise.imp (fun {a b} hab e=>hab (by injection e)) h2
 ·have hn:∀e∈R,e.1≠y:=fun e he h=>hy (by
   obtain⟨i,hi⟩:=List.getElem?_of_mem he;exact⟨i,e.2,by rw [hi,<-h]⟩)
  rw [(Vv (low:=low) (high:=high) hn).1];exact List.nodup_nil
def vK(R:xU)(rest:List qc):Prop:=RowsS R/\∀p,oC R p↔p∈rest
theorem lI{rest t:List qc}(hr:rest.Nodup)(ht:t.Nodup)(hs:∀x∈t,x∈rest):(minus rest t).length+t.length=rest.length:=by
 have h1:(minus rest t++t).Perm rest:=by
  refine (List.perm_ext_iff_of_nodup ?_ hr).2 fun x=>?_
  ·rw [List.nodup_append];refine⟨List.Pairwise.filter _ hr,ht,fun a ha b hb e=>?_⟩;subst e;exact (yg.1 ha).2 hb
  ·rw [List.mem_append,yg];constructor
   ·rintro (h|h)
    ·exact h.1
    ·exact hs x h
   ·intro h;by_cases hx:x∈t
    ·exact .inr hx
    ·exact .inl ⟨h,hx⟩
 have:=h1.length_eq;simpa using this
theorem vK.take{R:xU}{rest:List qc}(h:vK R rest)(hr:rest.Nodup)(y low high:Int):vK (lft R y low high) (minus rest (jZ R y low high))/\(jZ R y low high).Nodup/\(∀x,x∈jZ R y low high↔x∈rest/\KM y low high x)/\(minus rest (jZ R y low high)).length+(jZ R y low high).length=rest.length:=by
 have hm:∀x,x∈jZ R y low high↔x∈rest/\KM y low high x:=fun x=>by rw [OO,h.2]
 refine⟨⟨h.1.lft y low high,fun p=>?_⟩,d5 h.1 y low high,hm,lI hr (d5 h.1 y low high) fun x hx=>((hm x).1 hx).1⟩;rw [Ad h.1.nd,yg,hm,h.2];constructor
 ·rintro ⟨a,b⟩;exact⟨a,fun c=>b c.2⟩
 ·rintro ⟨a,b⟩;exact⟨a,fun c=>b ⟨a,c⟩⟩
theorem only{t:List qc}{p:qc}(hn:t.Nodup)(h:∀x∈t,x=p):t=[]\/t=[p]:=by
 match t,hn,h with
 |[],_,_=>exact .inl rfl
 |[x],_,h=>right;rw [h x (by simp)]
 |x::y::t,hn,h=>
  rw [List.nodup_cons] at hn;have h1:=h x (by simp);have h2:=h y (by simp);exact absurd (by rw [h1,h2];simp) hn.1
theorem vK.set{R:xU}{rest:List qc}(h:vK R rest){i:Nat}{x y:Int}{xs:List Int}(hi:R[i]?=some (y,xs))(hlt:∀z∈xs,z<x)(hl:xs.length+1<1000000):vK (R.set i (y,xs++[x])) (rest++[(x,y)]):=by
 have hil:i<R.length:=(zgs hi).1;have hmem:(y,xs)∈R:=zmg hi;refine⟨⟨?_,fun e he=>?_,fun e he=>?_⟩,fun p=>?_⟩
 ·have:(R.set i (y,xs++[x])).map (·.1)=R.map (·.1):=by
   rw [List.map_set];apply List.ext_getElem?;intro j;rw [List.getElem?_set];split
   ·rename_i e;subst e;have:=(zgs hi).2;simp [hil,this]
   ·rfl
  rw [this];exact h.1.nd
 ·rcases List.mem_or_eq_of_mem_set he with h'|h'
  ·exact h.1.str e h'
  ·subst h';simp only;rw [List.pairwise_append];exact⟨h.1.str _ hmem,by simp,fun a ha b hb=>by simp at hb;subst hb;exact hlt a ha⟩
 ·rcases List.mem_or_eq_of_mem_set he with h'|h'
  ·exact h.1.len e h'
  ·subst h';simpa using hl
 ·have hset:∀e,e∈R.set i (y,xs++[x])↔e=(y,xs++[x])\/(e∈R/\e.1≠y):=by
   intro e;constructor
   ·intro he;obtain⟨j,hj⟩:=List.getElem?_of_mem he;rw [List.getElem?_set] at hj;split at hj
    ·left;exact (zsi (by simpa [hil] using hj)).symm
    ·rename_i hne;right;refine⟨zmg hj,fun hy=>hne ?_⟩;have hjl:j<R.length:=(zgs hj).1;have k1:(R.map (·.1))[j]?=some y:=by simp [hj,hy]
     have k2:(R.map (·.1))[i]?=some y:=by simp [hi]
     exact (List.getElem?_inj (by simpa using hil) h.1.nd).1 (k2.trans k1.symm)
   ·rintro (rfl|⟨he,hne⟩)
    ·exact List.mem_iff_getElem?.2 ⟨i,by rw [List.getElem?_set_self hil]⟩
    ·obtain⟨j,hj⟩:=List.getElem?_of_mem he;refine List.mem_iff_getElem?.2 ⟨j,?_⟩;rw [List.getElem?_set_ne (fun e=>hne ?_)]
     ·exact hj
     ·subst e;rw [hi] at hj;rw [<-zsi hj]
  rw [List.mem_append,List.mem_singleton,<-h.2];constructor
  ·rintro ⟨e,he,h1,h2⟩;rcases (hset e).1 he with rfl|⟨he',hne⟩
   ·simp only at h1 h2;rcases List.mem_append.1 h2 with h3|h3
    ·exact .inl ⟨_,hmem,h1,h3⟩
    ·right;simp at h3;exact Prod.ext h3 h1.symm
   ·exact .inl ⟨e,he',h1,h2⟩
  ·rintro (⟨e,he,h1,h2⟩|rfl)
   ·by_cases hy:e.1=y
    ·have:e=(y,xs):=by
      obtain⟨j,hj⟩:=List.getElem?_of_mem he;have hjl:j<R.length:=(zgs hj).1;have k1:(R.map (·.1))[j]?=some y:=by simp [hj,hy]
      have k2:(R.map (·.1))[i]?=some y:=by simp [hi]
      have:=(List.getElem?_inj (by simpa using hil) h.1.nd).1 (k2.trans k1.symm);subst this;rw [hi] at hj;exact (zsi hj).symm
     subst this;exact⟨_,(hset _).2 (.inl rfl),h1,List.mem_append_left _ h2⟩
    ·exact⟨e,(hset e).2 (.inr ⟨he,hy⟩),h1,h2⟩
   ·exact⟨_,(hset _).2 (.inl rfl),rfl,by simp⟩
theorem vK.push{R:xU}{rest:List qc}(h:vK R rest){x y:Int}(hn:∀e∈R,e.1≠y):vK (R++[(y,[x])]) (rest++[(x,y)]):=by
 refine⟨⟨?_,fun e he=>?_,fun e he=>?_⟩,fun p=>?_⟩
 ·rw [List.map_append,List.nodup_append];refine⟨h.1.nd,by simp,fun a ha b hb e=>?_⟩;simp at hb;subst hb;subst e;obtain⟨e',he',h'⟩:=List.mem_map.1 ha;exact hn e' he' h'
 ·rcases List.mem_append.1 he with h'|h'
  ·exact h.1.str e h'
  ·simp at h';subst h';simp
 ·rcases List.mem_append.1 he with h'|h'
  ·exact h.1.len e h'
  ·simp at h';subst h';simp
 ·rw [List.mem_append,List.mem_singleton,<-h.2];constructor
  ·rintro ⟨e,he,h1,h2⟩;rcases List.mem_append.1 he with h'|h'
   ·exact .inl ⟨e,h',h1,h2⟩
   ·simp at h';subst h';simp at h1 h2;exact .inr (Prod.ext h2 h1.symm)
  ·rintro (⟨e,he,h1,h2⟩|rfl)
   ·exact⟨e,List.mem_append_left _ he,h1,h2⟩
   ·exact⟨(y,[x]),List.mem_append_right _ (by simp),rfl,by simp⟩
end Go.Ag

namespace Go.Ag
open Go.Ab Go.Proofs
def jV(o d:Int):Int:=if o<0\/d<o then d else o
theorem sM:∀(L:List Int) (o:Int),0<=o->(∀d∈L,0<=d)->L.foldl jV o=L.foldl min o
 |[],_,_,_=>rfl
 |d::L,o,ho,hL=>by
  have hd:=hL d (by simp);simp only [List.foldl_cons];have e:jV o d=min o d:=by unfold jV;split<;>omega
  rw [e];exact sM L (min o d) (by omega) fun x hx=>hL x (by simp [hx])
theorem LG(a b:List qc):(yR a b).foldl jV (-1)=x8 a b:=by
 by_cases ha:a=[]
 ·subst ha;simp [yR,x8]
 ·by_cases hb:b=[]
  ·subst hb;obtain⟨p,a',rfl⟩:=List.exists_cons_of_ne_nil ha;have:∀l:List qc,yR l []=[]:=fun l=>by simp [yR]
   rw [this];rfl
  ·obtain⟨p,a',rfl⟩:=List.exists_cons_of_ne_nil ha;obtain⟨q,b',rfl⟩:=List.exists_cons_of_ne_nil hb;have hd:x8 (p::a') (q::b')=(yR (p::a') (q::b')).foldl min (xy p q):=rfl;have hnn:∀d∈yR (p::a') (q::b'),0<=d:=fun d hd=>by
    obtain⟨x,_,y,_,rfl⟩:=VQ.1 hd;exact bU x y
   have hf:∃L,yR (p::a') (q::b')=xy p q::L:=⟨_,by simp [yR];rfl⟩;obtain⟨L,hL⟩:=hf;rw [hd];rw [hL] at hnn ⊢;simp only [List.foldl_cons];rw [show jV (-1) (xy p q)=xy p q by simp [jV],show min (xy p q) (xy p q)=xy p q by omega];exact sM L _ (bU p q) fun x hx=>hnn x (by simp [hx])
theorem v6{a b:List qc}(ha:vi a)(hb:vi b)(hn:a.length<1000000)(hm:b.length<1000000):DK 56 [qz a,qz b] fun d=>d=.int (x8 a b):=by
 refine qD qbG rfl xa fun Z0 lo=>?_;refine qb ?_;intros;refine qm (fun m E S nk=>∃k:Nat,k+m=a.length/\E=[(0,qz a),(1,qz b),(5,.int ((yR (a.take k) b).foldl jV (-1))),(6,.int k)]/\S=[]/\nk=0) ⟨a.length,_,_,_,[],?wk,0,oM,rfl,rfl,rfl⟩ ?_
 case wk=>exact ql
 rintro m E S nk ⟨k,hk,rfl,rfl,rfl⟩;refine qb ?_;intros;refine qd rfl (fun ht=>?_) (fun ht=>?_)
 ·simp at ht;obtain⟨p,hp⟩:∃q,a[k]?=some q:=⟨_,zge oM⟩;have e3:=xi hp;have hps:=ha p (zmg hp);refine qb ?_;intros;refine qm (fun m E S nk=>∃j:Nat,j+m=b.length/\E=[(0,qz a),(1,qz b),(5,.int (((b.take j).map (xy p)).foldl jV ((yR (a.take k) b).foldl jV (-1)))),(6,.int k),(7,.int j)]/\S=[]/\nk=0) ⟨b.length,_,_,_,[],?wk2,0,oM,rfl,rfl,rfl⟩ ?_
  case wk2=>exact ql
  rintro m2 E S nk ⟨j,hj,rfl,rfl,rfl⟩;refine qb ?_;intros;refine qd rfl (fun ht2=>?_) (fun ht2=>?_)
  ·simp at ht2;obtain⟨q,hq⟩:∃q,b[j]?=some q:=⟨_,zge oM⟩;have e4:=xi hq;have hqs:=hb q (zmg hq);have hD:((b.take (j+1)).map (xy p)).foldl jV ((yR (a.take k) b).foldl jV (-1))=jV (((b.take j).map (xy p)).foldl jV ((yR (a.take k) b).foldl jV (-1))) (xy p q):=by
    rw [List.take_add_one,hq];simp
   refine qb ?_;intros;refine qk rfl rfl (qpz (p:=p) (q:=q) hps hqs) ?_;rintro _ rfl;generalize ((b.take j).map (xy p)).foldl jV ((yR (a.take k) b).foldl jV (-1))=o at *;refine qb ?_;intros;refine qd rfl (fun ht3=>?_) (fun ht3=>?_)
   ·have hc:jV o (xy p q)=xy p q:=by unfold jV;simp at ht3;rw [if_pos (by omega)]
    rw [hc] at hD;refine qb ?_;intros;refine⟨m2-1,oM,_,_,_,[],?wk3,j+1,oM,rfl,rfl,rfl⟩
    case wk3=>rw [hD];exact ql
   ·have hc:jV o (xy p q)=o:=by unfold jV;simp at ht3;rw [if_neg (by omega)]
    rw [hc] at hD;refine qb ?_;intros;refine⟨m2-1,oM,_,_,_,[],?wk3,j+1,oM,rfl,rfl,rfl⟩
    case wk3=>rw [hD];exact ql
  ·simp at ht2;obtain rfl:j=b.length:=by omega
   refine qb ?_;intros;have hD:((b.take b.length).map (xy p)).foldl jV ((yR (a.take k) b).foldl jV (-1))=(yR (a.take (k+1)) b).foldl jV (-1):=by
    rw [List.take_add_one,hp,List.take_length];simp [yR]
   rw [hD];refine⟨m-1,oM,_,_,_,[],?wk3,k+1,oM,rfl,rfl,rfl⟩
   case wk3=>exact ql
 ·simp at ht;obtain rfl:k=a.length:=by omega
  refine qb ?_;intros;refine qf ⟨_,rfl,rfl,?_⟩;rw [List.take_length,LG]
def qL(l:List qc):FD:=.sl 2 l.length (l.flatMap qh)
def zN(cs:List (List qc)):DV:=.one (.f (.sl 1 cs.length (cs.map qL)))
theorem jv{cs:List (List qc)}{i:Nat}{c:List qc}(h:cs[i]?=some c):xK (cs.map qL) (i*1) 1=some [qL c]:=by
 have hi:i<cs.length:=(zgs h).1;rw [yj (by simp;omega)];rw [Nat.mul_one,List.drop_eq_getElem_cons (by simpa using hi)];have:cs[i]=c:=(zgs h).2;simp [this]
theorem Vp{l:List qc}{gap:Int}(hs:vi l)(hn:l.length<100000):DK 24 [qz l,.int gap] fun d=>∃cs,d=zN cs/\ClS gap (qr l) cs:=by
 have hsl:(qr l).length<100000:=by
  have:=wA (xg l).nodup (fun x hx=>qO.1 hx);omega
 have hss:vi (qr l):=fun x hx=>hs x (qO.1 hx);refine qD qb7 rfl xa fun Z0 lo=>?_;refine qb ?_;intros;refine qk rfl rfl (V2 oM) ?_;rintro _ rfl;refine qb ?_;intros;refine qu (qe (k:=1) rfl (qe (k:=5) rfl (qe (k:=6) rfl (qy _)))) (zK _) ?_;refine qm (fun m E S nk=>∃rest out,m=rest.length/\qJ rest/\(∀x∈rest,x∈qr l)/\out.length+rest.length<=(qr l).length/\(∀cs,ClS gap rest cs->ClS gap (qr l) (out++cs))/\E=[(1,.int gap),(5,qz rest),(6,.one (.own 0 0 out.length 1))]/\S=[(0,.data (out.map qL))]/\nk=1) ⟨(qr l).length,_,_,_,[],?wk,qr l,[],rfl,xg l,fun x h=>h,by simp,fun cs h=>h,rfl,rfl,rfl⟩ ?_
 case wk=>exact ql
 rintro m E S nk ⟨rest,out,hm,hrows,hsub,hout,hcls,rfl,rfl,rfl⟩;have hrl:rest.length<100000:=by omega
 have hol:(out.map qL).length=out.length*1:=by simp
 have hrs:vi rest:=fun x hx=>hss x (hsub x hx);refine qb ?_;intros;refine qd rfl (fun ht=>?_) (fun ht=>?_)
 ·simp at ht;obtain⟨p,r,rfl⟩:∃p r,rest=p::r:=by
   cases rest with
   |nil=>simp at ht
   |cons p r=>exact⟨p,r,rfl⟩
  have e0:=xi (l:=p::r) (i:=0) (x:=p) rfl;obtain⟨N,hN⟩:∃N,(p::r).length=N:=⟨_,rfl⟩;refine qb ?_;intros;refine qu (qe (k:=1) rfl (qe (k:=5) rfl (qe (k:=6) rfl (qe (k:=7) rfl (qe (k:=8) rfl (qy _)))))) (zK _) ?_;refine qm (fun m E S nk=>∃(one:List qc) (g:Bool),p∈one/\one.Nodup/\(∀x∈one,Conn gap (p::r) p x)/\(g=false->∀x∈one,∀y∈(p::r),xy x y<=gap->y∈one)/\m=2*(N-one.length)+(if g=true then 1 else 0)/\E=[(1,.int gap),(5,qz (p::r)),(6,.one (.own 0 0 out.length 1)),(7,.one (.own 1 0 one.length 2)),(8,.bool g)]/\S=[(0,.data (out.map qL)),(1,.data (one.flatMap qh))]/\nk=2) ⟨2*(N-1)+1,_,_,_,[],?wk1,[p],true,by simp,by simp,fun x hx=>?hx,fun h=>(by cases h),by simp,rfl,rfl,rfl⟩ ?_
  case wk1=>exact ql
  case hx=>simp at hx;subst hx;exact .base (by simp)
  rintro m2 E S nk ⟨one,g,hp,hnd,hconn,hclo,hm2,rfl,rfl,rfl⟩;have honl:=wA hnd fun x hx=>(hconn x hx).mem;refine qb ?_;intros;refine qd rfl (fun hg=>?_) (fun hg=>?_)
  ·subst hg;refine qb ?_;intros;refine qu (qe (k:=1) rfl (qe (k:=5) rfl (qe (k:=6) rfl (qe (k:=7) rfl (qe (k:=8) rfl (qe (k:=9) rfl (qy _))))))) (zK _) ?_;refine qm (fun k E S nk=>∃(i:Nat) (one':List qc) (g:Bool),i+k=N/\p∈one'/\one'.Nodup/\(∀x∈one',Conn gap (p::r) p x)/\one.length<=one'.length/\(g=true->one.length<one'.length)/\(g=false->∀(j:Nat) y,j<i->(p::r)[j]?=some y->∀x∈one',xy x y<=gap->y∈one')/\E=[(1,.int gap),(5,qz (p::r)),(6,.one (.own 0 0 out.length 1)),(7,.one (.own 1 0 one'.length 2)),(8,.bool g),(9,.int i)]/\S=[(0,.data (out.map qL)),(1,.data (one'.flatMap qh))]/\nk=2) ⟨N,_,_,_,[],?wk2,0,one,false,oM,hp,hnd,hconn,Nat.le_refl _,fun h=>(by cases h),fun _ j y h=>oM,rfl,rfl,rfl⟩ ?_
   case wk2=>exact ql
   rintro k E S nk ⟨i,one',g,hik,hp',hnd',hconn',hle,hgt,hg',rfl,rfl,rfl⟩;have honl':=wA hnd' fun x hx=>(hconn' x hx).mem;have hflat:=xc one';have hos:vi one':=fun x hx=>hrs x (hconn' x hx).mem;refine qb ?_;intros;refine qd rfl (fun ht2=>?_) (fun ht2=>?_)
   ·simp at ht2;have hil:i<(p::r).length:=by simp only [List.length_cons];omega
    obtain⟨y,hy⟩:∃y,(p::r)[i]?=some y:=⟨_,zge hil⟩;have hym:y∈(p::r):=zmg hy;have e1:=xi hy;refine qb ?_;intros;refine Y1 (ds:=[qz one',zg y]) rfl ⟨⟨_,rfl,_,_,rfl,qI _ hflat,rfl⟩,⟨_,rfl,⟨rfl,rfl⟩,⟨rfl,rfl⟩,trivial⟩,trivial⟩ (u3 (l:=one') (p:=y) oM) (by rintro _ rfl;rfl) ?_;rintro _ rfl;by_cases hyo:y∈one'
    ·have g1:(!decide (y∈one'))=false:=by simp [hyo]
     refine qU ?_;intros;refine qd rfl (fun h=>by cases h) (fun _=>?_);refine qb ?_;intros;refine⟨k-1,oM,_,_,_,[],?wk3,i+1,one',g,oM,hp',hnd',hconn',hle,hgt,fun hg j z hj hz x hx hf=>?_,rfl,rfl,rfl⟩
     case wk3=>exact ql
     by_cases hji:j=i
     ·subst hji;rw [hy] at hz;obtain rfl:=zsi hz;exact hyo
     ·exact hg' hg j z oM hz x hx hf
    ·have g1:(!decide (y∈one'))=true:=by simp [hyo]
     refine qU ?_;intros;rw [show IntKind.i64.wrap ((i:Int)+1)=((i+1:Nat):Int) by rw [qo (by omega) (by omega)];omega];refine EB (q:=qh y) (n':=1) rfl rfl rfl (by omega) (by simp;omega) (by omega) e1 ?_;refine qb ?_;intros;refine Y1 (ds:=[qz one',qz [y]]) rfl ⟨⟨_,rfl,_,_,rfl,qI _ hflat,rfl⟩,⟨_,rfl,rfl,rfl⟩,trivial⟩ (v6 hos (fun x hx=>by simp at hx;subst hx;exact hrs x hym) (by omega) (by simp)) (by rintro _ rfl;rfl) ?_;rintro _ rfl;by_cases hd:x8 one' [y]<=gap
     ·have g2:decide (x8 one' [y]<=gap)=true:=by simpa using hd
      obtain⟨x,hx,hxy⟩:=(nB (fun e=>by rw [e] at hp';simp at hp') y).1 hd;refine qU ?_;intros;refine qd rfl (fun _=>?_) (fun h=>by cases h);refine qb ?_;intros;refine qY rfl rfl rfl (qI _ hflat) ⟨rfl,rfl,_,rfl,rfl⟩ oM oM (by decide) rfl ?_;refine qb ?_;intros;have hD:one'.flatMap qh++qh y=(one'++[y]).flatMap qh:=by simp
      have hL:one'.length+1=(one'++[y]).length:=by simp
      refine⟨k-1,by omega,_,_,_,[(1,3)],?wk4,i+1,one'++[y],true,by omega,by simp [hp'],?hnd,fun z hz=>?hc,by simp;omega,fun _=>by simp;omega,fun h=>(by cases h),rfl,rfl,rfl⟩
      case wk4=>rw [<-hD,<-hL];exact ql
      case hnd=>exact List.nodup_append.2 ⟨hnd',by simp,fun a ha b hb e=>by simp at hb;subst hb;subst e;exact hyo ha⟩
      case hc=>
       rcases List.mem_append.1 hz with h|h
       ·exact hconn' z h
       ·simp at h;subst h;exact .step (hconn' x hx) hym hxy
     ·have g2:decide (x8 one' [y]<=gap)=false:=by simpa using hd
      refine qU ?_;intros;refine qd rfl (fun h=>by cases h) (fun _=>?_);refine qb ?_;intros;refine⟨k-1,oM,_,_,_,[],?wk5,i+1,one',g,oM,hp',hnd',hconn',hle,hgt,fun hg j z hj hz x hx hf=>?_,rfl,rfl,rfl⟩
      case wk5=>exact ql
      by_cases hji:j=i
      ·subst hji;rw [hy] at hz;obtain rfl:=zsi hz;exact absurd ((nB (fun e=>by rw [e] at hx;simp at hx) y).2 ⟨x,hx,hf⟩) hd
      ·exact hg' hg j z oM hz x hx hf
   ·simp at ht2;refine qb ?_;intros;refine⟨2*(N-one'.length)+(if g=true then 1 else 0),?hlt,_,_,_,[],?wk6,one',g,hp',hnd',hconn',fun hg x hx y hy hf=>?_,rfl,rfl,rfl,rfl⟩
    case wk6=>exact ql
    case hlt=>
     rw [hm2];cases g with
     |true=>have:=hgt rfl;simp;omega
     |false=>simp;omega
    obtain⟨j,hj⟩:=List.getElem?_of_mem hy;have hjl:=(zgs hj).1;simp at hjl;exact hg' hg j y (by simp at hN;omega) hj x hx hf
  ·subst hg;have hclo:=hclo rfl;have hcc:=Vq hp hconn hclo;have hflat:=xc one;refine qb ?_;intros;refine qu (qe (k:=1) rfl (qe (k:=5) rfl (qe (k:=6) rfl (qe (k:=7) rfl (qe (k:=10) rfl (qe (k:=11) rfl (qy _))))))) (zK _) ?_;refine qm (fun k E S nk=>∃(i:Nat) (left:List qc),i+k=N/\left=minus ((p::r).take i) one/\E=[(1,.int gap),(5,qz (p::r)),(6,.one (.own 0 0 out.length 1)),(7,.one (.own 1 0 one.length 2)),(10,.one (.own 2 0 left.length 2)),(11,.int i)]/\S=[(0,.data (out.map qL)),(1,.data (one.flatMap qh)),(2,.data (left.flatMap qh))]/\nk=3) ⟨N,_,_,_,[],?wk7,0,[],by omega,by simp [minus],rfl,rfl,rfl⟩ ?_
   case wk7=>exact ql
   rintro k E S nk ⟨i,left,hik,hleft,rfl,rfl,rfl⟩;have hll:left.length<=i:=by
    rw [hleft];unfold minus;have:=List.length_filter_le (fun x=>!decide (x∈one)) ((p::r).take i);have h2:=List.length_take_le i (p::r);omega
   have hlfl:=xc left;refine qb ?_;intros;refine qd rfl (fun ht2=>?_) (fun ht2=>?_)
   ·simp at ht2;have hil:i<(p::r).length:=by simp only [List.length_cons];omega
    obtain⟨y,hy⟩:∃y,(p::r)[i]?=some y:=⟨_,zge hil⟩;have e1:=xi hy;refine qb ?_;intros;refine Y1 (ds:=[qz one,zg y]) rfl ⟨⟨_,rfl,_,_,rfl,qI _ hflat,rfl⟩,⟨_,rfl,⟨rfl,rfl⟩,⟨rfl,rfl⟩,trivial⟩,trivial⟩ (u3 (l:=one) (p:=y) oM) (by rintro _ rfl;rfl) ?_;rintro _ rfl;refine qb ?_;intros;have hstep:minus ((p::r).take (i+1)) one=if y∈one then left else left++[y]:=by
     rw [List.take_add_one,hy,minus,List.filter_append,hleft,minus];by_cases hyo:y∈one<;>simp [hyo]
    refine qd rfl (fun hb=>?_) (fun hb=>?_)
    ·have hyo:y∉one:=by simpa using hb
     rw [if_neg hyo] at hstep;refine qb ?_;intros;refine qY rfl rfl rfl (qI _ hlfl) ⟨rfl,rfl,_,rfl,rfl⟩ oM oM (by decide) rfl ?_;refine qb ?_;intros;have hD:left.flatMap qh++qh y=(left++[y]).flatMap qh:=by simp
     have hL:left.length+1=(left++[y]).length:=by simp
     refine⟨k-1,oM,_,_,_,[(2,4)],?wk8,i+1,left++[y],oM,hstep.symm,rfl,rfl,rfl⟩
     case wk8=>rw [<-hD,<-hL];exact ql
    ·have hyo:y∈one:=by simpa using hb
     rw [if_pos hyo] at hstep;refine qb ?_;intros;refine⟨k-1,oM,_,_,_,[],?wk9,i+1,left,oM,hstep.symm,rfl,rfl,rfl⟩
     case wk9=>exact ql
   ·simp at ht2;have hlr:left=minus (p::r) one:=by rw [hleft,List.take_of_length_le (by simp at hN ⊢;omega)]
    refine xn 1 rfl qR qR ?_;refine qb ?_;intros;refine qk (ds:=[qz one]) rfl rfl (V2 (l:=one) oM) ?_;rintro _ rfl;refine qb ?_;intros;refine qY rfl rfl rfl (qI _ hol) ⟨rfl,rfl,_,rfl,rfl⟩ oM oM (by decide) rfl ?_;refine XQ 2 rfl qR qR ?_;refine qb ?_;intros;have hD:out.map qL++[qL (qr one)]=(out++[qr one]).map qL:=by simp
    have hL:out.length+1=(out++[qr one]).length:=by simp
    refine⟨left.length,?hlt,_,_,_,[(0,4)],?wka,left,out++[qr one],rfl,?hr,fun x hx=>?hs2,?hle,fun cs hcs=>?hcl,rfl,rfl,rfl⟩
    case wka=>rw [<-hD,<-hL];exact ql
    case hlt=>have:=Yf (r:=r) hp;rw [hlr,hm];simp;omega
    case hr=>rw [hlr];exact hrows.minus _
    case hs2=>rw [hlr,yg] at hx;exact hsub x hx.1
    case hle=>have:=Yf (r:=r) hp;rw [hlr];simp at hout ⊢;omega
    case hcl=>
     rw [List.append_assoc];refine hcls _ (.cons (xg one) (fun x=>qO.trans (hcc x)) ?_);have:minus (p::r) (qr one)=left:=by
      rw [hlr];unfold minus;congr 1;funext x;simp [qO]
     rw [this];exact hcs
 ·simp at ht;subst ht;refine qb ?_;intros;refine qu (qe (k:=4) rfl (qy _)) (zK _) ?_;refine xn 0 rfl qR qR ?_;refine qb ?_;intros;refine qf ⟨_,rfl,rfl,out,rfl,?_⟩;have:=hcls [] .nil;simpa using this
def S3(R:xU)(left:Int):Bx:=[(0,.mt (xB R)),(1,.cells [.om 0]),(2,.cells [.f (.c (.int .i64 left))])]
def S4(R:xU)(left:Int)(A:List FD):Bx:=[(0,.mt (xB R)),(1,.cells [.om 0]),(2,.cells [.f (.c (.int .i64 left))]),(3,.data A)]
def S5(R:xU)(left:Int)(A B:List FD):Bx:=[(0,.mt (xB R)),(1,.cells [.om 0]),(2,.cells [.f (.c (.int .i64 left))]),(3,.data A),(4,.data B)]
theorem sU{ρ:List (Nat × Nat)}{n0:Nat}{S:Bx}{R:xU}{left:Int}(h0:lk S (rn ρ 0)=some (.mt (xB R)))(h1:lk S (rn ρ 1)=some (.cells [.om (rn ρ 0)]))(h2:lk S (rn ρ 2)=some (.cells [.f (.c (.int .i64 left))]))(hn:3<=n0):Vu ρ n0 S (S3 R left):=by
 have hb:∀k,k<3->Nat.blt k n0=true:=fun k hk=>Nat.ble_eq_true_of_le oM;have hb0:=hb 0 oM;refine⟨?_,Zv n0 R,hb 0 oM,h1,?_,hb 1 oM,h2,rfl,hb 2 oM,trivial⟩
 ·rw [h0];simp only [XH,vr]
 ·simp only [Wn,qV,vM,hb0]
theorem gS{ρ:List (Nat × Nat)}{n0:Nat}{S:Bx}{R:xU}{left:Int}{A:List FD}(h0:lk S (rn ρ 0)=some (.mt (xB R)))(h1:lk S (rn ρ 1)=some (.cells [.om (rn ρ 0)]))(h2:lk S (rn ρ 2)=some (.cells [.f (.c (.int .i64 left))]))(h3:lk S (rn ρ 3)=some (.data A))(hn:4<=n0):Vu ρ n0 S (S4 R left A):=by
 have hb:∀k,k<4->Nat.blt k n0=true:=fun k hk=>Nat.ble_eq_true_of_le oM;have hb0:=hb 0 oM;refine⟨?_,Zv n0 R,hb 0 oM,h1,?_,hb 1 oM,h2,rfl,hb 2 oM,h3,rfl,hb 3 oM,trivial⟩
 ·rw [h0];simp only [XH,vr]
 ·simp only [Wn,qV,vM,hb0]
theorem UC{ρ:List (Nat × Nat)}{n0:Nat}{S:Bx}{R:xU}{left:Int}{A B:List FD}(h0:lk S (rn ρ 0)=some (.mt (xB R)))(h1:lk S (rn ρ 1)=some (.cells [.om (rn ρ 0)]))(h2:lk S (rn ρ 2)=some (.cells [.f (.c (.int .i64 left))]))(h3:lk S (rn ρ 3)=some (.data A))(h4:lk S (rn ρ 4)=some (.data B))(hn:5<=n0):Vu ρ n0 S (S5 R left A B):=by
 have hb:∀k,k<5->Nat.blt k n0=true:=fun k hk=>Nat.ble_eq_true_of_le oM;have hb0:=hb 0 oM;refine⟨?_,Zv n0 R,hb 0 oM,h1,?_,hb 1 oM,h2,rfl,hb 2 oM,h3,rfl,hb 3 oM,h4,rfl,hb 4 oM,trivial⟩
 ·rw [h0];simp only [XH,vr]
 ·simp only [Wn,qV,vM,hb0]
theorem GQ{k:Nat}{ok:Nat->Nat->Nat->Prop}(R:xU):CX k ok (xB R):=by
 unfold xB;induction R with
 |nil=>trivial
 |cons e R ih=>exact ih
theorem eQ{d:DC}(hd:wH 0 d=true)(y:Int):∀R:xU,wZ 0 (xB R++[(y,.out d)])=true
 |[]=>by
  show wZ 0 [(y,.out d)]=true
  simp only [wZ,hd]
 |e::R=>eQ hd y R
theorem tA(R:xU)(y:Int)(xs:List Int):xB (R++[(y,xs)])=xB R++[(y,.row (xs.map iF))]:=by simp [xB]
theorem F7{α:Type}(l:List α)(a b:α):(l++[a]).set l.length b=l++[b]:=by
 rw [List.set_append_right _ _ (Nat.le_refl _)];simp
theorem eS(l a b:List qc):minus (minus l a) b=minus l (a++b):=by
 unfold minus;rw [List.filter_filter];congr 1;funext x;by_cases h1:x∈a<;>by_cases h2:x∈b<;>simp [h1,h2]
theorem C5(l:List qc):minus l []=l:=by unfold minus;exact List.filter_eq_self.2 (by simp)
theorem YL{c:List qc}(hs:Xq c)(hn:c.Nodup):qJ c:=by
 rw [qJ,List.pairwise_iff_getElem];intro i j hi hj hij;refine hs.step (zge hi) (zge hj) hij fun e=>?_;have:=(List.getElem?_inj (i:=i) (j:=j) hi hn).1 (by rw [zge hi,zge hj,e]);omega
theorem bV(q y:qc)(g:Int):xy q y<=g↔q.1-g<=y.1/\y.1<=q.1+g/\q.2-g<=y.2/\y.2<=q.2+g:=by
 simp only [xy];omega
theorem fN {Z0:Nat->Prop} {lo:Nat} {R:xU} {L g:Int} {out:List (List qc)} {c P:List qc} {N j:Nat} (hc:0<c.length) (hcn:c.Nodup) (hcl:c.length<1000000) (hol:out.length<1000000) {Q:Exit->qq->Bx->Nat->Prop}
 (hQ:Q .normal [(1,.int g),(7,.one (.ptr 2 0)),(10,.one (.fn 84 [(1,0),(2,0)])),(11,.one (.own 6 0 (out.length+1) 1)),(49,qz P),(50,.int N),(51,.int j)] [(0,.mt (xB R)),(1,.cells [.om 0]),(2,.cells [.f (.c (.int .i64 L))]),(6,.data ((out++[qr c]).map qL))] 7):
 DPS (Par.base Tryz.prog 1 (H00 1) Z0 lo) Vm.n (.seq (.ops DZ 0) (.ops DY 0)) Q [(1,.int g),(7,.one (.ptr 2 0)),(10,.one (.fn 84 [(1,0),(2,0)])),(11,.one (.own 3 0 out.length 1)),(14,.one (.own 4 0 c.length 2)),(49,qz P),(50,.int N),(51,.int j)] (S5 R L (out.map qL) (c.flatMap qh)) 5:=by
 refine qb ?_;intros;refine vC rfl rfl rfl (rQ (k:=4) (l:=c) rfl hc oM _ _ _ _ _) ?_;rintro _ _ _ ⟨rfl,rfl,c',hperm,hsort,rfl⟩;have hfl:(c'.flatMap qh).length=c.length*2:=by rw [xc,hperm.length_eq]
 have hcl':c'.length=c.length:=hperm.length_eq;have hc':c'=qr c:=qJ.ext (YL hsort (hperm.nodup_iff.2 hcn)) (xg c) (fun p=>by rw [hperm.mem_iff,qO]);rw [<-hc'] at hQ;have hok:=GQ (k:=4) (ok:=eL (c'.flatMap qh)) R;have hol':(out.map qL).length=out.length*1:=by simp
 refine yA ?_;refine xn 4 rfl qR qR ?_;refine JC [] (n0:=5) (E0:=[(1,.int g),(7,.one (.ptr 2 0)),(10,.one (.fn 84 [(1,0),(2,0)])),(11,.one (.own 3 0 out.length 1)),(14,.one (.f (.sl 2 c.length (c'.flatMap qh)))),(49,qz P),(50,.int N),(51,.int j)]) (S0:=S4 R L (out.map qL)) ⟨ze,gS (congrArg (fun z=>some (Bk.mt z)) (vr _ R)) rfl rfl rfl oM,rfl,rfl⟩ ?_;refine qb ?_;intros;refine qY (q:=[.sl 2 c.length (c'.flatMap qh)]) rfl rfl rfl (qI _ hol') ⟨rfl,rfl,_,rfl,rfl⟩ oM oM (by decide) rfl ?_;have hD:out.map qL++[.sl 2 c.length (c'.flatMap qh)]=(out++[c']).map qL:=by simp [qL,hcl']
 refine zJ rfl ?_;rw [hD];refine yB (qe (k:=1) rfl (qe (k:=7) rfl (qe (k:=10) rfl (qe (k:=11) rfl (qe (k:=49) rfl (qe (k:=50) rfl (qe (k:=51) rfl (qy _)))))))) (qe (k:=0) rfl (qe (k:=1) rfl (qe (k:=2) rfl (qe (k:=6) rfl (qy _))))) ?_;exact yA hQ
theorem IY {Z0:Nat->Prop} {lo:Nat} {gap:Int} {P:List qc} (hP:qJ P) (hl:P.length<900000) {Q:Exit->qq->Bx->Nat->Prop}
 (hQ:∀R,vK R P->Q (.exit 0) [(1,.int gap),(4,.one (.f (.c .nils))),(5,qz P),(6,.one (.ptr 1 0)),(7,.one (.ptr 2 0))] (S3 R P.length) 3):
 DPS (Par.base Tryz.prog 1 (H00 1) Z0 lo) Vm.n (.loop gC) Q [(1,.int gap),(4,.one (.f (.c .nils))),(5,qz P),(6,.one (.ptr 1 0)),(7,.one (.ptr 2 0)),(27,qz P),(28,.int P.length),(29,.int 0)] (S3 [] P.length) 3:=by
 refine qm (fun m E S nk=>∃(i:Nat) (R:xU),i+m=P.length/\vK R (P.take i)/\E=[(1,.int gap),(4,.one (.f (.c .nils))),(5,qz P),(6,.one (.ptr 1 0)),(7,.one (.ptr 2 0)),(27,qz P),(28,.int P.length),(29,.int i)]/\S=S3 R P.length/\nk=3) ⟨P.length,_,_,_,[],?wk,0,[],by omega,⟨RowsS.nil,fun p=>by simp [oC]⟩,rfl,rfl,rfl⟩ ?_
 case wk=>exact⟨ze,sU rfl rfl rfl oM,rfl,rfl⟩
 rintro m E S nk ⟨i,R,him,hR,rfl,rfl,rfl⟩;refine qb ?_;intros;refine qd rfl (fun ht=>?_) (fun ht=>?_)
 ·simp at ht;obtain⟨⟨px,py⟩,hp⟩:∃p,P[i]?=some p:=⟨_,zge oM⟩;have e1:=xi hp;have htk:P.take (i+1)=P.take i++[(px,py)]:=by rw [List.take_add_one,hp];rfl
  have hPl:∀e∈R,e.2.length<=i:=fun e he=>by
   have h1:=hR.1.str e he;have h2:(e.2.map fun x=>(x,e.1)).Nodup:=by
    rw [List.Nodup,List.pairwise_map];exact List.Pairwise.imp (fun {a b} hab h=>by injection h;omega) h1
   have h3:=wA h2 (b:=P.take i) fun x hx=>by
    obtain⟨z,hz,rfl⟩:=List.mem_map.1 hx;exact (hR.2 _).1 ⟨e,he,rfl,hz⟩
   have h4:=List.length_take_le i P;simp at h3;omega
  refine qb ?_;intros;by_cases hy:∃(i0:Nat) (xs:List Int),R[i0]?=some (py,xs)
  ·obtain⟨i0,xs,hi0⟩:=hy;obtain⟨M,hM⟩:∃M,(xs.map iF).length=M:=⟨_,rfl⟩;have hM':xs.length=M:=by rw [<-hM];simp
   have hMi:=hPl _ (zmg hi0);simp only at hMi;have hlt:∀z∈xs,z<px:=fun z hz=>by
    have:(z,py)∈P.take i:=(hR.2 _).1 ⟨_,zmg hi0,rfl,hz⟩;obtain⟨k,hk⟩:=List.getElem?_of_mem this;rw [List.getElem?_take] at hk;split at hk
    ·rename_i hki;obtain⟨a1,a2⟩:=zgs hk;obtain⟨b1,b2⟩:=zgs hp;have:=List.pairwise_iff_getElem.1 hP k i a1 b1 hki;rw [a2,b2,jH] at this;simp at this;exact this
    ·cases hk
   have hset:=hR.set hi0 hlt oM;rw [<-htk] at hset;have hes:∀d:DC,((xB R).set i0 (py,.out d))[i0]?=some (py,.out d):=fun d=>by
    have:i0<(xB R).length:=by have:=(zgs hi0).1;simpa [xB] using this
    rw [List.getElem?_set_self this]
   have hfs:∀(d:DC) (j:Nat) (e':Int × ME),j<i0->((xB R).set i0 (py,.out d))[j]?=some e'->e'.1≠py:=fun d j e' hj he=>by
    rcases Zw he with⟨h,_⟩|⟨_,h⟩
    ·omega
    ·exact JB hR.1.nd hi0 j e' hj h
   refine mZ (y:=py) (q:=xs.map iF) rfl rfl rfl (VC hi0) (JB hR.1.nd hi0) rfl (WH R) rfl rfl ?_;rw [hM];refine qb ?_;intros;refine qY (l':=xs.map iF) (q:=[iF px]) rfl rfl rfl (qI _ oM) ⟨rfl,rfl,_,rfl,rfl⟩ oM oM (by decide) rfl ?_;refine rR (y:=py) rfl rfl rfl rfl (hes _) (hfs _) rfl ?_;rw [List.set_set];have hq:(xs.map iF++[iF px]).length=M+1:=by simp;omega
   refine EG 0 6 i0 rfl rfl (by rw [hq];exact hes _) rfl (Js rfl py R i0) rfl rfl ?_;rw [List.set_set];have hm1:xB (R.set i0 (py,xs++[px]))=(xB R).set i0 (py,.row (xs.map iF++[iF px])):=by rw [Wv];simp
   refine qb ?_;intros;refine⟨m-1,oM,_,_,_,[],?wk1,i+1,R.set i0 (py,xs++[px]),oM,hset,rfl,rfl,rfl⟩
   case wk1=>exact⟨ze,sU (congrArg (fun z=>some (Bk.mt z)) hm1.symm) rfl rfl oM,rfl,rfl⟩
  ·have hn:∀e∈R,e.1≠py:=fun e he h=>hy (by
    obtain⟨k,hk⟩:=List.getElem?_of_mem he;exact⟨k,e.2,by rw [hk,<-h]⟩)
   have hn':∀e∈xB R,e.1≠py:=fun e he=>by
    simp only [xB,List.mem_map] at he;obtain⟨e',he',rfl⟩:=he;exact hn e' he'
   have hpush:=hR.push (x:=px) hn;rw [<-htk] at hpush;refine fI rfl rfl rfl hn' rfl ?_;refine qb ?_;intros;refine RZ 39 1 rfl ?_;refine qY (l':=[]) (q:=[iF px]) rfl rfl rfl rfl ⟨rfl,rfl,_,rfl,rfl⟩ oM oM (by decide) rfl ?_;refine IC (y:=py) rfl rfl rfl rfl hn' rfl ?_;refine EG (y:=py) (q:=[]++[iF px]) 0 6 (xB R).length rfl rfl (by simp) rfl (eQ rfl py R) rfl rfl ?_;rw [F7];refine qb ?_;intros;refine⟨m-1,oM,_,_,_,[],?wk2,i+1,R++[(py,[px])],oM,hpush,rfl,rfl,rfl⟩
   case wk2=>exact⟨ze,sU (congrArg (fun z=>some (Bk.mt z)) (tA R py [px]).symm) rfl rfl oM,rfl,rfl⟩
 ·simp at ht;rw [List.take_of_length_le (by omega)] at hR;refine qu (qe (k:=1) rfl (qe (k:=4) rfl (qe (k:=5) rfl (qe (k:=6) rfl (qe (k:=7) rfl (qy _)))))) (qe (k:=0) rfl (qe (k:=1) rfl (qe (k:=2) rfl (qy _)))) ?_;exact y6 (hQ R hR)
theorem qay(neg:Bool)(p q:Pt):qv .lf (.eqs neg [(0,false),(1,false)] (.c (.agg (xW p))) (.c (.agg (xW q))))=some (.bool (if neg then !decide (p=q) else decide (p=q))):=by
 obtain⟨p1,p2⟩:=p;obtain⟨q1,q2⟩:=q;simp only [qv,Opd.ev,xW,JQ,n8,List.getElem?_cons_zero,List.getElem?_cons_succ,if_true];by_cases h1:p1=q1
 ·by_cases h2:p2=q2
  ·subst h1;subst h2;simp
  ·subst h1;have e2:(p2==q2)=false:=by simpa using h2
   simp [h2,e2]
 ·have e1:(p1==q1)=false:=by simpa using h1
  simp [h1,e1]
theorem s8{H:Hp}{l r:List Pt}{v u:V}(hl:v7 H l v)(hr:v7 H r u)(hn:l.length<1000000000000):qH Tryz.prog 1 54 [v,u] H fun x _=>x=.bool (decide (l=r)):=by
 refine kX qbI (by simp [MN]) fun hwf=>?_;have hlen:=hl.len;have hlen':=hr.len;refine zk ?_;refine kD rfl rfl (fun ht=>?_) (fun ht=>?_)
 ·refine zk ?_;refine yN ⟨_,rfl,?_⟩;simp at ht;congr 2
  symm
  simp;intro h;exact ht (by rw [h])
 ·refine zk ?_;simp at ht;refine Kz (fun m E H'=>v7 H' l v/\v7 H' r u/\∃k:Nat,k+m=l.length/\E=[(0,v),(1,u),(5,.int k)]/\l.take k=r.take k) (m:=l.length) ⟨_,(xQ.cons (k:=0) rfl (xQ.cons (k:=1) rfl (xQ.cons (k:=5) rfl (xQ.nil _)))),hl,hr,0,oM,rfl,rfl⟩ ?_;rintro m E H' hwf' ⟨hl',hr',k,hk,rfl,hno⟩;refine zk ?_;refine kD rfl rfl (fun ht=>?_) (fun ht=>?_)
  ·simp at ht;obtain⟨p,hp⟩:∃p,l[k]?=some p:=⟨_,zge oM⟩;obtain⟨q,hq⟩:∃p,r[k]?=some p:=⟨_,zge oM⟩;obtain⟨b,o,e1,e2⟩:=hl'.at hp .i64;obtain⟨b',o',e1',e2'⟩:=hr'.at hq .i64;refine zk ?_;refine YR j3 ?_;refine zk ?_;refine kV rfl (qay true p q) ?_;refine zk ?_;refine kD rfl rfl (fun ht2=>?_) (fun ht2=>?_)
   ·refine zk ?_;refine yN ⟨_,rfl,?_⟩;simp at ht2;congr 2
    symm
    simp;intro h;subst h;rw [hp] at hq;exact ht2 (zsi hq)
   ·refine zk ?_;simp at ht2;subst ht2;refine⟨m-1,oM,_,(xQ.cons (k:=0) rfl (xQ.cons (k:=1) rfl (xQ.cons (k:=5) rfl (xQ.nil _)))),hl'.le (fun _ _ _ h=>h),hr'.le (fun _ _ _ h=>h),k+1,oM,?_,?_⟩
    ·rw [xp (by omega) (by omega)];rfl
    ·rw [List.take_add_one,List.take_add_one,hp,hq,hno]
  ·simp at ht;obtain rfl:k=l.length:=by omega
   rw [List.take_length,List.take_of_length_le (by omega)] at hno;refine KA ?_;refine zk ?_;exact yN ⟨_,rfl,by simp [hno]⟩
theorem s9{H:Hp}{l r:List Pt}{v u:V}(hl:v7 H l v)(hr:v7 H r u)(hn:l.length<1000000000000):qH Tryz.prog 1 54 [v,u] H fun x H'=>x=.bool (decide (l=r))/\H'=H:=
 (qH.pure (s8 (hl.le (Le.ro H)) (hr.le (Le.ro H)) hn) (fun v _ h=>by rw [h];rfl)).mono fun v H' ⟨⟨_,h⟩,e⟩=>⟨h,e⟩
theorem pU(l:List qc):l.flatMap qh=(zn l).map .c:=by
 induction l with
 |nil=>rfl
 |cons p l ih=>rw [List.flatMap_cons,ih];rfl
theorem oH(l:List qc):∀c∈zn l,c.closed=true:=by
 intro c hc;obtain⟨p,_,hp⟩:=List.mem_flatMap.1 hc;simp only [xW,List.mem_cons,List.not_mem_nil,or_false] at hp;rcases hp with rfl|rfl<;>rfl
theorem eH{Z:Nat->Prop}{H':Hp}{lo hi:Nat}{l:List qc}{v:V}(h:j6 H' lo hi l v)(hz:∀b,lo<=b->b<hi->Z b):xC Z H' wG (qz l) v:=by
 obtain⟨⟨h1,h2⟩,h3⟩:=h;rcases h2 with⟨rfl,h0⟩|⟨b,ex,rfl,hlo,hr⟩
 ·obtain rfl:l=[]:=List.eq_nil_of_length_eq_zero h0;exact⟨_,rfl,.nil 2⟩
 ·have hb:=h3 b rfl;refine⟨_,rfl,.sl (fun _=>hz b hb.1 hb.2) (by rw [xc]) (Nat.le_refl _) (by rw [<-h1];exact hr.2) fun i d c hd hc=>?_⟩;rw [pU,List.getElem?_map,hc] at hd;obtain rfl:=zsi hd;exact .c c (oH l c (zmg hc))
theorem eI{Z:Nat->Prop}{H:Hp}{l:List qc}{v:V}(h:xC Z H wG (qz l) v):v7 H l v:=by
 obtain⟨c,rfl,h⟩:=h;refine⟨Go.Ab.ptsC_len l,?_⟩;generalize hn:l.length=n at h;generalize hq:l.flatMap qh=q at h;cases h with
 |nil=>exact .inl ⟨rfl,rfl⟩
 |sl hz hl hcap hld hel=>
  rename_i b o cap ex cs;refine .inr ⟨b,o,cap,ex,rfl,?_⟩;rw [hld];congr 1;refine List.ext_getElem? fun i=>?_;have hlen:cs.length=(zn l).length:=by rw [yV hld,Go.Ab.ptsC_len,hn]
  by_cases hi:i<cs.length
  ·have e1:q[i]?=some (.c (zn l)[i]):=by rw [<-hq,pU,List.getElem?_map,zge (by omega)];rfl
   have:=hel i _ _ e1 (zge hi);rw [zge hi,zge (by omega)];generalize (zn l)[i]=z at *;cases this;rfl
  ·rw [List.getElem?_eq_none (by omega),List.getElem?_eq_none (by omega)]
theorem EO{l r:List qc}(hn:l.length<1000000000000):DK 54 [qz l,qz r] fun d=>d=.bool (decide (l=r)):=fun H Z args hw hz hg ha=>by
 match args,ha with
 |[v,u],⟨h1,h2,_⟩=>
  refine (s9 (eI h1) (eI h2) hn).mono ?_;rintro x H' ⟨rfl,rfl⟩;exact⟨hw,Nat.le_refl _,fun _ _=>rfl,_,wq rfl,rfl⟩
theorem d6{a b:Int}(hb:0<b):(if a.tmod b<0 then a.tdiv b-1 else a.tdiv b)=a/b:=by
 have h1:=Int.tmod_add_mul_tdiv a b;have h2:=ON a hb;have h3:=Int.emod_add_mul_ediv a b;have h4:=Int.emod_nonneg a (by omega:b≠0);have h5:=Int.emod_lt_of_pos a hb;split
 ·rename_i h;have key:b*(a.tdiv b-1-a/b)=a % b-a.tmod b-b:=by
   rw [Int.mul_sub,Int.mul_sub];omega
  have:a.tdiv b-1-a/b=0:=by
   by_cases hc:a.tdiv b-1-a/b=0
   ·exact hc
   ·exfalso;rcases Int.lt_or_gt_of_ne hc with hlt|hgt
    ·have:b*(a.tdiv b-1-a/b)<=b*(-1):=Int.mul_le_mul_of_nonneg_left oM oM;omega
    ·have:b*1<=b*(a.tdiv b-1-a/b):=Int.mul_le_mul_of_nonneg_left oM oM;omega
  omega
 ·rename_i h;have key:b*(a.tdiv b-a/b)=a % b-a.tmod b:=by
   rw [Int.mul_sub];omega
  have:a.tdiv b-a/b=0:=by
   by_cases hc:a.tdiv b-a/b=0
   ·exact hc
   ·exfalso;rcases Int.lt_or_gt_of_ne hc with hlt|hgt
    ·have:b*(a.tdiv b-a/b)<=b*(-1):=Int.mul_le_mul_of_nonneg_left oM oM;omega
    ·have:b*1<=b*(a.tdiv b-a/b):=Int.mul_le_mul_of_nonneg_left oM oM;omega
  omega
theorem pF{a b:Int}(h1: -1000000000000000000<a)(h2:a<1000000000000000000): -1000000000000000000<a.tdiv b/\a.tdiv b<1000000000000000000:=by
 have h:(a.tdiv b).natAbs=a.natAbs/b.natAbs:=Int.natAbs_tdiv a b;have h3:a.natAbs/b.natAbs<=a.natAbs:=Nat.div_le_self _ _;rw [<-h] at h3;omega
theorem eG{H:Hp}{a b:Int}(hb:0<b)(h1: -1000000000000000000<a)(h2:a<1000000000000000000):qH Tryz.prog 1 138 [.int a,.int b] H fun v H'=>v=.int (a/b)/\H'=H:=by
 have hd:=pF (b:=b) h1 h2;have hf:=d6 (a:=a) hb;refine kX NE (by simp [uK]) fun hwf=>?_;refine zk ?_;refine CG rfl rfl rfl oM ?_;rw [xp (n:=a.tdiv b) (by omega) (by omega)];refine zk ?_;refine CF rfl rfl rfl oM ?_;refine zk ?_;refine kD rfl rfl (fun ht=>?_) (fun ht=>?_)
 ·refine zk ?_;simp at ht;rw [if_pos ht] at hf;refine yN ⟨_,rfl,?_,rfl⟩;rw [xp (by omega) (by omega),hf]
 ·refine zk ?_;simp at ht;rw [if_neg (by omega)] at hf;exact yN ⟨_,rfl,by rw [hf],rfl⟩
def ZS(a b k n:Int):Int:=(2*(a*n+k*(b-a))+n)/(2*n)
theorem QK{a b A B:Int}(h1: -A<=a)(h2:a<=A)(h3: -B<=b)(h4:b<=B): -(A*B)<=a*b/\a*b<=A*B:=by
 have hA:0<=A:=by omega
 have hB:0<=B:=by omega
 have:(a*b).natAbs<=(A*B).natAbs:=by
  rw [Int.natAbs_mul,Int.natAbs_mul];exact Nat.mul_le_mul oM oM
 have hp:0<=A*B:=Int.mul_nonneg hA hB;omega
theorem cP{H:Hp}{a b k n:Int}(ha: -1000000<=a)(ha':a<=1000000)(hb: -1000000<=b)(hb':b<=1000000)(hk:0<=k)(hk':k<=1000000)(hn:0<n)(hn':n<=1000000):qH Tryz.prog 1 137 [.int a,.int b,.int k,.int n] H fun v H'=>v=.int (ZS a b k n)/\H'=H:=by
 have m1:=QK (a:=a) (b:=n) (A:=1000000) (B:=1000000) oM oM oM oM;have m2:=QK (a:=k) (b:=b-a) (A:=1000000) (B:=2000000) oM oM oM oM;have hd:=pF (a:=2*(a*n+k*(b-a))+n) (b:=2*n) oM oM;have hf:=d6 (a:=2*(a*n+k*(b-a))+n) (b:=2*n) oM;refine kX NF (by simp [uL]) fun hwf=>?_;refine zk ?_;rw [xp (n:=a*n) (by omega) (by omega),xp (n:=b-a) (by omega) (by omega),xp (n:=k*(b-a)) (by omega) (by omega),xp (n:=a*n+k*(b-a)) (by omega) (by omega),xp (n:=2*(a*n+k*(b-a))) (by omega) (by omega),xp (n:=2*(a*n+k*(b-a))+n) (by omega) (by omega),xp (n:=2*n) (by omega) (by omega)];have hbt:ZS a b k n=(2*(a*n+k*(b-a))+n)/(2*n):=rfl;rw [hbt];clear hbt;generalize 2*(a*n+k*(b-a))+n=N at *;refine CG rfl rfl rfl oM ?_;rw [xp (n:=N.tdiv (2*n)) (by omega) (by omega)];refine zk ?_;rw [xp (n:=2*n) (by omega) (by omega)];refine CF rfl rfl rfl oM ?_;refine zk ?_;refine kD rfl rfl (fun ht=>?_) (fun ht=>?_)
 ·refine zk ?_;simp at ht;rw [if_pos ht] at hf;refine yN ⟨_,rfl,?_,rfl⟩;rw [xp (by omega) (by omega),hf]
 ·refine zk ?_;simp at ht;rw [if_neg (by omega)] at hf;exact yN ⟨_,rfl,by rw [hf],rfl⟩
def QJ(l:List Pt):Bool:=l.all fun p=>decide (-1000<=p.1)&&decide (p.1<=1000)&&decide (-1000<=p.2)&&decide (p.2<=1000)
theorem O8{H:Hp}{l:List Pt}{v:V}(hl:v7 H l v)(hn:l.length<1000000000000):qH Tryz.prog 1 91 [v] H fun v _=>v=.bool (QJ l):=by
 refine kX qbc (by simp [MH]) fun hwf=>?_;have hlen:=hl.len;refine zk ?_;refine Kz (fun m E H'=>v7 H' l v/\∃k:Nat,k+m=l.length/\E=[(5,v),(6,.int l.length),(7,.int k)]/\QJ (l.take k)=true) (m:=l.length) ⟨_,(xQ.cons (k:=5) rfl (xQ.cons (k:=6) rfl (xQ.cons (k:=7) rfl (xQ.nil _)))),hl,0,oM,rfl,rfl⟩ ?_;rintro m E H' hwf' ⟨hl',k,hk,rfl,hno⟩;refine zk ?_;refine kD rfl rfl (fun ht=>?_) (fun ht=>?_)
 ·simp at ht;obtain⟨p,hp⟩:∃p,l[k]?=some p:=⟨_,zge oM⟩;obtain⟨b,o,e1,e2⟩:=hl'.at hp .i64;obtain⟨H3,s1,hw3,hx3,hb3,hn3⟩:=O7 hwf' [.int .i64 0,.int .i64 0] (xW p) rfl;refine zk ?_;have c0:=hb3.cell (i:=0) rfl;have c1:=hb3.cell (i:=1) rfl;refine Xd rfl rfl (UX rfl rfl rfl rfl s1 trivial ?_);refine zk ?_;have hpk:QJ (l.take (k+1))=(QJ (l.take k)&&QJ [p]):=by
   rw [List.take_add_one,hp];simp [QJ]
  refine kD rfl rfl (fun ht2=>?_) (fun ht2=>?_)
  ·refine zk ?_;refine yN ⟨_,rfl,?_⟩;congr 2
   symm
   simp at ht2;simp only [QJ,List.all_eq_false];refine⟨p,zmg hp,?_⟩;simp;omega
  ·refine zk ?_;simp at ht2;refine⟨m-1,oM,_,(xQ.cons (k:=5) rfl (xQ.cons (k:=6) rfl (xQ.cons (k:=7) rfl (xQ.nil _)))),hl'.ext hx3,k+1,oM,?_,?_⟩
   ·rw [xp (by omega) (by omega)];rfl
   ·rw [hpk,hno];simp [QJ];omega
 ·simp at ht;obtain rfl:k=l.length:=by omega
  rw [List.take_length] at hno;refine KA ?_;refine zk ?_;exact yN ⟨_,rfl,by rw [hno]⟩
theorem O9{H:Hp}{l:List Pt}{v:V}(hl:v7 H l v)(hn:l.length<1000000000000):qH Tryz.prog 1 91 [v] H fun v H'=>v=.bool (QJ l)/\H'=H:=
 (qH.pure (O8 (hl.le (Le.ro H)) hn) (fun v _ h=>by rw [h];rfl)).mono fun v H' ⟨⟨_,h⟩,e⟩=>⟨h,e⟩
def wh(p q:Pt)(n:Int)(k:Nat):Pt:=(ZS p.1 q.1 k n,ZS p.2 q.2 k n)
def xR(p q:Pt):List Pt:=if xy p q=0 then [p] else (List.range ((xy p q).toNat+1)).map (wh p q (xy p q))
theorem DP{B:Int}{p q:Pt}(hp:qE B p)(hq:qE B q):0<=xy p q/\xy p q<=2*B:=by
 obtain⟨p1,p2,p3,p4⟩:=hp;obtain⟨q1,q2,q3,q4⟩:=hq;simp only [xy];omega
theorem GD{H:Hp}{p q:Pt}(hp:qE 1000 p)(hq:qE 1000 q):qH Tryz.prog 1 122 [Go.Ab.ptV p,Go.Ab.ptV q] H fun v H'=>j6 H' H.nx H'.nx (xR p q) v:=by
 have hfb:=DP hp hq;have hp':qE 1000000000000000000 p:=by obtain⟨p1,p2,p3,p4⟩:=hp;exact⟨oM,oM,oM,oM⟩
 have hq':qE 1000000000000000000 q:=by obtain⟨p1,p2,p3,p4⟩:=hq;exact⟨oM,oM,oM,oM⟩
 refine kX NK (by simp [uM]) fun hwf=>?_;obtain⟨hw1,hx1,hb1⟩:=wI hwf (xW p) rfl;obtain⟨hw2,hx2,hb2⟩:=wI hw1 (xW q) rfl;refine vY (Xf j3 (Xd rfl rfl (Xd rfl rfl (YP (XI ?_)))));replace hb1:=hb1.ext hx2;have hn2:((H.push (.row (xW p).length (xW p) .lf true)).push (.row (xW q).length (xW q) .lf true)).nx=H.nx+2:=rfl;generalize ((H.push _).push _)=H2 at *;have l1:=hb1.2;have l2:=hb2.2;refine vY (Xf j3 ?_);refine Ky rfl rfl l1 (Ky rfl rfl l2 (kW rfl rfl (pL hp' hq') (by repeat (first|exact trivial|refine⟨by assumption,?_⟩)) ?_));obtain⟨hw3,hx3,hb3⟩:=wI (n:=0) hw2 [] rfl;refine Xd (bk:=.row 0 [] .lf true) (g:=fun b=>.one (.slc b 0 0 0 2 true)) rfl rfl ?_;refine YO rfl (YO rfl (XI ?_));replace hb1:=hb1.ext hx3;replace hb2:=hb2.ext hx3;have hP:j6 (H2.push (.row 0 [] .lf true)) (H.nx+2) (H.nx+3) [] (.one (.slc H2.nx 0 0 0 2 true)):=j6.none (by rw [Hp.get_push,if_pos rfl]) (by omega) (by omega);have hn3:(H2.push (.row 0 [] .lf true)).nx=H.nx+3:=by simp [hn2]
 refine CP (xQ.cons (k:=2) rfl (xQ.cons (k:=3) rfl (xQ.cons (k:=5) rfl (xQ.cons (k:=6) rfl (xQ.nil _))))) ?_;generalize (H2.push _)=H3 at *;replace l1:=hb1.2;generalize hn:xy p q=n at *;refine zk ?_;refine kD rfl rfl (fun ht=>?_) (fun ht=>?_)
 ·simp at ht;refine zk ?_;refine tG rfl rfl rfl ?_;refine YO rfl (XI (yN ⟨_,rfl,?_⟩));rw [xR,if_pos (by omega)];refine⟨⟨rfl,.inr ⟨H3.nx,true,rfl,by omega,?_⟩⟩,fun b hb=>by obtain rfl:=zsi hb;simp;omega⟩;exact x6.new (xW p)
 ·simp at ht;refine zk ?_;refine Kz (fun m E H'=>∃k:Nat,k+m=n.toNat+1/\∃v,E=[(2,.one (.ptr H.nx 0)),(3,.one (.ptr (H.nx+1) 0)),(5,.int n),(6,v),(7,.int k)]/\H.nx+2<=H'.nx/\x6 H' H.nx (xW p)/\x6 H' (H.nx+1) (xW q)/\j6 H' (H.nx+2) H'.nx ((List.range k).map (wh p q n)) v) (m:=n.toNat+1) ⟨_,(xQ.cons (k:=2) rfl (xQ.cons (k:=3) rfl (xQ.cons (k:=5) rfl (xQ.cons (k:=6) rfl (xQ.cons (k:=7) rfl (xQ.nil _)))))),0,oM,_,rfl,oM,hb1,hb2,hP.mono oM oM⟩ ?_;rintro m E H' hwf' ⟨k,hk,v,rfl,hnx,g1,g2,hP'⟩;have c0:=g1.cell (i:=0) rfl;have c1:=g1.cell (i:=1) rfl;have d0:=g2.cell (i:=0) rfl;have d1:=g2.cell (i:=1) rfl;obtain⟨p1,p2,p3,p4⟩:=hp;obtain⟨q1,q2,q3,q4⟩:=hq;refine zk ?_;refine kD rfl rfl (fun ht2=>?_) (fun ht2=>?_)
  ·simp at ht2;refine zk ?_;have m1:=QK (a:=p.1) (b:=n) (A:=1000) (B:=2000) oM oM oM oM;have m2:=QK (a:=(k:Int)) (b:=q.1-p.1) (A:=2000) (B:=2000) oM oM oM oM;have m3:=QK (a:=p.2) (b:=n) (A:=1000) (B:=2000) oM oM oM oM;have m4:=QK (a:=(k:Int)) (b:=q.2-p.2) (A:=2000) (B:=2000) oM oM oM oM;rw [xp (n:=p.1*n) (by omega) (by omega),xp (n:=q.1-p.1) (by omega) (by omega),xp (n:=k*(q.1-p.1)) (by omega) (by omega),xp (n:=p.1*n+k*(q.1-p.1)) (by omega) (by omega),xp (n:=2*(p.1*n+k*(q.1-p.1))) (by omega) (by omega),xp (n:=2*(p.1*n+k*(q.1-p.1))+n) (by omega) (by omega),xp (n:=2*n) (by omega) (by omega)];refine kW rfl rfl (eG oM oM oM) (by repeat (first|exact trivial|refine⟨by assumption,?_⟩)) ?_;refine zk ?_;rw [xp (n:=p.2*n) (by omega) (by omega),xp (n:=q.2-p.2) (by omega) (by omega),xp (n:=k*(q.2-p.2)) (by omega) (by omega),xp (n:=p.2*n+k*(q.2-p.2)) (by omega) (by omega),xp (n:=2*(p.2*n+k*(q.2-p.2))) (by omega) (by omega),xp (n:=2*(p.2*n+k*(q.2-p.2))+n) (by omega) (by omega),xp (n:=2*n) (by omega) (by omega)];refine kW rfl rfl (eG oM oM oM) (by repeat (first|exact trivial|refine⟨by assumption,?_⟩)) ?_;refine zk ?_;obtain⟨v',H5,a1,a2,a3,a4,a5,a6⟩:=hP'.append1 (H1:=H'.push (.row 2 (xW (wh p q n k)) .lf true)) (bb:=H'.nx) (p:=wh p q n k) (Nat.le_refl _) (hwf'.push _) (fun b hb=>by rw [Hp.get_push,if_neg (by omega)]) (by simp) (by rw [Hp.get_push,if_pos rfl]) hnx (by simp;omega);refine tG (cs:=xW (wh p q n k)) rfl rfl rfl ?_;refine CN rfl rfl rfl a1 a2 trivial ?_;refine zk ?_;have hne:∀b,b<H.nx+2->WC v≠some b:=fun b hb e=>by have:=hP'.2 b e;omega
   refine⟨m-1,oM,_,(xQ.cons (k:=2) rfl (xQ.cons (k:=3) rfl (xQ.cons (k:=5) rfl (xQ.cons (k:=6) rfl (xQ.cons (k:=7) rfl (xQ.nil _)))))),k+1,oM,v',?_,oM,g1.same (a4 _ oM (hne _ oM)),g2.same (a4 _ oM (hne _ oM)),?_⟩
   ·rw [xp (by omega) (by omega)];rfl
   ·rw [List.range_succ,List.map_append];exact a3
  ·simp at ht2;obtain⟨c,rfl⟩:=hP'.one;refine KA ?_;refine zk ?_;refine yN ⟨_,rfl,?_⟩;rw [xR,hn,if_neg ht,show n.toNat+1=k by omega];exact hP'.mono oM (Nat.le_refl _)
theorem GE{H:Hp}{p q:Pt}(hp:qE 1000 p)(hq:qE 1000 q):qH Tryz.prog 1 122 [Go.Ab.ptV p,Go.Ab.ptV q] H fun v H'=>j6 H' H.nx H'.nx (xR p q) v/\Ext H H':=
 (qH.grow (GD hp hq)).mono fun v H' ⟨H1,hg,e1,e2,e3,e4,_⟩=>by
  subst e1;exact⟨hg.same fun b hb=>e4 b (hg.2 b hb).1,e3,e2⟩
theorem PG{H:Hp}{p q:Pt}(hp:qE 1000 p)(hq:qE 1000 q):qH Tryz.prog 1 120 [Go.Ab.ptV p,Go.Ab.ptV q] H fun v H'=>j6 H' H.nx H'.nx (xR p q) v:=by
 have hfb:=DP hp hq;have hp':qE 1000000000000000000 p:=by obtain⟨p1,p2,p3,p4⟩:=hp;exact⟨oM,oM,oM,oM⟩
 have hq':qE 1000000000000000000 q:=by obtain⟨p1,p2,p3,p4⟩:=hq;exact⟨oM,oM,oM,oM⟩
 refine kX NM (by simp [uN]) fun hwf=>?_;obtain⟨hw1,hx1,hb1⟩:=wI hwf (xW p) rfl;obtain⟨hw2,hx2,hb2⟩:=wI hw1 (xW q) rfl;refine vY (Xf j3 (Xd rfl rfl (Xd rfl rfl (YP (XI ?_)))));replace hb1:=hb1.ext hx2;have hn2:((H.push (.row (xW p).length (xW p) .lf true)).push (.row (xW q).length (xW q) .lf true)).nx=H.nx+2:=rfl;generalize ((H.push _).push _)=H2 at *;have l1:=hb1.2;have l2:=hb2.2;refine vY (vY (Xf j3 ?_));refine Ky rfl rfl l1 (Ky rfl rfl l2 ?_);obtain⟨hw3,hx3,hb3⟩:=wI (n:=4) hw2 (xW p++xW q) rfl;refine Xd (bk:=.row 4 (xW p++xW q) .lf true) (g:=fun b=>.one (.slc b 0 2 2 2 true)) rfl rfl ?_;have hpts:v7 (H2.push (.row 4 (xW p++xW q) .lf true)) [p,q] (.one (.slc H2.nx 0 2 2 2 true)):=⟨rfl,.inr ⟨H2.nx,0,2,true,rfl,hb3.2⟩⟩;have hnear:QJ [p,q]=true:=by
  obtain⟨p1,p2,p3,p4⟩:=hp;obtain⟨q1,q2,q3,q4⟩:=hq;simp [QJ];omega
 refine kW rfl rfl (O9 hpts (by simp)) (by repeat (first|exact trivial|refine⟨by assumption,?_⟩)) ?_;rw [hnear];replace hb1:=hb1.ext hx3;replace hb2:=hb2.ext hx3;replace l1:=hb1.2;replace l2:=hb2.2;have hn3:(H2.push (.row 4 (xW p++xW q) .lf true)).nx=H.nx+3:=by simp [hn2]
 generalize (H2.push (.row 4 (xW p++xW q) .lf true))=H3 at *;refine zk ?_;refine kD rfl rfl (fun ht=>by cases ht) (fun _=>?_);refine zk ?_;refine kW rfl rfl (nZ hp' hq') (by repeat (first|exact trivial|refine⟨by assumption,?_⟩)) ?_;refine zk ?_;refine CP (xQ.cons (k:=2) rfl (xQ.cons (k:=3) rfl (xQ.cons (k:=5) rfl (xQ.cons (k:=17) rfl (xQ.nil _))))) ?_;generalize hn:xy p q=n at *;refine kD rfl rfl (fun ht=>?_) (fun ht=>?_)
 ·simp at ht;refine zk ?_;refine tG rfl rfl rfl ?_;refine YO rfl (XI (yN ⟨_,rfl,?_⟩));rw [xR,if_pos (by omega)];refine⟨⟨rfl,.inr ⟨H3.nx,true,rfl,by omega,?_⟩⟩,fun b hb=>by obtain rfl:=zsi hb;simp;omega⟩;exact x6.new (xW p)
 ·simp at ht;refine zk ?_;obtain⟨N,hN⟩:∃N:Nat,n=N:=⟨n.toNat,oM⟩;subst hN;rw [xp (n:=(N:Int)+1) (by omega) (by omega)];refine UY (n:=0) (m:=N+1) rfl rfl rfl oM oM oM ?_;have hr0:vI (H3.push (.row ((N+1)*2) [.int .i64 0,.int .i64 0] .lf true)) H3.nx (N+1) []:=vI.new (by rw [Hp.get_push,if_pos rfl]);have hx4:=Ext.push hw3 (Ext.refl H3) (.row ((N+1)*2) [.int .i64 0,.int .i64 0] .lf true);replace hb1:=hb1.ext hx4;replace hb2:=hb2.ext hx4;have hn4:(H3.push (.row ((N+1)*2) [.int .i64 0,.int .i64 0] .lf true)).nx=H.nx+4:=by simp [hn3]
  generalize (H3.push (.row ((N+1)*2) [.int .i64 0,.int .i64 0] .lf true))=H4 at *;rw [hn3] at hr0 ⊢;refine zk ?_;rw [xp (n:=(N:Int)+1) (by omega) (by omega)];refine Kz (fun m E H'=>∃k:Nat,k+m=N+1/\E=[(2,.one (.ptr H.nx 0)),(3,.one (.ptr (H.nx+1) 0)),(5,.int N),(6,.one (.slc (H.nx+3) 0 k (N+1) 2 true)),(24,.int (N+1)),(25,.int k)]/\H.nx+4<=H'.nx/\x6 H' H.nx (xW p)/\x6 H' (H.nx+1) (xW q)/\vI H' (H.nx+3) (N+1) ((List.range k).map (wh p q N))) (m:=N+1) ⟨_,(xQ.cons (k:=2) rfl (xQ.cons (k:=3) rfl (xQ.cons (k:=5) rfl (xQ.cons (k:=6) rfl (xQ.cons (k:=24) rfl (xQ.cons (k:=25) rfl (xQ.nil _))))))),0,oM,rfl,oM,hb1,hb2,hr0⟩ ?_;rintro m E H' hwf' ⟨k,hk,rfl,hnx,g1,g2,hP'⟩;have c0:=g1.cell (i:=0) rfl;have c1:=g1.cell (i:=1) rfl;have d0:=g2.cell (i:=0) rfl;have d1:=g2.cell (i:=1) rfl;obtain⟨p1,p2,p3,p4⟩:=hp;obtain⟨q1,q2,q3,q4⟩:=hq;refine zk ?_;refine kD rfl rfl (fun ht2=>?_) (fun ht2=>?_)
  ·simp at ht2;refine zk ?_;refine YR j3 ?_;refine zk ?_;refine kW rfl rfl (cP oM oM oM oM oM oM oM oM) (by repeat (first|exact trivial|refine⟨by assumption,?_⟩)) ?_;refine zk ?_;refine kW rfl rfl (cP oM oM oM oM oM oM oM oM) (by repeat (first|exact trivial|refine⟨by assumption,?_⟩)) ?_;refine zk ?_;refine UZ (cs:=xW (wh p q N k)) rfl rfl rfl ?_;have hkl:((List.range k).map (wh p q N)).length=k:=by simp
   generalize hH5:Hp.add (Hp.skip H' 19) (H'.nx+16) (.row (xW (wh p q N k)).length (xW (wh p q N k)) .lf true)=H5;have hold:∀b,b<H'.nx->H5.get b=H'.get b:=fun b hb=>by rw [<-hH5,Hp.get_add_ne _ _ (by omega),Hp.get_skip]
   have hsrc:H5.loads (H'.nx+16) 0 (1*2)=some (xW (wh p q N k)):=XL (cs:=xW (wh p q N k)) (rw:=true) (by rw [<-hH5,Hp.get_add_self]);obtain⟨H6,a1,a2,a3,a4⟩:=(hP'.same (hold (H.nx+3) (by omega))).append (by rw [hkl];omega) 16 true (wh p q N k);rw [hkl] at a1;refine CN rfl rfl rfl (pH hsrc) a1 (Wd (Y7.mem ?_)) ?_
   ·refine⟨?_,?_,trivial⟩
    ·exact ((g2.same (hold _ oM)).same (a3 _ oM)).cell rfl
    ·exact ((g1.same (hold _ oM)).same (a3 _ oM)).cell rfl
   refine zk ?_;have hn6:H6.nx=H'.nx+19:=by rw [a4,<-hH5];simp
   refine⟨m-1,oM,_,(xQ.cons (k:=2) rfl (xQ.cons (k:=3) rfl (xQ.cons (k:=5) rfl (xQ.cons (k:=6) rfl (xQ.cons (k:=24) rfl (xQ.cons (k:=25) rfl (xQ.nil _))))))),k+1,oM,?_,oM,(g1.same (hold _ oM)).same (a3 _ oM),(g2.same (hold _ oM)).same (a3 _ oM),?_⟩
   ·rw [xp (by omega) (by omega)];rfl
   ·rw [List.range_succ,List.map_append];exact a2
  ·simp at ht2;obtain rfl:k=N+1:=by omega
   refine KA ?_;refine zk ?_;refine yN ⟨_,rfl,?_⟩;rw [xR,hn,if_neg ht,Int.toNat_natCast];have:=hP'.full (lo:=H.nx) (hi:=H'.nx) (ex:=true) (by simp) (by omega) (by omega);simpa using this
theorem PH{H:Hp}{p q:Pt}(hp:qE 1000 p)(hq:qE 1000 q):qH Tryz.prog 1 120 [Go.Ab.ptV p,Go.Ab.ptV q] H fun v H'=>j6 H' H.nx H'.nx (xR p q) v/\Ext H H':=
 (qH.grow (PG hp hq)).mono fun v H' ⟨H1,hg,e1,e2,e3,e4,_⟩=>by
  subst e1;exact⟨hg.same fun b hb=>e4 b (hg.2 b hb).1,e3,e2⟩
theorem qaW{p q:qc}(hp:qE 1000 p)(hq:qE 1000 q):DK 120 [zg p,zg q] fun d=>d=qz (xR p q):=fun H Z args hw hz hg ha=>by
 rw [KT (ds:=[zg p,zg q]) (vs:=[Go.Ab.ptV p,Go.Ab.ptV q]) ⟨rfl,rfl,trivial⟩ ha];refine (qH.none (qH.wf (PH hp hq))).mono ?_;rintro v H' ⟨⟨⟨ho,hx⟩,hw'⟩,hno⟩;refine⟨hw',hx.nx,fun b hb=>?_,_,eH ho fun b h1 h2=>.inr ⟨h1,h2⟩,rfl⟩;cases hgb:H.get b with
 |none=>exact hno b hb hgb
 |some bk=>exact hx.get b bk hgb
theorem r4{p q:qc}(hp:qE 1000 p)(hq:qE 1000 q):DK 122 [zg p,zg q] fun d=>d=qz (xR p q):=fun H Z args hw hz hg ha=>by
 rw [KT (ds:=[zg p,zg q]) (vs:=[Go.Ab.ptV p,Go.Ab.ptV q]) ⟨rfl,rfl,trivial⟩ ha];refine (qH.none (qH.wf (GE hp hq))).mono ?_;rintro v H' ⟨⟨⟨ho,hx⟩,hw'⟩,hno⟩;refine⟨hw',hx.nx,fun b hb=>?_,_,eH ho fun b h1 h2=>.inr ⟨h1,h2⟩,rfl⟩;cases hgb:H.get b with
 |none=>exact hno b hb hgb
 |some bk=>exact hx.get b bk hgb
theorem BX(x t:Int){n:Int}(hn:0<n):(x+2*n*t)/(2*n)=x/(2*n)+t:=Int.add_mul_ediv_left x t oM
theorem Jy(a:Int){n:Int}(hn:0<n):(2*(a*n)+n)/(2*n)=a:=by
 have h:=BX n a hn;rw [show n+2*n*a=2*(a*n)+n by rw [Int.mul_assoc,Int.mul_comm n a];omega] at h;rw [h,Int.ediv_eq_zero_of_lt (by omega) (by omega)];omega
theorem fO(a b:Int){n:Int}(hn:0<n):ZS a b 0 n=a:=by
 unfold ZS;rw [Int.zero_mul,Int.add_zero];exact Jy a hn
theorem fP(a b:Int){n:Int}(hn:0<n):ZS a b n n=b:=by
 unfold ZS;rw [show a*n+n*(b-a)=b*n by rw [Int.mul_sub,Int.mul_comm n b,Int.mul_comm n a];omega];exact Jy b hn
theorem sE(a b k:Int){n:Int}(hn:0<n)(h0:0<=k)(h1:k<=n):min a b<=ZS a b k n/\ZS a b k n<=max a b:=by
 have e:=Jy (min a b) hn;have f:=Jy (max a b) hn;have hx:min a b*n<=a*n+k*(b-a)/\a*n+k*(b-a)<=max a b*n:=by
  by_cases hab:a<=b
  ·rw [Int.min_eq_left hab,Int.max_eq_right hab];have g1:0<=k*(b-a):=Int.mul_nonneg h0 oM;have g2:k*(b-a)<=n*(b-a):=Int.mul_le_mul_of_nonneg_right h1 oM;rw [Int.mul_sub n,Int.mul_comm n b,Int.mul_comm n a] at g2;omega
  ·rw [Int.min_eq_right (by omega),Int.max_eq_left (by omega)];have g1:0<=k*(a-b):=Int.mul_nonneg h0 oM;have g2:k*(a-b)<=n*(a-b):=Int.mul_le_mul_of_nonneg_right h1 oM;rw [Int.mul_sub n,Int.mul_comm n b,Int.mul_comm n a] at g2;have g3:k*(b-a)= - (k*(a-b)):=by rw [<-Int.mul_neg];congr 1;omega
   omega
 unfold ZS;constructor
 ·have:=Int.ediv_le_ediv (a:=2*(min a b*n)+n) (b:=2*(a*n+k*(b-a))+n) (c:=2*n) oM oM;omega
 ·have:=Int.ediv_le_ediv (a:=2*(a*n+k*(b-a))+n) (b:=2*(max a b*n)+n) (c:=2*n) oM oM;omega
theorem WM(p q:qc):(xR p q).length=(xy p q).toNat+1:=by
 unfold xR;split
 ·rename_i h;rw [h];rfl
 ·simp
def k7(p q:qc)(k:Nat):qc:=if xy p q=0 then p else wh p q (xy p q) k
theorem Jw(p q:qc){k:Nat}(hk:(k:Int)<=xy p q):(xR p q)[k]?=some (k7 p q k):=by
 unfold xR k7;split
 ·rename_i h;obtain rfl:k=0:=by omega
  rfl
 ·rw [List.getElem?_map,List.getElem?_range (by omega)];rfl
theorem Qx(p q:qc):xy p q=max (q.1-p.1) (max (p.1-q.1) (max (q.2-p.2) (p.2-q.2))):=by simp only [xy];omega
theorem oN(p q:qc):k7 p q 0=p:=by
 have:=Qx p q;unfold k7;split
 ·rfl
 ·simp only [wh];rw [Int.natCast_zero,fO _ _ (by omega),fO _ _ (by omega)]
theorem oO(p q:qc):k7 p q (xy p q).toNat=q:=by
 have h:=Qx p q;unfold k7;split
 ·obtain⟨p1,p2⟩:=p;obtain⟨q1,q2⟩:=q;simp only [zpi] at *;omega
 ·simp only [wh];rw [Int.toNat_of_nonneg (by omega),fP _ _ (by omega),fP _ _ (by omega)]
theorem eV(p q:qc){k:Nat}(hk:(k:Int)<=xy p q):min p.1 q.1<=(k7 p q k).1/\(k7 p q k).1<=max p.1 q.1/\min p.2 q.2<=(k7 p q k).2/\(k7 p q k).2<=max p.2 q.2:=by
 have h:=Qx p q;unfold k7;split
 ·omega
 ·simp only [wh];have h1:=sE p.1 q.1 k (n:=xy p q) oM oM hk;have h2:=sE p.2 q.2 k (n:=xy p q) oM oM hk;omega
theorem OI{l:List qc}(hl:l.Nodup)(h0:0<l.length)(hn:l.length<1000000):ZX 94 [.one (.fn 118 [(1,0)]),mA 96] [(0,j5 l),(1,.cells [.om 0])] 2
 fun d S' nk'=>d=.one (.own 6 0 (qr l).length 2)/\yu [(6,.data ((qr l).flatMap qh))] S'/\nk'=7:=by
 refine vb qba rfl fun Z β H lo=>?_;refine qb ?_;intros;refine vC rfl rfl rfl (DX.sub (UA hl hn _ _ _ _ _) (qe rfl (qe rfl (qy _)))) ?_;rintro _ S' _ ⟨out,h1,h2,rfl,h3,h4,rfl⟩;refine yB (zK _) h4 ?_;have hp:0<out.length:=by
  cases out with
  |nil=>
   cases l with
   |nil=>simp at h0
   |cons x l=>exact absurd ((h2 x).2 (by simp)) (by simp)
  |cons=>simp
 refine qb ?_;intros;refine vC rfl rfl rfl (mV qpD (k:=6) (l:=out) rfl hp oM _ _ _ _ _) ?_;rintro _ _ _ ⟨rfl,rfl,l',hp',hs,rfl⟩;have hl':l'.Nodup:=hp'.symm.nodup h1;have he:l'=qr l:=qJ.ext (YL hs hl') (xg l) fun p=>by rw [qO,hp'.mem_iff,h2]
 have hlen:out.length=(qr l).length:=by rw [<-he,hp'.length_eq]
 rw [hlen,he];refine qb ?_;intros;exact qf ⟨_,rfl,rfl,_,zK _,rfl,qe rfl (qy _),rfl⟩
theorem gR{l:List qc}(hl:l.Nodup)(h0:0<l.length)(hn:l.length<1000000):ZX 62 [.one (.om 0)] [(0,j5 l)] 1
 fun d S' nk'=>d=.one (.own 6 0 (qr l).length 2)/\yu [(6,.data ((qr l).flatMap qh))] S'/\nk'=7:=by
 refine vb qbA rfl fun Z β H lo=>?_;refine qb ?_;intros;refine vC rfl rfl rfl (OJ l _ _ _ _ _) ?_;rintro _ S' _ ⟨rfl,h4,rfl⟩;refine yB (zK _) h4 ?_;refine qb ?_;intros;refine vC rfl rfl rfl (OI hl h0 hn _ _ _ _ _) ?_;rintro _ S' _ ⟨rfl,h4,rfl⟩;refine yB (zK _) h4 ?_;refine qb ?_;intros;exact qf ⟨_,rfl,rfl,_,zK _,rfl,qe rfl (qy _),rfl⟩
def vR(l L:List qc):List qc:=L.foldl wX l
theorem VK{p:qc}:∀{L l:List qc},p∈vR l L↔p∈l\/p∈L
 |[],l=>by simp [vR]
 |q::L,l=>by
  show p∈vR (wX l q) L↔_
  rw [VK,iT,List.mem_cons,or_assoc]
end Go.Ag
