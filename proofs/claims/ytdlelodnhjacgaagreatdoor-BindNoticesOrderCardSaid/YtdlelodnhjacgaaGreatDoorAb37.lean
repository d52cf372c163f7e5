/- -/
import Derived.Test.YtdlelodnhjacgaaGreatDoorAb36
set_option linter.unusedSimpArgs false
set_option linter.unusedVariables false
set_option maxRecDepth 8000
set_option maxHeartbeats 4000000
namespace Go.Ai
open Go.Ab Go.Proofs
def WI(r:List Bool):DV:=.one (.f (xn (r.map zY)))
def Az(r:List Int):DV:=.one (.f (xn (r.map yw)))
theorem fC{α:Type}:∀(q:List α) (pre l:List α),q.length=l.length->setLs (pre++l) pre.length q=pre++q
 |[],pre,l,h=>by
  have:l=[]:=vw (by simpa using h.symm);subst this;rfl
 |c::q,pre,[],h=>by simp at h
 |c::q,pre,x::l,h=>by
  have ih:=fC q (pre++[c]) l (by simpa using h);rw [setLs,show (pre++x::l).set pre.length c=(pre++[c])++l by rw [List.set_append_right _ _ (qz _)];simp];rw [show pre.length+1=(pre++[c]).length by simp,ih];simp
theorem e6{α:Type}{q l:List α}(h:q.length=l.length):setLs l 0 q=q:=by
 have:=fC q [] l h;simpa using this
theorem HK{r:List Bool}(hn:r.length<1000000):jg 184 [WI r] fun d S nk=>d=.one (.own 0 0 r.length 1)/\S=[(0,.data (r.map zY))]/\nk=1:=by
 refine wv fun Z0 lo=>?_;have hl:(r.map zY).length=r.length:=sM;refine qa ?_;intros;rw [hl];refine aJ [.c (.bool false)] O O ⟨O,O,trivial⟩ O qr (qz _) oM oM ?_;refine qa ?_;intros;refine O9 (m:=r.length) (t:=r.length) (q:=r.map zY) (q':=r.map zY) O O O ⟨hl,O,O⟩ (by rw [jI];simp) (Nat.min_self _) (Q9 (by simp)) O ?_;rw [e6 (by rw [jI];simp)];refine qa ?_;intros;exact qb ⟨_,O,O,_,qg (k:=0) O (qv _),O,O,O⟩
theorem IP{r:List Bool}(hn:r.length<1000000):DK 184 [WI r] fun d=>d=WI r:=by
 refine va fun Z0 lo=>?_;have hl:(r.map zY).length=r.length:=sM;refine qa ?_;intros;rw [hl];refine aJ [.c (.bool false)] O O ⟨O,O,trivial⟩ O qr (qz _) oM oM ?_;refine qa ?_;intros;refine O9 (m:=r.length) (t:=r.length) (q:=r.map zY) (q':=r.map zY) O O O ⟨hl,O,O⟩ (by rw [jI];simp) (Nat.min_self _) (Q9 (by simp)) O ?_;rw [e6 (by rw [jI];simp)];refine qa ?_;intros;have hfl:(r.map zY).length=r.length*1:=sM;refine qx (qg (k:=2) O (qv _)) (qg (k:=0) O (qv _)) ?_;refine qF 0 O qo qo ?_;refine qb ⟨_,O,O,?_⟩;show _=DV.one (.f (.sl 1 (r.map zY).length (r.map zY)));rw [hl];rfl
def GQ(r:List Bool)(i:Nat)(q:List Bool):Prop:=q.length=r.length/\∀t,t<r.length->q[t]?=if t<i\/r.length<=t+i then r[r.length-1-t]? else r[t]?
theorem GQ.step{r q:List Bool}{i:Nat}{a b:Bool}(h:GQ r i q)(hi:i<r.length-1-i)(ha:q[i]?=some a)(hb:q[r.length-1-i]?=some b):GQ r (i+1) ((q.set i b).set (r.length-1-i) a):=by
 obtain⟨h1,h2⟩:=h;have e1:=h2 i oM;rw [ha,if_neg (by omega)] at e1;have e2:=h2 (r.length-1-i) oM;rw [hb,if_neg (by omega)] at e2;refine⟨by simp [h1],fun t ht=>?_⟩;rw [Q4,Q4];by_cases c1:r.length-1-i=t
 ·subst c1;rw [if_pos rfl,if_pos (by simp;omega),if_pos (by omega),show r.length-1-(r.length-1-i)=i by omega,e1]
 ·rw [if_neg c1];by_cases c2:i=t
  ·subst c2;rw [if_pos rfl,if_pos (by omega),if_pos (by omega),e2]
  ·rw [if_neg c2,h2 t ht];by_cases c3:t<i\/r.length<=t+i
   ·rw [if_pos c3,if_pos (by omega)]
   ·rw [if_neg c3,if_neg (by omega)]
theorem GQ.fin{r q:List Bool}{i:Nat}(h:GQ r i q)(hi:r.length<=2*i+1):q=r.reverse:=by
 refine vF fun t=>?_;by_cases ht:t<r.length
 ·rw [h.2 t ht,List.getElem?_reverse ht];by_cases c:t<i\/r.length<=t+i
  ·rw [if_pos c]
  ·rw [if_neg c,show r.length-1-t=t by omega]
 ·rw [yJ (by rw [h.1];omega),yJ (by simp;omega)]
theorem MW(q:List Bool)(i:Nat)(b:Bool):Zw (.data (q.map zY)) i [.f (zY b)]=.data ((q.set i b).map zY):=congrArg Bk.data (Ic q i b)
theorem L4{r:List Bool}(hn:r.length<1000000):Q2 194 [.one (.own 0 0 r.length 1)] [(0,.data (r.map zY))] 1 fun _ S nk=>S=[(0,.data (r.reverse.map zY))]/\nk=1:=by
 refine JD fun Z β H lo=>?_;have w0:IntKind.i64.wrap ((r.length:Int)-1)=(r.length:Int)-1-((0:Nat):Int):=by rw [qm (by omega) (by omega)];omega
 refine qa ?_;intros;rw [w0];refine qu (fun k E S nk=>∃i q,2*i+k=r.length+1/\GQ r i q/\E=[(0,.one (.own 0 0 r.length 1)),(2,.int i),(3,.int ((r.length:Int)-1-(i:Nat)))]/\S=[(0,.data (q.map zY))]/\nk=1) ⟨r.length+1,_,_,_,[],?wk,0,r,by omega,⟨rfl,fun t ht=>by rw [if_neg (by omega)]⟩,rfl,rfl,rfl⟩ ?_
 case wk=>exact qs
 rintro k E S nk ⟨i,q,hk,hq,rfl,rfl,rfl⟩;refine qa ?_;intros;refine qd O (fun ht=>?_) (fun ht=>?_)
 ·have hi:i<r.length-1-i:=by simp at ht;omega
  have hql:=hq.1;obtain⟨a,ha⟩:∃a,q[i]?=some a:=⟨_,zge oM⟩;obtain⟨b,hb⟩:∃b,q[r.length-1-i]?=some b:=⟨_,zge oM⟩;have w1:(r.length:Int)-1-(i:Nat)=((r.length-1-i:Nat):Int):=oM;have w2:IntKind.i64.wrap (((r.length-1-i:Nat):Int)-1)=(r.length:Int)-1-((i+1:Nat):Int):=by rw [qm (by omega) (by omega)];omega
  have e1:xd (q.map zY) (Int.toNat (i:Int)) 1=some [zY a]:=by have:=JV (CF ha);rwa [X2] at this
  have e2:xd (q.map zY) (Int.toNat ((r.length-1-i:Nat):Int)) 1=some [zY b]:=by have:=JV (CF hb);rwa [X2] at this
  have l1:Int.toNat (i:Int)+1<=(q.map zY).length:=by simp;omega
  have l2:Int.toNat ((r.length-1-i:Nat):Int)+1<=((q.set i b).map zY).length:=by simp;omega
  rw [w1];refine qa ?_;intros;refine wh O O O O O l1 O ?_;rw [show Zw (.data (q.map zY)) (Int.toNat (i:Int)) [.f (zY b)]=.data ((q.set i b).map zY) from MW q i b];refine qa ?_;intros;refine wh O O O O O l2 O ?_;rw [show Zw (.data ((q.set i b).map zY)) (Int.toNat ((r.length-1-i:Nat):Int)) [.f (zY a)]=.data (((q.set i b).set (r.length-1-i) a).map zY) from MW _ _ a];refine qa ?_;intros;rw [w2];refine⟨k-2,oM,_,_,_,[],?wk2,i+1,_,oM,hq.step hi ha hb,O,O,O⟩
  case wk2=>exact qs
 ·have hi:¬i<r.length-1-i:=by simp at ht;omega
  refine qa ?_;intros;have:=hq.fin oM;subst this;refine⟨_,O,O,_,wC _,O,O⟩
theorem UH{r:List Bool}(hn:r.length<1000000):DK 185 [WI r] fun d=>d=WI r.reverse:=by
 refine Of ?_;intros;refine zw O O (HK hn) ?_;rintro _ _ _ ⟨rfl,rfl,rfl⟩;refine qa ?_;intros;refine iL O O O (L4 hn _ _ _ _ _) ?_;rintro _ _ _ ⟨rfl,rfl⟩;refine qa ?_;intros;have hfl:(r.reverse.map zY).length=r.length*1:=sM;refine qx (qg (k:=2) O (qv _)) (qg (k:=0) O (qv _)) ?_;refine qF 0 O qo qo ?_;refine qb ⟨_,O,O,?_⟩;show _=DV.one (.f (.sl 1 (r.reverse.map zY).length (r.reverse.map zY)));rw [show (r.reverse.map zY).length=r.length by simp];rfl
def w8{α:Type}(z:α->Bool):List α->List α
 |[]=>[]
 |x::r=>match w8 z r with
  |[]=>if z x=true then [] else [x]
  |t::ts=>x::t::ts
theorem eT{α:Type}(z:α->Bool)(x:α):∀l,w8 z (l++[x])=if z x=true then w8 z l else l++[x]
 |[]=>by simp only [Kv,w8]
 |y::l=>by
  have ih:=eT z x l;rw [vz,w8,ih];by_cases h:z x=true
  ·simp only [h,if_true];rw [w8]
  ·simp only [h,yz,if_false];cases l<;>rfl
theorem eS{α:Type}{z:α->Bool}{l:List α}{k:Nat}{x:α}(h:l[k]?=some x):w8 z (l.take (k+1))=if z x=true then w8 z (l.take k) else l.take (k+1):=by
 rw [Q5,h,Option.toList_some,eT]
def HX(c:Int):Bool:=c==0
abbrev xO(c:List Int):List Int:=w8 HX c
theorem Hg{c:List Int}(hn:c.length<1000000):DK 193 [Az c] fun d=>d=Az (xO c):=by
 refine va fun Z0 lo=>?_;have hl:(c.map yw).length=c.length:=sM;refine qa ?_;intros;rw [hl];refine qu (fun m E S nk=>∃k,k=m/\k<=c.length/\xO c=xO (c.take k)/\E=[(0,Az c),(3,.int k)]/\S=[]/\nk=0) ⟨c.length,_,_,_,[],?wk,_,O,qz _,by rw [vE],rfl,rfl,rfl⟩ ?_
 case wk=>exact qs
 rintro m E S nk ⟨k,rfl,hk,ht,rfl,rfl,rfl⟩;cases k with
 |zero=>
  have hfin:xO c=c.take 0:=by rw [ht];rfl
  refine qa ?_;intros;refine qd (t:=false) O (fun ht=>by cases ht) (fun _=>?_);refine qa ?_;intros;refine AT (n:=(c.map yw).length) (m:=c.map yw) O O O oM O ?_;refine qa ?_;intros;refine qb ⟨_,O,O,?_⟩;rw [hfin,X2,<-List.map_take];show _=DV.one (.f (.sl 1 ((c.take _).map yw).length ((c.take _).map yw)));rw [show ((c.take 0).map yw).length=0 by rw [xX,xS];omega]
 |succ k=>
  obtain⟨x,hx⟩:∃x,c[k]?=some x:=⟨_,zge oM⟩;have e1:=JV (I6 hx);have l1:k<(c.map yw).length:=oM;have g1:decide (((k+1:Nat):Int)>0)=true:=sM;have w1:IntKind.i64.wrap (((k+1:Nat):Int)-1)=((k:Nat):Int):=by rw [qm (by omega) (by omega)];omega
  obtain⟨t,h1⟩:∃t,(x==0)=t:=⟨_,rfl⟩;have hs:=eS (z:=HX) hx;rw [show HX x=t from h1] at hs;cases t with
  |true=>
   rw [if_pos rfl] at hs
   iterate 12 (first|(refine jO O O ?_)|(refine wO O O ?_)|(refine wq O ?_)|(refine wr O O ?_)|(refine wu O O ?_)|(refine Qu O Qv Qv ?_)|(refine vK O O ?_)|(refine vJ O O ?_)|(refine IC O aM ?_)|(refine zi O ?_)|(refine xZ O ?_)|(refine xH O ?_)|(refine Jf O Qv ?_)|(refine Jg O Qv ?_)|(refine kX O O oM oM ?_)|(refine kY O O oM oM ?_)|(refine kW O O oM oM ?_)|(refine Yr O O oM qr aM ?_)|(refine yE O O oM qr aM ?_)|(refine xZ (xJ O O aM O) ?_)|(refine xH (xJ O O aM O) ?_)|(refine xZ (xE O O aM) ?_)|(refine xH (xE O O aM) ?_)|(refine xZ (xF O O aM aM) ?_)|(refine xH (xF O O aM aM) ?_)|(refine Qf O ?_)|(refine XU O O O ?_)|(refine wh O O O O O (jP O) O ?_)|(refine jd ?_)|(refine yn ?_)|(refine yv vB (fun base=>?_))|(refine kC ?_)|(refine jT ?_)|(refine yW ?_))
   rw [w1];refine zh ?_;intros;refine qd (t:=true) O (fun _=>?_) (fun ht=>by cases ht);refine qa ?_;intros;rw [w1];refine⟨k,oM,_,_,_,[],?wk2,k,O,oM,ht.trans hs,O,O,O⟩
   case wk2=>exact qs
  |false=>
   rw [if_neg (by decide)] at hs;have hfin:xO c=c.take (k+1):=ht.trans hs
   iterate 12 (first|(refine jO O O ?_)|(refine wO O O ?_)|(refine wq O ?_)|(refine wr O O ?_)|(refine wu O O ?_)|(refine Qu O Qv Qv ?_)|(refine vK O O ?_)|(refine vJ O O ?_)|(refine IC O aM ?_)|(refine zi O ?_)|(refine xZ O ?_)|(refine xH O ?_)|(refine Jf O Qv ?_)|(refine Jg O Qv ?_)|(refine kX O O oM oM ?_)|(refine kY O O oM oM ?_)|(refine kW O O oM oM ?_)|(refine Yr O O oM qr aM ?_)|(refine yE O O oM qr aM ?_)|(refine xZ (xJ O O aM O) ?_)|(refine xH (xJ O O aM O) ?_)|(refine xZ (xE O O aM) ?_)|(refine xH (xE O O aM) ?_)|(refine xZ (xF O O aM aM) ?_)|(refine xH (xF O O aM aM) ?_)|(refine Qf O ?_)|(refine XU O O O ?_)|(refine wh O O O O O (jP O) O ?_)|(refine jd ?_)|(refine yn ?_)|(refine yv vB (fun base=>?_))|(refine kC ?_)|(refine jT ?_)|(refine yW ?_))
   rw [w1];refine zh ?_;intros;refine qd (t:=false) O (fun ht=>by cases ht) (fun _=>?_);refine qa ?_;intros;refine AT (n:=(c.map yw).length) (m:=c.map yw) O O O oM O ?_;refine qa ?_;intros;refine qb ⟨_,O,O,?_⟩;rw [hfin,X2,<-List.map_take];show _=DV.one (.f (.sl 1 ((c.take _).map yw).length ((c.take _).map yw)));rw [show ((c.take (k+1)).map yw).length=k+1 by rw [xX,xS];omega]
abbrev rZ(d:qK):DV:=.one (.f (QW d))
def HY(r:List Int):Bool:=r.isEmpty
abbrev Pe(g:qV):qV:=w8 HY g
theorem BT{w h:Nat}{d:qK}(hw:w<=200)(hh:h<=200)(hd:jf w h d):DK 182 [rZ d,.int w,.int h] fun d=>d=.bool true:=by
 refine va fun Z0 lo=>?_;have hl:=hd.1;have g5:(((d.length:Nat):Int)!=(h:Int))=false:=by simp [hl]
 refine zh ?_;intros;refine qd O (fun ht=>by cases ht) (fun _=>?_);refine qa ?_;intros;refine qu (fun m E S nk=>∃k:Nat,k+m=d.length/\E=[(1,.int w),(13,rZ d),(14,.int d.length),(15,.int k)]/\S=[]/\nk=0) ⟨d.length,_,_,_,[],?wk,0,oM,O,O,O⟩ ?_
 case wk=>exact qs
 rintro m E S nk ⟨k,hk,rfl,rfl,rfl⟩;refine qa ?_;intros;refine qd O (fun ht=>?_) (fun ht=>?_)
 ·simp at ht;obtain⟨r,hr,hrl⟩:=hd.row (y:=k) oM;have e1:=ZP (WH hr);have e2:((((r.map zY).length:Nat):Int)!=(w:Int))=false:=by simp [hrl]
  refine zh ?_;intros;refine qd O (fun ht=>by cases ht) (fun _=>?_);refine qa ?_;intros;refine⟨m-1,oM,_,_,_,[],?wk1,k+1,oM,O,O,O⟩
  case wk1=>exact qs
 ·exact QK
abbrev Mq(n m:Nat)(u v:qK):DV:=.agg ((we ⟨n,m,QW u,QW v⟩).map .f)
theorem dR{w h n m:Nat}(hw:24<=w/\w<=60)(hh:4<=h/\h<=40)(hn:n=2*w)(hm:m=3*h){u v:qK}(hu:jf n m u)(hv:jf n m v):DK 168 [Mq n m u v] fun d=>d=.bool true:=by
 have e1:n % Int.toNat 2=0:=by show n % 2=0;omega
 have e2:n/Int.toNat 2=w:=by show n/2=w;omega
 have e3:m % Int.toNat 3=0:=by show m % 3=0;omega
 have e4:m/Int.toNat 3=h:=by show m/3=h;omega
 refine xr ?_;intros;refine qS O O (BT (w:=n) (h:=m) oM oM hu) ?_;intros;refine qf O O (BT (w:=n) (h:=m) oM oM hv) ?_;rintro _ rfl;exact jJ
def V6(n m:Nat)(d:qK):qV:=Pe ((Xn n m d).map xO)
theorem Ek(n m:Nat)(d:qK):(Xn n m d).length=m/3:=by simp [Xn]
theorem Ej{n m:Nat}{d:qK}{r:List Int}(h:r∈Xn n m d):r.length=n/2:=by
 obtain⟨_,_,rfl⟩:=j6.1 h;simp
def Zq(l:List FD)(k:Nat):List FD:=l.take k++List.replicate (l.length-k) (.c .nils)
theorem T5{l:List FD}{k:Nat}{x:FD}(h:l[k]?=some x):(Zq l k).set k x=Zq l (k+1):=by
 have hk:=(zgs h).1;have h1:(l.take k).length=k:=by rw [xS];omega
 unfold Zq;rw [List.set_append_right _ _ (by omega),h1,Nat.sub_self,show l.length-k=(l.length-(k+1))+1 by omega,LZ,LV,Q5,h];simp
theorem T6{l:List FD}{k:Nat}(h:k<=l.length):(Zq l k).length=l.length:=by
 unfold Zq;rw [qE,xS,xN];omega
theorem F3{w hh n m:Nat}(hw:24<=w/\w<=60)(hhh:4<=hh/\hh<=40)(hn:n=2*w)(hm:m=3*hh){d:qK}{F:FuncId}{t:List Bool->List Bool}(hF:wL Tryz.prog F=true)(ht:∀r,r.length=n->DK F [WI r] (fun x=>x=WI (t r))/\(t r).length=n)(hd:jf n m d):DK 183 [rZ d,(.int (n:Nat)),(.int (m:Nat)),.one (.f (.c (.fn F [])))] fun x=>x=.one (.f (ku (V6 n m (d.map t)))):=by
 refine va fun Z0 lo=>?_;have hl:=hd.1;have hd2:jf n m (d.map t):=⟨by simp [hl],fun r hr=>by
  obtain⟨r',hr',rfl⟩:=j6.1 hr;exact (ht r' (hd.2 r' hr')).2⟩
 have hrl:((zt (d.map t)).map xn).length=m:=by rw [xX,NC,hd2.1]
 refine qa ?_;intros;refine aJ (n:=d.length) (m:=d.length) [.c .nils] O O ⟨O,O,trivial⟩ O qr (qz _) oM oM ?_;rw [hl];refine qa ?_;intros;rw [hl];refine qu (fun mm E S nk=>∃k:Nat,k+mm=m/\E=[(1,(.int (n:Nat))),(2,(.int (m:Nat))),(3,.one (.f (.c (.fn F [])))),(9,.one (.own 0 0 m 1)),(21,rZ d),(22,(.int (m:Nat))),(23,.int k)]/\S=[(0,.data (Zq ((zt (d.map t)).map xn) k))]/\nk=1) ⟨m,_,_,_,[],?wk,0,oM,O,O,O⟩ ?_
 case wk=>exact⟨by repeat (first|exact trivial|refine⟨rfl,rfl,?_⟩),⟨by rw [Zq,hrl,YZ];rfl,rfl,rfl,trivial⟩,rfl,rfl⟩
 rintro mm E S nk ⟨k,hk,rfl,rfl,rfl⟩;refine qa ?_;intros;refine qd O (fun hb=>?_) (fun hb=>?_)
 ·have hk12:k<m:=by simp at hb;omega
  obtain⟨r,hr,hrl2⟩:=hd.row (y:=k) hk12;have e1:=ZP (WH hr);have l0:k<d.length:=oM;have hx:((zt (d.map t)).map xn)[k]?=some (xn ((t r).map zY)):=by simp [zt,hr]
  have hset:=T5 hx;refine qa ?_;intros;refine Ny O hF O O (ht r hrl2).1 ?_;rintro _ rfl;refine qa ?_;intros;refine wh O O O O O (show Int.toNat (k:Int)+1<=(Zq ((zt (d.map t)).map xn) k).length by rw [T6 (by omega),hrl];simp;omega) O ?_;rw [show Zw (.data (Zq ((zt (d.map t)).map xn) k)) (Int.toNat (k:Int)) [.f (xn ((t r).map zY))]=.data (Zq ((zt (d.map t)).map xn) (k+1)) from congrArg Bk.data hset];refine qa ?_;intros;refine⟨mm-1,oM,_,_,_,[],?wk2,k+1,oM,O,O,O⟩
  case wk2=>exact qs
 ·have hk12:k=m:=by simp at hb;omega
  subst hk12;have hfil:Zq ((zt (d.map t)).map xn) k=(zt (d.map t)).map xn:=by rw [Zq,hrl,Q9 (by omega)];simp
  rw [hfil];have hfl:((zt (d.map t)).map xn).length=k*1:=by rw [hrl,X2]
  have h42:=Sl (n:=n) (m:=k) oM oM hd2;rw [show f8 ((n:Nat):Int) ((k:Nat):Int) (d.map t)=.agg [.f (.c (.int .i64 n)),.f (.c (.int .i64 k)),.f (.sl 1 k ((zt (d.map t)).map xn))] by rw [f8,hd2.1]] at h42
  iterate 1 (first|(refine jO O O ?_)|(refine wO O O ?_)|(refine wq O ?_)|(refine wr O O ?_)|(refine wu O O ?_)|(refine Qu O Qv Qv ?_)|(refine vK O O ?_)|(refine vJ O O ?_)|(refine zi O ?_)|(refine xZ O ?_)|(refine xH O ?_)|(refine Jf O Qv ?_)|(refine Jg O Qv ?_)|(refine kX O O oM oM ?_)|(refine kY O O oM oM ?_)|(refine kW O O oM oM ?_)|(refine Yr O O oM qr aM ?_)|(refine yE O O oM qr aM ?_)|(refine xZ (xJ O O aM O) ?_)|(refine xH (xJ O O aM O) ?_)|(refine xZ (xE O O aM) ?_)|(refine xH (xE O O aM) ?_)|(refine xZ (xF O O aM aM) ?_)|(refine xH (xF O O aM aM) ?_)|(refine Qf O ?_)|(refine XU O O O ?_)|(refine wh O O O O O (jP O) O ?_)|(refine jd ?_)|(refine yn ?_)|(refine yv vB (fun base=>?_))|(refine kC ?_)|(refine jT ?_)|(refine yW ?_))
  refine qx (qg (k:=1) O (qg (k:=2) O (qg (k:=9) O (qv _)))) (qg (k:=0) O (qv _)) ?_;refine qF 0 O qo qo ?_;refine qa ?_;intros;refine qf O O h42 ?_;rintro _ (⟨_,_,rfl⟩|⟨h,_⟩)
  rotate_left
  ·exact absurd ⟨oM,oM⟩ h
  have hXl:(Xn n k (d.map t)).length=hh:=by rw [Ek];omega
  have hXr:=fun r=>Ej (n:=n) (m:=k) (d:=d.map t) (r:=r);rw [V6];generalize Xn n k (d.map t)=X at *;refine qa ?_;intros;refine qd (t:=false) O (fun ht=>by cases ht) (fun _=>?_);refine qa ?_;intros;refine aJ (n:=0) (m:=X.length) [.c .nils] O O ⟨O,O,trivial⟩ O qr (Xa _) oM oM ?_;refine qa ?_;intros;rw [hXl];refine qx (qg (k:=12) O (qg (k:=14) O (qg (k:=15) O (qg (k:=48) O (qg (k:=49) O (qg (k:=50) O (qv _))))))) (wC _) ?_;have hYl:(X.map xO).length=hh:=by simp [hXl]
  refine qu (fun m E S nk=>∃k e:Nat,k+m=hh/\e<=k/\Pe ((X.map xO).take k)=(X.map xO).take e/\E=[(14,.one (.own 1 0 k 1)),(15,.int e),(48,VN X),(49,.int hh),(50,.int k)]/\S=[(1,.data (((xU (X.map xO)).map xn).take k))]/\nk=2) ⟨hh,_,_,_,[],?wk3,0,0,oM,oM,O,O,O,O⟩ ?_
  case wk3=>exact qs
  rintro m E S nk ⟨k,e,hk,he,hcut,rfl,rfl,rfl⟩;have hRl:((xU (X.map xO)).map xn).length=hh:=by rw [xX,Kj,hYl]
  refine qa ?_;intros;refine qd O (fun hb=>?_) (fun hb=>?_)
  ·have hk4:k<hh:=by simp at hb;omega
   obtain⟨r,hr⟩:∃r,X[k]?=some r:=⟨_,zge oM⟩;have e1:=ZP (Jl hr);have l0:k<X.length:=oM;have hr24:=hXr r (zmg hr);have hx:((xU (X.map xO)).map xn)[k]?=some (xn ((xO r).map yw)):=by simp [xU,hr]
   have htk:((xU (X.map xO)).map xn).take k++[xn ((xO r).map yw)]=((xU (X.map xO)).map xn).take (k+1):=by rw [Q5,hx];rfl
   have hlk:(((xU (X.map xO)).map xn).take k).length=k*1:=by rw [xS];omega
   have hy:(X.map xO)[k]?=some (xO r):=by simp [hr]
   have hct:=eS (z:=HY) hy;refine qa ?_;intros;refine x6 O O (Hg (c:=r) oM) ?_;intros;refine qZ (m:=1) (q:=[xn ((xO r).map yw)]) O O O (qD _ hlk) ⟨O,O,_,O,O⟩ oM oM qr O ?_;rw [htk];have e2:xd (((xU (X.map xO)).map xn).take (k+1)) (Int.toNat (k:Int)) 1=some [xn ((xO r).map yw)]:=by
    have:=JV (r:=((xU (X.map xO)).map xn).take (k+1)) (x:=k) (b:=xn ((xO r).map yw)) (by rw [Kw,if_pos (by omega)];exact hx)
    rwa [X2] at this
   refine qa ?_;intros;refine qd (t:=decide ((((xO r).map yw).length:Int)>0)) O (fun hb=>?_) (fun hb=>?_)
   ·have hz:HY (xO r)=false:=by
     cases hq:xO r with
     |nil=>rw [hq] at hb;simp at hb
     |cons a b=>rfl
    rw [hz,if_neg (by decide)] at hct;refine qa ?_;intros;refine⟨m-1,oM,_,_,_,[(1,3)],?wk4,k+1,k+1,oM,qz _,hct,O,O,O⟩
    case wk4=>exact qs
   ·have hz:HY (xO r)=true:=by
     cases hq:xO r with
     |nil=>rfl
     |cons a b=>
      rw [hq] at hb;simp at hb
    rw [hz,if_pos rfl] at hct;refine qa ?_;intros;refine⟨m-1,oM,_,_,_,[(1,3)],?wk5,k+1,e,oM,oM,hct.trans hcut,O,O,O⟩
    case wk5=>exact qs
  ·have hk4:k=hh:=by simp at hb;omega
   subst hk4;have hlk:(((xU (X.map xO)).map xn).take k).length=k*1:=by rw [xS];omega
   rw [Q9 (l:=X.map xO) (by omega)] at hcut;rw [hcut]
   iterate 1 (first|(refine jO O O ?_)|(refine wO O O ?_)|(refine wq O ?_)|(refine wr O O ?_)|(refine wu O O ?_)|(refine Qu O Qv Qv ?_)|(refine vK O O ?_)|(refine vJ O O ?_)|(refine zi O ?_)|(refine xZ O ?_)|(refine xH O ?_)|(refine Jf O Qv ?_)|(refine Jg O Qv ?_)|(refine kX O O oM oM ?_)|(refine kY O O oM oM ?_)|(refine kW O O oM oM ?_)|(refine Yr O O oM qr aM ?_)|(refine yE O O oM qr aM ?_)|(refine xZ (xJ O O aM O) ?_)|(refine xH (xJ O O aM O) ?_)|(refine xZ (xE O O aM) ?_)|(refine xH (xE O O aM) ?_)|(refine xZ (xF O O aM aM) ?_)|(refine xH (xF O O aM aM) ?_)|(refine Qf O ?_)|(refine XU O O O ?_)|(refine wh O O O O O (jP O) O ?_)|(refine jd ?_)|(refine yn ?_)|(refine yv vB (fun base=>?_))|(refine kC ?_)|(refine jT ?_)|(refine yW ?_))
   refine qx (qg (k:=14) O (qg (k:=15) O (qv _))) (qg (k:=1) O (qv _)) ?_;refine qF 1 O qo qo ?_;refine qa ?_;intros;refine AT (n:=k) (h:=e) (m:=((xU (X.map xO)).map xn).take k) O O O oM O ?_;refine qa ?_;intros;refine qb ⟨_,O,O,?_⟩;rw [X2,List.take_take,L7 he];show _=DV.one (.f (.sl 1 ((X.map xO).take e).length ((xU ((X.map xO).take e)).map xn)));rw [show ((X.map xO).take e).length=e by rw [xS];omega];simp only [xU,List.map_take]
theorem UN{w h n m:Nat}(hw:24<=w/\w<=60)(hh:4<=h/\h<=40)(hn:n=2*w)(hm:m=3*h){u v:qK}(hu:jf n m u)(hv:jf n m v):DK 169 [Mq n m u v] fun d=>d=.one (.f (ku (V6 n m u))):=by
 refine xr ?_;intros;refine qS O O (dR hw hh hn hm hu hv) ?_;intros;refine qS O O (F3 hw hh hn hm (t:=id) aX (fun r hr=>⟨IP oM,hr⟩) hu) ?_;intros;refine qb ⟨_,O,O,?_⟩;rw [List.map_id]
theorem Hb{w h n m:Nat}(hw:24<=w/\w<=60)(hh:4<=h/\h<=40)(hn:n=2*w)(hm:m=3*h){u v:qK}(hu:jf n m u)(hv:jf n m v):DK 170 [Mq n m u v] fun d=>d=.one (.f (ku (V6 n m (v.map List.reverse)))):=by
 refine xr ?_;intros;refine qS O O (dR hw hh hn hm hu hv) ?_;intros;refine qf O O (F3 hw hh hn hm (t:=List.reverse) fY (fun r hr=>⟨UH (by omega),by simp [hr]⟩) hv) ?_;rintro _ rfl;exact jJ
end Go.Ai
