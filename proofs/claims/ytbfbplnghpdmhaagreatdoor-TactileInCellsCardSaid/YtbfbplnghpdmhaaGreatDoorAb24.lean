/- -/
import Derived.Test.YtbfbplnghpdmhaaGreatDoorAb23
set_option linter.unusedSimpArgs false
set_option maxHeartbeats 16000000
set_option linter.unusedVariables false
namespace Go.Ag
open Go.Ab Go.Proofs
def wD(p:Pic)(l:List qc):List (List qc):=qp p++(List.range l.length).map fun i=>qS i (xH l i)
theorem oL{l:List qc}{i:Nat}{q:qc}(hq:l[i]?=some q):((List.range (i+1)).map fun i=>qS i (xH l i))=((List.range i).map fun i=>qS i (xH l i))++[qS i q]:=by
 rw [List.range_succ,List.map_append,List.map_singleton,xT hq]
theorem SJ{p:Pic}(hv:qx p=true)(hF:Y9 p){l:List qc}(hl:l.length<=8)(hs:∀q∈l,qE 1000000 q):DK 21 [yW p,qz l] fun d=>d=zN (wD p l):=by
 refine qD qca rfl xa fun Z0 lo=>?_;have hl8:=(qT hv).1;have hpl:(qp p).length=p.fs.length:=by simp [qp]
 refine qb ?_;intros;refine qk rfl rfl (Ze (zM hv) oM) ?_;rintro _ rfl;refine qb ?_;intros;refine qm (fun m E S nk=>∃i:Nat,i+m=p.fs.length/\E=[(1,qz l),(5,.one (.own 1 0 i 1)),(6,zN (qp p)),(7,.int i)]/\S=[(1,.data (((qp p).take i).map qL))]/\nk=2)
  ⟨p.fs.length,_,_,_,[],?wk,0,oM,rfl,rfl,rfl⟩ ?_
 case wk=>exact ql
 rintro m E S nk ⟨i,hi,rfl,rfl,rfl⟩;refine qb ?_;intros;refine qd rfl (fun ht=>?_) (fun ht=>?_)
 ·have ht:i<p.fs.length:=by have:=xL ht;omega
  have e0:=Zz (p:=p) (i:=i) oM;have e1:=jv e0;have hfew:=wE hv hF i;have hld:(((qp p).take i).map qL).length=i*1:=by rw [List.length_map,List.length_take];omega
  have htk:((qp p).take (i+1)).map qL=((qp p).take i).map qL++[qL (wu p i)]:=by rw [Wi e0,List.map_append];rfl
  refine qb ?_;intros;refine qk rfl rfl (V2 oM) ?_;rintro _ rfl;rw [wT (VN hv i)];refine qb ?_;intros;refine qY (m:=1) (q:=[qL (wu p i)]) rfl rfl rfl (qI _ hld) ⟨rfl,rfl,_,rfl,rfl⟩ oM oM (by decide) rfl ?_;rw [<-htk];refine qb ?_;intros;refine⟨m-1,oM,_,_,_,[(1,3)],?wk1,i+1,oM,rfl,rfl,rfl⟩
  case wk1=>exact ql
 ·have ht:i=p.fs.length:=by have:=xP ht;omega
  subst ht;rw [List.take_of_length_le (by omega)];refine qb ?_;intros;refine qm (fun m E S nk=>∃i:Nat,i+m=l.length/\E=[(1,qz l),(5,.one (.own 1 0 (p.fs.length+i) 1)),(8,.int i)]/\S=[(1,.data ((qp p++(List.range i).map fun i=>qS i (xH l i)).map qL))]/\nk=2)
   ⟨l.length,_,_,_,[],?wk2,0,oM,rfl,rfl,rfl⟩ ?_
  case wk2=>exact⟨ze,⟨congrArg (fun z=>some (Bk.data z)) (by simp),rfl,rfl,trivial⟩,rfl,rfl⟩
  rintro m E S nk ⟨i,hi,rfl,rfl,rfl⟩;refine qb ?_;intros;refine qd rfl (fun ht=>?_) (fun ht=>?_)
  ·have ht:i<l.length:=by have:=xL ht;omega
   obtain⟨q,hq⟩:∃r,l[i]?=some r:=⟨_,zge ht⟩;have e1:=xi hq;have hld:((qp p++(List.range i).map fun i=>qS i (xH l i)).map qL).length=(p.fs.length+i)*1:=by simp [hpl]
   have htk:(qp p++(List.range (i+1)).map fun i=>qS i (xH l i)).map qL=(qp p++(List.range i).map fun i=>qS i (xH l i)).map qL++[qL (qS i q)]:=by
    rw [oL hq,<-List.append_assoc,List.map_append];rfl
   refine qb ?_;intros;refine qk rfl rfl (Zf (i:=i) (q:=q) oM (hs q (zmg hq))) ?_;rintro _ rfl;refine qb ?_;intros;refine qY (m:=1) (q:=[qL (qS i q)]) rfl rfl rfl (qI _ hld) ⟨rfl,rfl,_,rfl,rfl⟩ oM oM (by decide) rfl ?_;rw [<-htk];refine qb ?_;intros;refine⟨m-1,oM,_,_,_,[(1,3)],?wk3,i+1,oM,rfl,rfl,rfl⟩
   case wk3=>exact ql
  ·have ht:i=l.length:=by have:=xP ht;omega
   subst ht;have hld:((qp p++(List.range l.length).map fun i=>qS i (xH l i)).map qL).length=(p.fs.length+l.length)*1:=by simp [hpl]
   refine y6 ?_;refine qu (qe (k:=5) rfl (qy _)) (qe (k:=1) rfl (qy _)) ?_;refine xn 1 rfl qR qR ?_;refine qb ?_;intros;refine qf ⟨_,rfl,rfl,?_⟩;rw [zN,show (wD p l).length=p.fs.length+l.length by simp [wD,hpl]];rfl
theorem tK{p:Pic}{l:List qc}:(wD p l).length=p.fs.length+l.length:=by simp [wD,qp]
end Go.Ag

namespace Go.Ag
open Go.Ab Go.Proofs
def XN(L:List (List qc × Nat)):List (Int × Int × Nat):=L.map fun c=>((hd c.1).1,(hd c.1).2,c.2)
def Wg(L:List (List qc × Nat)):List DC:=L.map fun c=>.f (qL c.1)
def zQ(L:List (List qc × Nat)):List (List qc):=L.map fun c=>c.1
def QL(L:List (List qc × Nat))(clk:Nat):Bk:=.mp (.sm (XN L) clk) (Wg L)
theorem Qs(ρ:List (Nat × Nat))(L:List (List qc × Nat))(clk:Nat):XH ρ (QL L clk)=QL L clk:=by
 have h:∀L:List (List qc × Nat),Vf ρ (Wg L)=Wg L:=by
  intro L;induction L with
  |nil=>rfl
  |cons c L ih=>exact congrArg (DC.f (qL c.1)::·) ih
 simp only [QL,XH,h]
theorem Qq{n:Nat}(L:List (List qc × Nat))(clk:Nat):Wn n (QL L clk)=true:=by
 have h:∀L:List (List qc × Nat),qV (vM n) (Wg L)=true:=by
  intro L;induction L with
  |nil=>rfl
  |cons c L ih=>exact ih
 exact h L
theorem l7{k:qc}{c:List qc}:y5 k c=true↔k.1=(hd c).1/\k.2=(hd c).2:=by
 unfold y5;rw [xV];exact⟨fun h=>by rw [h];exact⟨rfl,rfl⟩,fun h=>Prod.ext h.1.symm h.2.symm⟩
inductive At (L:List (List qc × Nat)) (k:qc):Option Nat->Prop
 |no (h1:QX (zQ L) k=[]) (h2:(zQ L).any (y5 k)=false) (h3:cut (zQ L) k=zQ L):At L k none
 |yes (i:Nat) (c:List qc) (hi:i<L.length) (hc:(Wg L)[i]?=some (.f (qL c))) (h1:QX (zQ L) k=c) (h2:(zQ L).any (y5 k)=true) (h3:zQ (L.eraseIdx i)=cut (zQ L) k) (h4:XN (L.eraseIdx i)=(XN L).eraseIdx i) (h5:Wg (L.eraseIdx i)=(Wg L).eraseIdx i):At L k (some i)
theorem OD(k:qc):∀L:List (List qc × Nat),At L k (w8 k.1 k.2 (XN L))
 |[]=>.no rfl rfl rfl
 |c::L=>by
  have ih:=OD k L;have e:XN (c::L)=((hd c.1).1,(hd c.1).2,c.2)::XN L:=rfl;rw [e,w8];by_cases h:k.1=(hd c.1).1/\k.2=(hd c.1).2
  ·rw [if_pos h];have hh:=l7.2 h;refine .yes 0 c.1 (by simp) rfl ?_ ?_ ?_ rfl rfl
   ·simp only [QX,zQ,List.map_cons,List.find?_cons,hh];rfl
   ·simp only [zQ,List.map_cons,List.any_cons,hh,Bool.true_or]
   ·simp only [cut,zQ,List.map_cons,List.eraseP_cons,hh,List.eraseIdx_zero,List.tail_cons,cond_true]
  ·rw [if_neg h];have hh:y5 k c.1=false:=by
    rw [Bool.eq_false_iff];exact fun h2=>h (l7.1 h2)
   generalize w8 k.1 k.2 (XN L)=o at ih;cases ih with
   |no h1 h2 h3=>
    refine .no ?_ ?_ ?_
    ·simp only [QX,zQ,List.map_cons,List.find?_cons,hh];exact h1
    ·simp only [zQ,List.map_cons,List.any_cons,hh,Bool.false_or];exact h2
    ·simp only [cut,zQ,List.map_cons,List.eraseP_cons,hh,cond_false];exact congrArg (c.1::·) h3
   |yes i x hi hc h1 h2 h3 h4 h5=>
    refine .yes (i+1) x (by simp;omega) (by simpa [Wg] using hc) ?_ ?_ ?_ ?_ ?_
    ·simp only [QX,zQ,List.map_cons,List.find?_cons,hh];exact h1
    ·simp only [zQ,List.map_cons,List.any_cons,hh,Bool.false_or];exact h2
    ·simp only [cut,zQ,List.map_cons,List.eraseP_cons,hh,cond_false,List.eraseIdx_cons_succ];exact congrArg (c.1::·) h3
    ·simp only [List.eraseIdx_cons_succ];exact congrArg (((hd c.1).1,(hd c.1).2,c.2)::·) h4
    ·simp only [List.eraseIdx_cons_succ];exact congrArg (DC.f (qL c.1)::·) h5
section
variable{p:Par}{base rs:Nat}{Q:qq->Bx->Nat->Prop}{r:List SOper}{W:Wt}{A:List Nat}{E:qq}{S:Bx}{nk:Nat}{id:Nat}{dst:Option Nat}{aid:Option Nat}{ws:List Nat}{keep:Bool}
theorem R4 {m k x:Opd} {kb clk:Nat} {c:List qc} {q:qc} {L:List (List qc × Nat)} (hm:ro E m=some (.one (.om kb))) (hk:ro E k=some (zg q)) (hx:ro E x=some (qz c)) (hq:hd c=q) (hb:lk S kb=some (QL L clk)) (hn:(zQ L).any (y5 q)=false) (hW:jD S kb W=true)
 (h:DPW p base rs Q r W A (xk E dst .undef) (put kb (QL (L++[(c,clk)]) (clk+1)) S) nk):DPW p base rs Q (⟨id,dst,.e (.stupd m k x),none,aid,ws,keep⟩::r) W A E S nk:=by
 have ha:=OD q L;have hkf:w8 q.1 q.2 (XN L)=none:=by
  generalize w8 q.1 q.2 (XN L)=o at ha;cases ha with
  |no=>rfl
  |yes i c hi hc h1 h2 h3 h4 h5=>rw [hn] at h2;cases h2
 refine H9 hm hk hx hb hkf hW ?_;have e1:XN (L++[(c,clk)])=XN L++[(q.1,q.2,clk)]:=by simp [XN,hq]
 have e2:Wg (L++[(c,clk)])=Wg L++[.f (qL c)]:=by simp [Wg]
 rw [QL,e1,e2] at h;exact h
theorem rV {ok:Bool} {m k:Opd} {kb clk:Nat} {q:qc} {L:List (List qc × Nat)} (hm:ro E m=some (.one (.om kb))) (hk:ro E k=some (zg q)) (hb:lk S kb=some (QL L clk))
 (h:DPW p base rs Q r W A (xk E dst (okD ok (.f (qL (QX (zQ L) q))) ((zQ L).any (y5 q)))) S nk):DPW p base rs Q (⟨id,dst,.e (.stlook (.one .nils) ok m k),none,aid,ws,keep⟩::r) W A E S nk:=by
 have ha:=OD q L;generalize hkf:w8 q.1 q.2 (XN L)=o at ha;cases ha with
 |no h1 h2 h3=>
  rw [h1,h2] at h;exact uU hm hk hb hkf (fun Z H=>RF.nil 2) h
 |yes i c hi hc h1 h2 h3 h4 h5=>
  rw [h1,h2] at h;exact EA hm hk hb hkf (by simpa [XN] using hi) hc h
theorem rU {m k:Opd} {kb clk:Nat} {q:qc} {L:List (List qc × Nat)} (hm:ro E m=some (.one (.om kb))) (hk:ro E k=some (zg q)) (hb:lk S kb=some (QL L clk)) (hn:(zQ L).any (y5 q)=true) (hW:jD S kb W=true)
 (h:∀L',zQ L'=cut (zQ L) q->DPW p base rs Q r W A (xk E dst .undef) (put kb (QL L' clk) S) nk):DPW p base rs Q (⟨id,dst,.e (.stdel m k),none,aid,ws,keep⟩::r) W A E S nk:=by
 have ha:=OD q L;generalize hkf:w8 q.1 q.2 (XN L)=o at ha;cases ha with
 |no h1 h2 h3=>rw [hn] at h2;cases h2
 |yes i c hi hc h1 h2 h3 h4 h5=>
  refine IB hm hk hb hkf hW ?_;have h:=h (L.eraseIdx i) h3;rw [QL,h4,h5] at h;exact h
theorem rS {m:Opd} {kb clk:Nat} {L:List (List qc × Nat)} (hm:ro E m=some (.one (.om kb))) (hb:lk S kb=some (QL L clk))
 (h:DPW p base rs Q r W A (xk E dst (.int (zQ L).length)) S nk):DPW p base rs Q (⟨id,dst,.e (.stlen m),none,aid,ws,keep⟩::r) W A E S nk:=by
 refine IA hm hb ?_;rw [show (XN L).length=(zQ L).length by simp [XN,zQ]];exact h
end
end Go.Ag

namespace Go.Ag
open Go.Ab Go.Proofs
theorem r6{a b:List qc}(hn:a.length<1000000000)(hm:b.length<1000000000):DK 41 [qz a,qz b] fun d=>d=.bool (decide (a=b)):=by
 refine qD qbT rfl xa fun Z0 lo=>?_;refine qb ?_;intros;refine qd rfl (fun ht=>?_) (fun ht=>?_)
 ·refine qb ?_;intros;refine qf ⟨_,rfl,rfl,?_⟩;rw [decide_eq_false];intro e;subst e;simp at ht
 ·have hl:a.length=b.length:=by
   have:((a.length:Int))=b.length:=by simpa using ht
   omega
  refine qb ?_;intros;refine qm (fun m E S nk=>∃k:Nat,k+m=a.length/\a.take k=b.take k/\E=[(0,qz a),(1,qz b),(12,.int a.length),(13,.int k)]/\S=[]/\nk=0) ⟨a.length,_,_,_,[],?wk,0,by omega,by simp,rfl,rfl,rfl⟩ ?_
  case wk=>exact ql
  rintro m E S nk ⟨k,hk,htk,rfl,rfl,rfl⟩;refine qb ?_;intros;refine qd rfl (fun hi=>?_) (fun hi=>?_)
  ·have hi:k<a.length:=by have:=xL hi;omega
   obtain⟨p,hp⟩:∃q,a[k]?=some q:=⟨_,zge hi⟩;obtain⟨q,hq⟩:∃q,b[k]?=some q:=⟨_,zge oM⟩;have e1:=xi hp;have e2:=xi hq;refine qb ?_;intros;refine zJ (ve (p:=p) (q:=q) rfl rfl) ?_;refine qb ?_;intros;refine qd rfl (fun he=>?_) (fun he=>?_)
   ·refine qb ?_;intros;refine qf ⟨_,rfl,rfl,?_⟩;rw [decide_eq_false];intro e;subst e;rw [hp] at hq;obtain rfl:=zsi hq;simp at he
   ·have he:p=q:=by simpa using he
    subst he;refine qb ?_;intros;refine⟨m-1,oM,_,_,_,[],?wk1,k+1,oM,?_,rfl,rfl,rfl⟩
    case wk1=>exact ql
    rw [List.take_add_one,List.take_add_one,hp,hq,htk]
  ·have hi:k=a.length:=by have:=xP hi;omega
   subst hi;refine qb ?_;intros;refine qf ⟨_,rfl,rfl,?_⟩;rw [List.take_length,hl,List.take_length] at htk;rw [decide_eq_true htk]
def qud(i:Nat)(cs:List (List qc))(L:List (List qc × Nat))(clk:Nat)(T:List FD)(d:DV)(S':Bx)(nk:Nat):Prop:=((∃c L',Ym i cs (zQ L)=some c/\zQ L'=cut (zQ L) (hd c)/\d=.tup [zg (Qz (hd c)),.bool true]/\S'=[(0,QL L' clk),(1,.data T)]/\nk=4)\/(Ym i cs (zQ L)=none/\d=.tup [zg (0,0),.bool false]/\S'=[(0,QL L clk),(1,.data T)]/\nk=3))
theorem fD{i:Nat}{cs L:List (List qc)}{k:Nat}{c:List qc}(hc:cs[k]?=some c)(h:(cs.take k).find? (ww i L)=none)(hn:ww i L c=false):(cs.take (k+1)).find? (ww i L)=none:=by
 rw [List.take_add_one,hc,List.find?_append,h];simp [hn]
theorem DL{i:Nat}{cs L:List (List qc)}{k:Nat}{c:List qc}(hc:cs[k]?=some c)(h:(cs.take k).find? (ww i L)=none)(hn:ww i L c=true):Ym i cs L=some c:=by
 have hk:=(zgs hc).1;have e:cs=cs.take k++c::cs.drop (k+1):=by
  rw [<-(zgs hc).2,List.getElem_cons_drop,List.take_append_drop]
 unfold Ym;rw [e,List.find?_append,h];simp [hn]
theorem T9{i clk:Nat}{cs:List (List qc)}{L:List (List qc × Nat)}{T:List FD}(hi:i<8)(hn:cs.length<1000000)(hcs:∀c∈cs,c≠[]/\c.length<1000000/\∀q∈c,zP q=true):ZX 42 [.int i,zN cs,.one (.om 0)] [(0,QL L clk),(1,.data T)] 2 (qud i cs L clk T):=by
 refine vb qbS rfl fun Z β H lo=>?_;refine qb ?_;intros;refine qm (fun m E S nk=>∃k:Nat,k+m=cs.length/\(cs.take k).find? (ww i (zQ L))=none/\E=[(0,.int i),(2,.one (.om 0)),(6,.one (.ptr 2 0)),(13,zN cs),(14,.int cs.length),(15,.int k)]/\S=[(2,.cells [.f (.c (.int .i64 0)),.f (.c (.int .i64 0))]),(0,QL L clk),(1,.data T)]/\nk=3)
  ⟨cs.length,_,_,_,[],?wk,0,oM,rfl,rfl,rfl,rfl⟩ ?_
 case wk=>exact⟨ze,⟨rfl,rfl,rfl,by rw [Qs];rfl,Qq _ _,rfl,rfl,rfl,rfl,trivial⟩,rfl,rfl⟩
 rintro m E S nk ⟨k,hk,hnf,rfl,rfl,rfl⟩;refine qb ?_;intros;refine qd rfl (fun ht=>?_) (fun ht=>?_)
 ·have ht:k<cs.length:=by have:=xL ht;omega
  obtain⟨c,hc⟩:∃c,cs[k]?=some c:=⟨_,zge ht⟩;obtain⟨hne,hcl,h60⟩:=hcs c (zmg hc);have e1:=jv hc;have hq:c[0]?=some (hd c):=by
   obtain⟨a,t,rfl⟩:=List.exists_cons_of_ne_nil hne;rfl
  have hc0:=(zgs hq).1;have e2:=xi hq;have hq60:=h60 _ (zmg hq);simp only [zP,xD,xV] at hq60;have w1:IntKind.i64.wrap ((hd c).1.tdiv 2)=(hd c).1.tdiv 2:=by rw [Int.tdiv_eq_ediv_of_nonneg (by omega)];exact qo (by omega) (by omega)
  have w2:IntKind.i64.wrap ((hd c).2.tdiv 3)=(hd c).2.tdiv 3:=by rw [Int.tdiv_eq_ediv_of_nonneg (by omega)];exact qo (by omega) (by omega)
  have hat:qE 1000000 (Qz (hd c)):=by
   unfold qE Qz;simp only;rw [Int.tdiv_eq_ediv_of_nonneg (by omega),Int.tdiv_eq_ediv_of_nonneg (by omega)];omega
  have hll:=z7 i (Qz (hd c));refine qb ?_;intros;refine rV rfl rfl rfl ?_;cases hany:(zQ L).any (y5 (hd c)) with
  |false=>
   have hnl:ww i (zQ L) c=false:=by rw [ww,hany,Bool.false_and]
   refine qb ?_;intros;refine qd rfl (fun _=>?_) (fun h=>by cases h);refine qb ?_;intros;refine⟨m-1,oM,_,_,_,[],?wk1,k+1,oM,fD hc hnf hnl,rfl,rfl,rfl⟩
   case wk1=>exact⟨ze,⟨rfl,rfl,rfl,by rw [Qs];rfl,Qq _ _,rfl,rfl,rfl,rfl,trivial⟩,rfl,rfl⟩
  |true=>
   refine qb ?_;intros;refine qd rfl (fun h=>by cases h) (fun _=>?_);refine qb ?_;intros;rw [w1,w2];refine qk rfl rfl (XR (i:=i) (q:=Qz (hd c)) hi hat) ?_;rintro _ rfl;refine qb ?_;intros;refine qk rfl rfl (r6 (a:=c) (b:=qS i (Qz (hd c))) oM oM) ?_;rintro _ rfl;by_cases heq:c=qS i (Qz (hd c))
   ·have hyl:ww i (zQ L) c=true:=by rw [ww,hany,decide_eq_true heq];rfl
    rw [decide_eq_true heq];refine qb ?_;intros;refine qd rfl (fun _=>?_) (fun h=>by cases h);refine qb ?_;intros;refine rU rfl rfl rfl hany rfl (fun L' hL'=>?_);refine qb ?_;intros;exact qf ⟨_,rfl,rfl,_,qe rfl (qe rfl (qy _)),.inl ⟨c,L',DL hc hnf hyl,hL',rfl,rfl,rfl⟩⟩
   ·have hnl:ww i (zQ L) c=false:=by rw [ww,hany,decide_eq_false heq];rfl
    rw [decide_eq_false heq];refine qb ?_;intros;refine qd rfl (fun h=>by cases h) (fun _=>?_);refine qb ?_;intros;refine⟨m-1,oM,_,_,_,[],?wk2,k+1,oM,fD hc hnf hnl,rfl,rfl,rfl⟩
    case wk2=>exact⟨ze,⟨rfl,rfl,rfl,by rw [Qs];rfl,Qq _ _,rfl,rfl,rfl,rfl,trivial⟩,rfl,rfl⟩
 ·have ht:k=cs.length:=by have:=xP ht;omega
  subst ht;rw [List.take_length] at hnf;refine qb ?_;intros;exact qf ⟨_,rfl,rfl,_,qe rfl (qe rfl (qy _)),.inr ⟨hnf,rfl,rfl,rfl⟩⟩
theorem ClS.count{g:Int}{l:List qc}{cs:List (List qc)}(hl:qJ l)(h:ClS g l cs):cs.length<=l.length/\∀c∈cs,c.length<=l.length:=by
 constructor
 ·have:=wA (h.heads hl).nodup (b:=l) fun x hx=>by
   obtain⟨c,hc,rfl⟩:=List.mem_map.1 hx;obtain⟨p,t,hpt,_⟩:=h.first hl c hc;rw [hpt];exact h.mem c hc p (by rw [hpt];simp)
  simpa using this
 ·intro c hc;exact wA (h.rows c hc).nodup (h.mem c hc)
theorem IN{cs:List (List qc)}(hl:cs.length<1000000)(hr:∀c∈cs,c.length<1000000):DK 23 [zN cs,zN cs] fun d=>d=.bool true:=by
 refine qD qb8 rfl xa fun Z0 lo=>?_;have g0:=GU (cs.length:Int);refine qU ?_;intros;refine qd rfl (fun h=>by cases h) (fun _=>?_);refine qb ?_;intros;refine qm (fun m E S nk=>∃k:Nat,k+m=cs.length/\E=[(0,zN cs),(1,zN cs),(5,.int k)]/\S=[]/\nk=0) ⟨cs.length,_,_,_,[],?wk,0,oM,rfl,rfl,rfl⟩ ?_
 case wk=>exact ql
 rintro m E S nk ⟨k,hk,rfl,rfl,rfl⟩;refine qb ?_;intros;refine qd rfl (fun ht=>?_) (fun ht=>?_)
 ·simp at ht;obtain⟨c,hc⟩:∃c,cs[k]?=some c:=⟨_,zge oM⟩;have e1:=jv hc;have hcl:=hr c (zmg hc);refine qb ?_;intros;refine qk (ds:=[qz c,qz c]) rfl rfl (EO (l:=c) (r:=c) oM) ?_;rintro _ rfl;rw [decide_eq_true rfl];refine qb ?_;intros;refine qd rfl (fun h=>by cases h) (fun _=>?_);refine qb ?_;intros;refine⟨m-1,oM,_,_,_,[],?wk1,k+1,oM,rfl,rfl,rfl⟩
  case wk1=>exact ql
 ·refine qb ?_;intros;exact qf ⟨_,rfl,rfl,rfl⟩
theorem EQ{w h:Nat}{d:qK}{gap:Int}(hw:w<=200)(hh:h<=200)(hd:Sz w h d):DK 20 [jX w h d,.int gap] fun r=>∃cs,r=zN cs/\ClS (min (max gap 0) 2000) (xM d w h) cs:=by
 refine qD qcb rfl xa fun Z0 lo=>?_;have hpl:(xM d w h).length<=h*w:=kp d w h;have hhw:h*w<=200*200:=Nat.mul_le_mul hh hw;refine qb ?_;intros;refine qk rfl rfl (EW hw hh hd) ?_;rintro _ rfl;refine qb ?_;intros;refine qk rfl rfl (cH (fun q hq=>?_) oM) ?_
 ·obtain⟨x,y,hx,hy,_,rfl⟩:=ko.1 hq;unfold qE;simp only;omega
 rintro _ ⟨cs,rfl,hcs⟩;rw [wT (jQ d w h)] at hcs;refine qb ?_;intros;exact qf ⟨_,rfl,rfl,cs,rfl,hcs⟩
inductive ShwR (p:Pic) (w h:Nat) (d:qK):Bool->Prop
 |chk (r:oB) (hr:Chk p r) (hne:r.2.2≠0):ShwR p w h d false
 |size (hne:¬((w:Int)=p.w/\(h:Int)=p.h)):ShwR p w h d false
 |cl (hv:qx p=true) (h1:jK p.gap (qp p)) (h2:jJ p.gap (qp p)) (hw:(w:Int)=p.w) (hh:(h:Int)=p.h) (cs:List (List qc)) (hcs:ClS p.gap (xM d w h) cs):ShwR p w h d (wd p cs)
theorem S7{L:List (List qc)}{k:qc}:QX L k=[]\/QX L k∈L:=by
 unfold QX;cases hf:L.find? (y5 k) with
 |none=>exact .inl rfl
 |some c=>exact .inr (List.mem_of_find?_eq_some hf)
theorem TB{L:List (List qc)}{k:qc}(h:QX L k≠[]):L.any (y5 k)=true:=by
 unfold QX at h;cases hf:L.find? (y5 k) with
 |none=>rw [hf] at h;exact absurd rfl h
 |some c=>exact List.any_eq_true.2 ⟨c,List.mem_of_find?_eq_some hf,List.find?_some hf⟩
theorem rY{α:Type}{l:List α}{i:Nat}{a:α}(h:l[i]?=some a):l.drop i=a::l.drop (i+1):=by
 rw [<-(zgs h).2,List.getElem_cons_drop]
theorem s6{a:List qc}{l L:List (List qc)}(h:QX L (hd a)=a):wU (a::l) L=wU l (cut L (hd a)):=by
 rw [wU,if_pos h]
theorem F6{a:List qc}{l L:List (List qc)}(h:¬QX L (hd a)=a):wU (a::l) L=none:=by
 rw [wU,if_neg h]
theorem TA{cs:List (List qc)}(hc:Heads cs)(hn:cs.Nodup){k:Nat}{c:List qc}(h:cs[k]?=some c):(cs.take k).any (y5 (hd c))=false:=by
 rw [Bool.eq_false_iff];intro h2;obtain⟨d,h3,h4⟩:=List.any_eq_true.1 h2;have e:=hc.inj d (List.mem_of_mem_take h3) c (zmg h) (by simpa [y5] using h4);subst e;obtain⟨j,hj⟩:=List.getElem?_of_mem h3;rw [List.getElem?_take] at hj;split at hj
 ·rename_i hjk;have h5:=(zgs hj);have h6:=(zgs h);exact (List.pairwise_iff_getElem.1 hn j k h5.1 h6.1 hjk) (h5.2.trans h6.2.symm)
 ·cases hj
theorem gB{c:List qc}(h:c≠[]):c[0]?=some (hd c):=by
 obtain⟨a,t,rfl⟩:=List.exists_cons_of_ne_nil h;rfl
theorem Y2{p:Pic}(hFi:Xr p)(hFe:Y9 p){w h:Nat}{d:qK}(hw:w<=200)(hh:h<=200)(hdz:Sz w h d):DK 14 [yW p,jX w h d] fun r=>∃b,ShwR p w h d b/\r=.bool b:=by
 refine qD qcg rfl xa fun Z0 lo=>?_;refine qb ?_;intros;refine qk rfl rfl (r8 hFi hFe) ?_;rintro _ ⟨r,hr,rfl⟩;refine qb ?_;intros;refine qd rfl (fun ht=>?_) (fun ht=>?_)
 ·refine qb ?_;intros;exact qf ⟨_,rfl,rfl,_,.chk r hr (by simpa using ht),rfl⟩
 ·have h0:r.2.2=0:=by simpa using ht
  have hv:qx p=true:=by
   cases hr with
   |arg h=>cases h0
   |bad1 i h hb=>exact h
   |bad2 i k h hg hb=>exact h
   |ok h hg hb=>exact h
  obtain⟨hg1,hg2⟩:=(hr.ok_iff hv).1 h0;have hl8:=(qT hv).1;have hgap:2<=p.gap/\p.gap<=6:=by
   have:=(qT hv).2.2.2;simp only [jF,xD,xV] at this;exact this.1
  clear hr ht h0;refine qb ?_;intros;refine qk rfl rfl (nH hw hh hdz) ?_;rintro _ rfl;by_cases e1:(w:Int)=p.w
  ·have b1:((w:Int)!=p.w)=false:=by simpa using e1
   by_cases e2:(h:Int)=p.h
   ·have b2:((h:Int)!=p.h)=false:=by simpa using e2
    refine qU ?_;intros;refine qd rfl (fun h=>by cases h) (fun _=>?_);clear b1 b2;refine qb ?_;intros;refine qk rfl rfl (EQ hw hh hdz) ?_;rintro _ ⟨cs,rfl,hcs⟩;rw [show min (max p.gap 0) 2000=p.gap by omega] at hcs;refine qb ?_;intros;refine R8 ?_;refine qb ?_;intros;have hD:=jQ d w h;have hH:=hcs.hds hD;have hnd:=hcs.nodup hD;have hpl:(xM d w h).length<=h*w:=kp d w h;have hhw:h*w<=200*200:=Nat.mul_le_mul hh hw;obtain⟨hcl,hcc⟩:=hcs.count hD;have hh60:=(qT hv).2.2.1;simp only [yz,xD,xV] at hh60;obtain⟨⟨⟨hw1,hw2⟩,_⟩,⟨hh1,hh2⟩,_⟩:=hh60;have hcsb:∀c∈cs,c≠[]/\c.length<1000000/\∀q∈c,zP q=true:=fun c hc=>by
     refine⟨hH.ne c hc,by have:=hcc c hc;omega,fun q hq=>?_⟩;obtain⟨x,y,hx,hy,_,rfl⟩:=ko.1 (hcs.mem c hc q hq);simp only [zP,xD,xV];omega
    refine kr 0 (fs:=yZ p) rfl ?_;refine qm (fun m E S nk=>∃(k:Nat) (L:List (List qc × Nat)),k+m=cs.length/\zQ L=cs.take k/\E=[(2,.one (.fptr (yZ p))),(8,zN cs),(9,.one (.om 0)),(49,zN cs),(50,.int cs.length),(51,.int k)]/\S=[(0,QL L k)]/\nk=1)
     ⟨cs.length,_,_,_,[(0,2)],?wk0,0,[],oM,rfl,rfl,rfl,rfl⟩ ?_
    case wk0=>exact ql
    rintro m E S nk ⟨k,L,hk,hL,rfl,rfl,rfl⟩;refine qb ?_;intros;refine qd rfl (fun ht=>?_) (fun ht=>?_)
    ·have ht:k<cs.length:=by have:=xL ht;omega
     obtain⟨c,hc⟩:∃c,cs[k]?=some c:=⟨_,zge ht⟩;have hne:=hH.ne c (zmg hc);have e3:=jv hc;have e4:=xi (gB hne);have hc0:=(zgs (gB hne)).1;refine qb ?_;intros;refine R4 (c:=c) rfl rfl rfl rfl rfl (by rw [hL];exact TA hH hnd hc) rfl ?_;refine qb ?_;intros;refine⟨m-1,oM,_,_,_,[],?wk1,k+1,L++[(c,k)],oM,?_,rfl,rfl,rfl⟩
     case wk1=>exact⟨ze,⟨by rw [Qs];rfl,Qq _ _,rfl,trivial⟩,rfl,rfl⟩
     rw [show zQ (L++[(c,k)])=zQ L++[c] by simp [zQ],hL,List.take_add_one,hc];rfl
    ·have ht:k=cs.length:=by have:=xP ht;omega
     subst ht;rw [List.take_length] at hL;refine qb ?_;intros;refine qm (fun m E S nk=>∃(i:Nat) (L:List (List qc × Nat)),i+m=p.fs.length/\wU (qp p) cs=wU ((qp p).drop i) (zQ L)/\Left cs (zQ L)/\E=[(2,.one (.fptr (yZ p))),(8,zN cs),(9,.one (.om 0)),(62,.one (.f (.sl 3 p.fs.length (p.fs.flatMap zt)))),(63,.int p.fs.length),(64,.int i)]/\S=[(0,QL L cs.length)]/\nk=1)
      ⟨p.fs.length,_,_,_,[],?wk2,0,L,by omega,by rw [hL];rfl,by rw [hL];exact⟨fun _ h=>h,hnd⟩,rfl,rfl,rfl⟩ ?_
     case wk2=>exact⟨ze,⟨by rw [Qs];rfl,Qq _ _,rfl,trivial⟩,rfl,rfl⟩
     clear hL L;rintro m E S nk ⟨i,L,hi,hsh,hLf,rfl,rfl,rfl⟩;refine qb ?_;intros;refine qd rfl (fun ht=>?_) (fun ht=>?_)
     ·have ht:i<p.fs.length:=by have:=xL ht;omega
      obtain⟨f,hf⟩:∃f,p.fs[i]?=some f:=⟨_,zge ht⟩;have e3:=ZK hf;have hvf:=zM hv f (zmg hf);have hpi:(qp p)[i]?=some (xd f):=by rw [qp,List.getElem?_map,hf];rfl
      have hne:=wY hv _ (zmg hpi);have hlf:(xd f).length<=3600:=Xv hvf;have hpt:=JG hvf;have e4:=xi (gB hne);have hc0:=(zgs (gB hne)).1;generalize xd f=a at *;have hal:(QX (zQ L) (hd a)).length<1000000000:=by
       rcases S7 (L:=zQ L) (k:=hd a) with h1|h1
       ·rw [h1];decide
       ·have:=hcc _ (hLf.sub _ h1);omega
      refine qb ?_;intros;refine qk rfl rfl hpt ?_;rintro _ rfl;refine qb ?_;intros;refine rV rfl rfl rfl ?_;refine qb ?_;intros;refine qk rfl rfl (r6 (a:=QX (zQ L) (hd a)) (b:=a) hal oM) ?_;rintro _ rfl;by_cases heq:QX (zQ L) (hd a)=a
      ·rw [decide_eq_true heq];refine qb ?_;intros;refine qd rfl (fun h=>by cases h) (fun _=>?_);refine qb ?_;intros;refine rU rfl rfl rfl (TB (by rw [heq];exact hne)) rfl (fun L' hL'=>?_);refine qb ?_;intros;refine⟨m-1,oM,_,_,_,[],?wk3,i+1,L',oM,?_,?_,rfl,rfl,rfl⟩
       case wk3=>exact⟨ze,⟨by rw [Qs];rfl,Qq _ _,rfl,trivial⟩,rfl,rfl⟩
       ·rw [hsh,rY hpi,s6 heq,hL']
       ·rw [hL'];exact (Zq hH hLf ((dN hH hLf hne).1 heq)).2
      ·rw [decide_eq_false heq];refine qb ?_;intros;refine qd rfl (fun _=>?_) (fun h=>by cases h);refine qb ?_;intros;refine qf ⟨_,rfl,rfl,wd p cs,.cl hv hg1 hg2 e1 e2 cs hcs,?_⟩;rw [wd,hsh,rY hpi,F6 heq]
     ·have ht:i=p.fs.length:=by have:=xP ht;omega
      subst ht;have hpl2:(qp p).length=p.fs.length:=by simp [qp]
      rw [List.drop_of_length_le (by omega),wU] at hsh;refine qb ?_;intros;refine vD 15 2 rfl ?_;refine qm (fun m E S nk=>∃(i:Nat) (L':List (List qc × Nat)) (ps:List qc),i+m=p.fs.length/\vj p.fs.length 0 cs (zQ L) []=vj m i cs (zQ L') ps/\Left cs (zQ L')/\(ps.length=i/\∀q∈ps,qE 1000000 q)/\E=[(2,.one (.fptr (yZ p))),(8,zN cs),(9,.one (.om 0)),(15,.one (.own 1 0 ps.length 2)),(85,.int p.fs.length),(86,.int i)]/\S=[(0,QL L' cs.length),(1,.data (ps.flatMap qh))]/\nk=2)
       ⟨p.fs.length,_,_,_,[],?wk4,0,L,[],by omega,rfl,hLf,⟨rfl,by simp⟩,rfl,rfl,rfl⟩ ?_
      case wk4=>exact⟨ze,⟨by rw [Qs];rfl,Qq _ _,rfl,rfl,rfl,rfl,trivial⟩,rfl,rfl⟩
      rintro m E S nk ⟨i,L',ps,hi,hsl,hLf',⟨hpi,hps⟩,rfl,rfl,rfl⟩;have hpd:=xc ps;refine qb ?_;intros;refine qd rfl (fun ht=>?_) (fun ht=>?_)
      ·have ht:i<p.fs.length:=by have:=xL ht;omega
       obtain⟨m',rfl⟩:∃m',m=m'+1:=⟨m-1,oM⟩;refine qb ?_;intros;refine vC rfl rfl rfl (T9 (i:=i) oM oM hcsb _ _ _ _ _) ?_;rintro d' S' nk' (⟨c,L2,hfc,hL2,rfl,rfl,rfl⟩|⟨hfc,rfl,rfl,rfl⟩)
       ·have hcm:=List.mem_of_find?_eq_some hfc;obtain⟨hcL,_⟩:=(Yk hH hLf' hcm).1 (List.find?_some hfc);have hq60:=(hcsb c hcm).2.2 _ (l6 (hH.ne c hcm));have hsm:qE 1000000 (Qz (hd c)):=by
         simp only [zP,xD,xV] at hq60;unfold qE Qz;simp only;rw [Int.tdiv_eq_ediv_of_nonneg (by omega),Int.tdiv_eq_ediv_of_nonneg (by omega)];omega
        refine qb ?_;intros;refine qd rfl (fun h=>by cases h) (fun _=>?_);refine qb ?_;intros;refine qY (m:=1) (q:=qh (Qz (hd c))) rfl rfl rfl (qI _ hpd) ⟨rfl,rfl,_,rfl,rfl⟩ oM oM (by decide) rfl ?_;refine qb ?_;intros;refine⟨m',by omega,_,_,_,[(1,6)],?wk5,i+1,L2,ps++[Qz (hd c)],by omega,?_,?_,⟨by rw [List.length_append,hpi];rfl,fun q hq=>?_⟩,rfl,rfl,rfl⟩
        case wk5=>exact⟨(by repeat (first|exact trivial|refine⟨by first|rfl|exact cgI (by omega) (by omega)|exact congrArg (fun z=>some (DV.one (.own 6 0 z 2))) (by simp),rfl,?_⟩)),⟨by rw [Qs];rfl,Qq _ _,rfl,congrArg (fun z=>some (Bk.data z)) (by simp),rfl,rfl,trivial⟩,rfl,rfl⟩
        ·rw [hsl,vj,hfc,hL2]
        ·rw [hL2];exact (Zq hH hLf' hcL).2
        ·rcases List.mem_append.1 hq with hq|hq
         ·exact hps q hq
         ·rw [List.mem_singleton] at hq;rw [hq];exact hsm
       ·refine qb ?_;intros;refine qd rfl (fun _=>?_) (fun h=>by cases h);refine qb ?_;intros;refine qf ⟨_,rfl,rfl,wd p cs,.cl hv hg1 hg2 e1 e2 cs hcs,?_⟩;rw [wd,hsh];simp only;rw [hsl,vj,hfc]
      ·have ht:i=p.fs.length:=by have:=xP ht;omega
       obtain rfl:m=0:=by omega
       rw [vj] at hsl;have hshow:wd p cs=((zQ L').isEmpty&&yQ p ps):=by
        rw [wd,hsh];simp only;rw [hsl]
       have hlg:=SN (p:=p) (l:=ps) hFi hFe hps;rw [hv,Bool.true_and] at hlg;cases hLe:zQ L' with
       |nil=>
        have b3:(((zQ L').length:Int)==0)=true:=by rw [hLe];rfl
        rw [hLe] at hshow;refine qb ?_;intros;refine rS rfl rfl ?_;refine qU ?_;intros;refine yB (qe (k:=106) rfl (qe (k:=107) rfl (qe (k:=108) rfl (qy _)))) (qe (k:=1) rfl (qy _)) ?_;refine XQ 1 rfl qR qR ?_;refine qk rfl rfl hlg ?_;rintro _ rfl;refine qb ?_;intros;refine qf ⟨_,rfl,rfl,wd p cs,.cl hv hg1 hg2 e1 e2 cs hcs,?_⟩;rw [hshow];rfl
       |cons c0 t0=>
        have b3:(((zQ L').length:Int)==0)=false:=by rw [hLe];simp;omega
        rw [hLe] at hshow;refine qb ?_;intros;refine rS rfl rfl ?_;refine qU ?_;intros;refine qf ⟨_,rfl,rfl,wd p cs,.cl hv hg1 hg2 e1 e2 cs hcs,?_⟩;rw [hshow];rfl
   ·have b2:((h:Int)!=p.h)=true:=by simpa using e2
    refine qU ?_;intros;refine qd rfl (fun _=>?_) (fun h=>by cases h);refine qb ?_;intros;exact qf ⟨_,rfl,rfl,_,.size (fun e=>e2 e.2),rfl⟩
  ·have b1:((w:Int)!=p.w)=true:=by simpa using e1
   refine qU ?_;intros;refine qd rfl (fun _=>?_) (fun h=>by cases h);refine qb ?_;intros;exact qf ⟨_,rfl,rfl,_,.size (fun e=>e1 e.1),rfl⟩
def gJ(p:Pic)(d:qK):Prop:=qx p=true/\jK p.gap (qp p)/\jJ p.gap (qp p)/\∃l,yQ p l=true/\Xg p (qC p l p.fs.length)=d
theorem ShwR.iff{p:Pic}{d:qK}{w h:Nat}(hw:(w:Int)=p.w)(hh:(h:Int)=p.h)(hd:Sz w h d){b:Bool}(hb:ShwR p w h d b):b=true↔gJ p d:=by
 cases hb with
 |chk r hr hne=>exact⟨(fun h=>by cases h),fun h=>absurd ((hr.ok_iff h.1).2 ⟨h.2.1,h.2.2.1⟩) hne⟩
 |size hne=>exact absurd ⟨hw,hh⟩ hne
 |cl hv h1 h2 _ _ cs hcs=>
  have ew:p.w.toNat=w:=by omega
  have eh:p.h.toNat=h:=by omega
  rw [BV hv (jQ _ _ _) hcs h1 h2];constructor
  ·rintro ⟨l,hl,he⟩;refine⟨hv,h1,h2,l,hl,?_⟩;rw [<-ew,<-eh] at hd he;exact (VL hv hd hl).1 he
  ·rintro ⟨_,_,_,l,hl,he⟩;refine⟨l,hl,?_⟩;rw [<-ew,<-eh] at hd ⊢;exact (VL hv hd hl).2 he
def Qp(l:List qc):Pic:=⟨20,18,2,l.map Jf⟩
theorem fJ{l:List qc}(hn:l.length<1000):DK 28 [qz l] fun d=>d=yW (Qp l):=by
 refine qD qb3 rfl xa fun Z0 lo=>?_;refine qb ?_;intros;refine V0 1 3 3 rfl rfl ?_;refine qm (fun m E S nk=>∃(i:Nat) (out:List Ft),i+m=l.length/\out=(l.take i).map Jf/\E=[(0,qz l),(2,.one (.ptr 0 0)),(3,.one (.ptr 1 0)),(4,.int i)]/\
  S=[(0,.cells [.f (.c (.int .i64 0)),.f (.c (.int .i64 0)),.f (.c (.int .i64 0)),.f (.c .nils)]),(1,.cells [.f (.c (.int .i64 20)),.f (.c (.int .i64 18)),.f (.c (.int .i64 2)),.own 2 0 out.length 3]),(2,.data (out.flatMap zt))]/\nk=3)
  ⟨l.length,_,_,_,[],?wk,0,[],oM,rfl,rfl,rfl,rfl⟩ ?_
 case wk=>exact ql
 rintro m E S nk ⟨i,out,hi,ho,rfl,rfl,rfl⟩;refine qb ?_;intros;refine qd rfl (fun hi2=>?_) (fun hi2=>?_)
 ·have hi2:i<l.length:=by have:=xL hi2;omega
  obtain⟨q,hq⟩:∃q,l[i]?=some q:=⟨_,zge hi2⟩;have e1:=xi hq;have hol:out.length=i:=by rw [ho,List.length_map,List.length_take];omega
  have hfl:=KN out
  iterate 12 (first|(refine Zm rfl rfl ?_)|(refine Zn rfl rfl ?_)|(refine ZO rfl ?_)|(refine ZP rfl rfl ?_)|(refine ZQ rfl rfl ?_)|(refine Y0 rfl Qy Qy ?_)|(refine W1 rfl rfl ?_)|(refine W0 rfl rfl ?_)|(refine zJ rfl ?_)|(refine jG rfl ?_)|(refine jy rfl ?_)|(refine cA rfl Qy ?_)|(refine cB rfl Qy ?_)|(refine W3 rfl rfl oM oM ?_)|(refine W4 rfl rfl oM oM ?_)|(refine W2 rfl rfl oM oM ?_)|(refine W5 rfl rfl oM (by decide) aM ?_)|(refine zU rfl rfl oM (by decide) aM ?_)|(refine jG (jf rfl rfl aM rfl) ?_)|(refine jy (jf rfl rfl aM rfl) ?_)|(refine jG (jd rfl rfl aM) ?_)|(refine jy (jd rfl rfl aM) ?_)|(refine jG (je rfl rfl aM aM) ?_)|(refine jy (je rfl rfl aM aM) ?_)|(refine Xm rfl ?_)|(refine cE rfl rfl rfl ?_)|(refine vB rfl rfl rfl rfl rfl (Nat.le_of_ble_eq_true rfl) rfl ?_)|(refine yA ?_)|(refine jp ?_)|(refine jq j3 (fun base=>?_))|(refine Xn ?_)|(refine Qi ?_)|(refine y6 ?_))
  have hq2:(qh q).length=1*2:=rfl;refine XQ 3 rfl qR qR ?_;refine qb ?_;intros;refine qY (m:=1) (q:=zt (Jf q)) rfl rfl rfl (qI _ hfl) ⟨rfl,rfl,_,rfl,rfl⟩ oM oM (by decide) rfl ?_;rw [show out.flatMap zt++zt (Jf q)=(out++[Jf q]).flatMap zt by simp,show out.length+1=(out++[Jf q]).length by simp];refine qb ?_;intros;refine⟨m-1,by omega,_,_,_,[(2,5)],?wk1,i+1,out++[Jf q],by omega,by rw [List.take_add_one,hq,ho];simp,rfl,rfl,rfl⟩
  case wk1=>exact ql
 ·have hi2:i=l.length:=by have:=xP hi2;omega
  subst hi2;rw [List.take_length] at ho;have hfl:=KN out;refine qb ?_;intros;refine qu (qe (k:=2) rfl (qy _)) (qe (k:=0) rfl (qe (k:=2) rfl (qy _))) ?_;refine xn 2 rfl qR qR ?_;refine qf ⟨_,rfl,rfl,?_⟩;rw [Qp,<-ho];rfl
theorem qa0{cs:List (List qc)}{a:List qc}(hn:cs.length<1000000)(hc:∀c∈cs,c.length<1000000):DK 22 [zN cs,qz a] fun d=>d=.bool (decide (a∈cs)):=by
 refine qD qb9 rfl xa fun Z0 lo=>?_;refine qb ?_;intros;refine qm (fun m E S nk=>∃k:Nat,k+m=cs.length/\a∉cs.take k/\E=[(0,zN cs),(1,qz a),(5,.int k)]/\S=[]/\nk=0) ⟨cs.length,_,_,_,[],?wk,0,by omega,by simp,rfl,rfl,rfl⟩ ?_
 case wk=>exact ql
 rintro m E S nk ⟨k,hk,hnk,rfl,rfl,rfl⟩;refine qb ?_;intros;refine qd rfl (fun ht=>?_) (fun ht=>?_)
 ·have ht:k<cs.length:=by have:=xL ht;omega
  obtain⟨c,hck⟩:∃c,cs[k]?=some c:=⟨_,zge ht⟩;have e1:=jv hck;have hcl:=hc c (zmg hck);refine qb ?_;intros;refine qk rfl rfl (EO (l:=c) (r:=a) oM) ?_;rintro _ rfl;by_cases h:c=a
  ·subst h;rw [decide_eq_true (rfl:c=c)];refine qb ?_;intros;refine qd rfl (fun _=>?_) (fun h=>by cases h);refine qb ?_;intros;refine qf ⟨_,rfl,rfl,?_⟩;rw [decide_eq_true (zmg hck)]
  ·rw [decide_eq_false h];refine qb ?_;intros;refine qd rfl (fun h=>by cases h) (fun _=>?_);refine qb ?_;intros;refine⟨m-1,oM,_,_,_,[],?wk1,k+1,oM,?_,rfl,rfl,rfl⟩
   case wk1=>exact ql
   rw [List.take_add_one,hck,List.mem_append];rintro (h2|h2)
   ·exact hnk h2
   ·have:a=c:=by simpa using h2
    exact h this.symm
 ·have ht:k=cs.length:=by have:=xP ht;omega
  subst ht;rw [List.take_length] at hnk;refine qb ?_;intros;refine qf ⟨_,rfl,rfl,?_⟩;rw [decide_eq_false hnk]
theorem Drw.uniq{p:Pic}{a b:DV × Int × Int}(ha:Drw p a)(hb:Drw p b):a=b:=by
 cases ha with
 |chk r h hne=>
  cases hb with
  |chk r' h' hne'=>rw [h.uniq h']
  |bad hv h1 h2 q hq hne'=>exact absurd ((h.ok_iff hv).2 ⟨h1,h2⟩) hne
  |ok hv h1 h2 q hq h0=>exact absurd ((h.ok_iff hv).2 ⟨h1,h2⟩) hne
 |bad hv h1 h2 q hq hne=>
  cases hb with
  |chk r h' hne'=>exact absurd ((h'.ok_iff hv).2 ⟨h1,h2⟩) hne'
  |bad _ _ _ q' hq' hne'=>rw [hq.uniq hq']
  |ok _ _ _ q' hq' h0=>rw [hq.uniq hq'] at hne;exact absurd h0 hne
 |ok hv h1 h2 q hq h0=>
  cases hb with
  |chk r h' hne'=>exact absurd ((h'.ok_iff hv).2 ⟨h1,h2⟩) hne'
  |bad _ _ _ q' hq' hne'=>rw [hq'.uniq hq] at hne';exact absurd h0 hne'
  |ok _ _ _ q' hq' h0'=>rw [hq.uniq hq']
theorem CQ{p:Pic}(hv:qx p=true){q:cT}(hq:PlcR p q)(h0:q.2.2=0):yQ p q.1=true:=(Zj hv hq h0).2.1
theorem VA{p:Pic}(hv:qx p=true)(h1:jK p.gap (qp p))(h2:jJ p.gap (qp p)){q:cT}(hq:PlcR p q)(h0:q.2.2=0):gJ p (Xg p (qC p q.1 p.fs.length)):=⟨hv,h1,h2,q.1,CQ hv hq h0,rfl⟩
theorem XF{l:List qc}(hn:l.length<1000):Xr (Qp l):=by
 refine⟨by simpa [Qp] using hn,fun f hf=>?_⟩;obtain⟨q,_,rfl⟩:=List.mem_map.1 hf;exact Nat.lt_of_lt_of_le (Nat.lt_succ_self 1) (Nat.le_add_left 2 998)
theorem Zu{l:List qc}:Y9 (Qp l):=fun f hf _=>by
 obtain⟨q,_,rfl⟩:=List.mem_map.1 hf;exact rL (q:=q) rfl rfl
theorem SW{g:Int}{q:qc}:Q3 g [q]=true:=(dL (by simp)).2 fun x hx y hy=>by
 rw [List.mem_singleton] at hx hy;subst hx;subst hy;exact .base (by simp)
theorem Wl{l:List qc}{k:Int}:jK k (qp (Qp l)):=fun a ha=>by
 obtain⟨f,hf,rfl⟩:=List.mem_map.1 ha;obtain⟨q,_,rfl⟩:=List.mem_map.1 hf;exact SW
def wv:Pic:=Qp [(1,1)]
def Kq:Pic:=Qp [(1,1),(3,1)]
def tR:Pic:=⟨0,0,0,[]⟩
theorem US:kN wv 0=[(2,0)]:=by kernel_rfl
theorem L9:PlcR wv ([(2,0)],1,0):=by
 have h:=PlcR.ok (p:=wv) fun j hj=>by
  obtain rfl:j=0:=by have:j<1:=hj;omega
  rw [US];decide
 rw [show wv.fs.length-1=0 from rfl,US] at h;exact h
theorem bE:jJ wv.gap (qp wv):=fun i k a b hik ha hb=>by
 have hk:=(zgs hb).1;have hk:k<1:=hk;omega
theorem Vi:qx wv=true:=by kernel_rfl
theorem oG:qx Kq=true:=by kernel_rfl
def uB:qK:=Xg wv (qC wv [(2,0)] wv.fs.length)
theorem Jz:Sz 20 18 uB:=Zk wv _
theorem SD:Drw wv (jX 20 18 uB,1,0):=.ok Vi Wl bE ([(2,0)],1,0) L9 rfl
theorem BW:gJ wv uB:=VA Vi Wl bE L9 rfl
theorem gV:x8 [(1,1)] [(3,1)]<=2:=by decide
theorem SY:Chk Kq (0,1,140):=.bad2 0 1 oG Wl ⟨⟨[(1,1)],[(3,1)],oM,rfl,rfl,gV⟩,fun i' k' a b h1 h2=>oM⟩
theorem SB:Drw Kq (YY,0,140):=.chk (0,1,140) SY (by decide)
theorem O5{d:qK}:¬gJ Kq d:=fun h=>h.2.2.1 0 1 [(1,1)] [(3,1)] oM rfl rfl gV
theorem SE:Drw tR (YY,0,1):=.chk (0,0,1) (.arg (by decide)) (by decide)
theorem tQ:Xr tR:=⟨by decide,fun f hf=>by cases hf⟩
theorem C0:Y9 tR:=fun f hf=>by cases hf
theorem SP:DK 9 [.agg [.f (.c (.int .i64 0)),.f (.c (.int .i64 0)),.f (.c (.int .i64 0)),.f (.c .nils)]] fun d=>d=dK (YY,0,1):=fun H Z args hw hz hg ha=>by
 refine (Y3 tQ C0 (Nat.zero_le _)).mono ?_ H Z args hw hz hg ?_
 ·rintro _ ⟨r,hr,rfl⟩;rw [hr.uniq SE]
 ·match args,ha with
  |[v],⟨⟨cs,hv,hr⟩,_⟩=>
   refine⟨⟨cs,hv,?_⟩,trivial⟩
   match cs,hr with
   |[c1,c2,c3,c4],⟨h1,h2,h3,h4,_⟩=>
    have h4:RF Z H (.c .nils) c4:=h4;cases h4;exact⟨h1,h2,h3,RF.nil 3,trivial⟩
theorem IM{p:Pic}(hFi:Xr p)(hFe:Y9 p)(h0:p.w≠0):DK 14 [yW p,YY] fun d=>d=.bool false:=fun H Z args hw hz hg ha=>by
 refine (Y2 hFi hFe (w:=0) (h:=0) (d:=[]) oM oM ⟨rfl,fun r hr=>by cases hr⟩).mono ?_ H Z args hw hz hg ?_
 ·rintro _ ⟨b,hb,rfl⟩;cases hb with
  |chk r hr hne=>rfl
  |size hne=>rfl
  |cl hv h1 h2 hw hh cs hcs=>exact absurd hw.symm h0
 ·match args,ha with
  |[v0,v],⟨h0,⟨cs,hv,hr⟩,_⟩=>
   refine⟨h0,⟨cs,hv,?_⟩,trivial⟩
   match cs,hr with
   |[c1,c2,c3],⟨h1,h2,h3,_⟩=>
    have h3:RF Z H (.c .nils) c3:=h3;cases h3;exact⟨h1,h2,RF.nil 1,trivial⟩
theorem V3:DK 7 [] fun d=>d=.bool true:=by
 refine qD cp7 rfl xa fun Z0 lo=>?_;refine qb ?_;intros;refine XQ 0 rfl qR qR ?_;refine qk rfl rfl (fJ (l:=[(1,1)]) (by decide)) ?_;rintro _ rfl;refine qb ?_;intros;refine XQ 2 rfl qR qR ?_;refine qk rfl rfl (fJ (l:=[(1,1),(3,1)]) (by decide)) ?_;rintro _ rfl;refine qb ?_;intros;refine qk rfl rfl (Y3 (p:=wv) (XF (by decide)) Zu (by decide)) ?_;rintro _ ⟨r,hr,rfl⟩;obtain rfl:=hr.uniq SD;clear hr;refine qb ?_;intros;refine qk rfl rfl (Y3 (p:=Kq) (XF (by decide)) Zu (by decide)) ?_;rintro _ ⟨r,hr,rfl⟩;obtain rfl:=hr.uniq SB;clear hr;refine qb ?_;intros;refine qk rfl rfl SP ?_;rintro _ rfl;refine qb ?_;intros;refine qk rfl rfl (Y2 (p:=wv) (XF (by decide)) Zu (w:=20) (h:=18) (by decide) (by decide) Jz) ?_;rintro _ ⟨b,hb,rfl⟩;obtain rfl:b=true:=(hb.iff rfl rfl Jz).2 BW;clear hb;refine qb ?_;intros;refine qk rfl rfl (Y2 (p:=Kq) (XF (by decide)) Zu (w:=20) (h:=18) (by decide) (by decide) Jz) ?_;rintro _ ⟨b,hb,rfl⟩;obtain rfl:b=false:=by
  cases b with
  |false=>rfl
  |true=>exact absurd ((hb.iff rfl rfl Jz).1 rfl) O5
 clear hb;refine qb ?_;intros;refine qk rfl rfl (IM (p:=wv) (XF (by decide)) Zu (by decide)) ?_;rintro _ rfl;refine qb ?_;intros;exact qf ⟨_,rfl,rfl,rfl⟩
theorem dC{x:Raw}(hx:x.ok):(12<=(yw x).w/\(yw x).w<=36)/\12<=(yw x).h/\(yw x).h<=36:=⟨(U9 hx).1,(U9 hx).2.1⟩
theorem d_tdraws{x:Raw}(hx:x.ok):DK 4 [VJ x] fun d=>d=.bool true:=by
 refine qD cp4 rfl xa fun Z0 lo=>?_;have hFi:=Yg x;have hFe:=VR hx;have h4:(yw x).fs.length<=4:=(bL x).2;have hb:=dC hx;refine qb ?_;intros;refine qk rfl rfl V3 ?_;rintro _ rfl;refine qb ?_;intros;refine qk rfl rfl (EV hx) ?_;rintro _ rfl;generalize yw x=p at *;refine qb ?_;intros;refine qk rfl rfl (Y3 hFi hFe h4) ?_;rintro _ ⟨r,hr,rfl⟩;cases hr with
 |chk c hc hne=>
  refine qb ?_;intros;refine qk rfl rfl (JE hFi) ?_;rintro _ ⟨c',hc',rfl⟩;obtain rfl:=hc.uniq hc';have b1:(c.2.2==0)=false:=by simpa using hne
  have b2:(c.2.2!=0)=true:=by simpa using hne
  refine qU ?_;intros;refine qd rfl (fun h=>by cases h) (fun _=>?_);refine qU ?_;intros;refine qd rfl (fun _=>?_) (fun h=>by cases h);refine qU ?_;intros;exact qf ⟨_,rfl,rfl,rfl⟩
 |bad hv h1 h2 q hq hne=>
  refine qb ?_;intros;refine qk rfl rfl (JE hFi) ?_;rintro _ ⟨c,hc,rfl⟩;have b1:(c.2.2==0)=true:=by simpa using (hc.ok_iff hv).2 ⟨h1,h2⟩
  refine qU ?_;intros;refine qd rfl (fun _=>?_) (fun h=>by cases h);refine qb ?_;intros;refine qk rfl rfl (V4 hv) ?_;rintro _ ⟨q',hq',rfl⟩;obtain rfl:=hq.uniq hq';have b3:(q.2.2==0)=false:=by simpa using hne
  have b2:(q.2.2!=0)=true:=by simpa using hne
  refine qU ?_;intros;refine qd rfl (fun _=>?_) (fun h=>by cases h);refine qU ?_;intros;exact qf ⟨_,rfl,rfl,rfl⟩
 |ok hv h1 h2 q hq h0=>
  refine qb ?_;intros;refine qk rfl rfl (JE hFi) ?_;rintro _ ⟨c,hc,rfl⟩;have b1:(c.2.2==0)=true:=by simpa using (hc.ok_iff hv).2 ⟨h1,h2⟩
  refine qU ?_;intros;refine qd rfl (fun _=>?_) (fun h=>by cases h);refine qb ?_;intros;refine qk rfl rfl (V4 hv) ?_;rintro _ ⟨q',hq',rfl⟩;obtain rfl:=hq.uniq hq';have b3:(q.2.2==0)=true:=by simpa using h0
  refine qU ?_;intros;refine qd rfl (fun h=>by cases h) (fun _=>?_);have hwn:((p.w.toNat:Nat):Int)=p.w:=by omega
  have hhn:((p.h.toNat:Nat):Int)=p.h:=by omega
  have hsz:=Zk p (qC p q.1 p.fs.length);have hsh:=VA hv h1 h2 hq h0;generalize Xg p (qC p q.1 p.fs.length)=g at *;have hgv:=W8 (w:=p.w.toNat) (h:=p.h.toNat) oM oM hsz;have hgs:=Y2 hFi hFe (w:=p.w.toNat) (h:=p.h.toNat) oM oM hsz;rw [hwn,hhn] at hgv hgs;have b4:((p.fs.length:Int)==(p.fs.length:Int))=true:=by simp
  have b5:(p.w==p.w)=true:=by simp
  have b6:(p.h==p.h)=true:=by simp
  refine qU ?_;intros;refine qk rfl rfl hgv ?_;rintro _ rfl;refine qU ?_;intros;refine qk rfl rfl hgs ?_;rintro _ ⟨b,hb,rfl⟩;obtain rfl:b=true:=(hb.iff hwn hhn hsz).2 hsh;refine qU ?_;intros;exact qf ⟨_,rfl,rfl,rfl⟩
end Go.Ag

namespace Go.Ag
open Go.Ab Go.Proofs
theorem X6{n:Int}(h:(Lit.int .u8 n).wf=true):ZF n:=by
 simp [Lit.wf,IntKind.min,IntKind.max,IntKind.signed,IntKind.bits] at h;unfold ZF;omega
def qco:Ty:=.agg (.pair (.int .u8) (.pair (.int .u8) (.pair (.int .u8) (.pair (.int .u8) (.pair (.int .u8) (.pair (.int .u8) .unit))))))
def rawT:Ty:=.agg (.pair (.int .u8) (.pair (.int .u8) (.pair (.int .u8) (.pair (.slice qco) .unit))))
def AN(y:Int × Int × Int × Int × Int × Int × Unit):Rw:=⟨y.1,y.2.1,y.2.2.1,y.2.2.2.1,y.2.2.2.2.1,y.2.2.2.2.2.1⟩
def UW(a:Int × Int × Int × List (Int × Int × Int × Int × Int × Int × Unit) × Unit):Raw:=⟨a.1,a.2.1,a.2.2.1,a.2.2.2.1.map AN⟩
theorem rawR_ok{a:rawT.den}(h:Ty.okD rawT a):(UW a).ok:=by
 obtain⟨h1,h2,h3,h4,_⟩:=h;refine⟨⟨X6 h1,X6 h2,X6 h3⟩,fun r hr=>?_⟩;obtain⟨y,hy,rfl⟩:=List.mem_map.1 hr;obtain⟨g1,g2,g3,g4,g5,g6,_⟩:=h4.1 y hy;exact⟨⟨X6 g1,X6 g2,X6 g3⟩,X6 g4,X6 g5,X6 g6⟩
theorem rawR_d(a:Int × Int × Int × List (Int × Int × Int × Int × Int × Int × Unit) × Unit):VJ (UW a)=AO rawT (show rawT.den from a):=by
 obtain⟨a1,a2,a3,l,u⟩:=a;have h:∀l:List (Int × Int × Int × Int × Int × Int × Unit),(l.map AN).flatMap XG=List.flatMap (Ty.fd qco) l:=by
  intro l;induction l with
  |nil=>rfl
  |cons y l ih=>rw [List.map_cons,List.flatMap_cons,ih];rfl
 show DV.agg [.f (.c (.int .u8 a1)),.f (.c (.int .u8 a2)),.f (.c (.int .u8 a3)),.f (.sl 6 (List.map AN l).length ((List.map AN l).flatMap XG))]=_
 rw [h l,List.length_map];rfl
end Go.Ag

namespace Go.Ag
open Go.Ab Go.Proofs
theorem CU{p:Pic}{l:List qc}(hl:l.length=p.fs.length){a:List qc}(h:a∈wD p l):a∈qC p l p.fs.length:=by
 rcases List.mem_append.1 h with h|h
 ·obtain⟨i,hi,rfl⟩:=Yb h;exact zO.2 ⟨i,hi,.inl rfl⟩
 ·obtain⟨i,hi,rfl⟩:=List.mem_map.1 h;have:=List.mem_range.1 hi;exact zO.2 ⟨i,oM,.inr rfl⟩
theorem IG{p:Pic}(hv:qx p=true)(h1:jK p.gap (qp p))(h2:jJ p.gap (qp p)){l:List qc}(hl:yQ p l=true){cs:List (List qc)}(hcs:ClS p.gap (xM (Xg p (qC p l p.fs.length)) p.w.toNat p.h.toNat) cs):
 cs.length=(wD p l).length/\(wD p l).length=2*p.fs.length/\∀a∈wD p l,a∈cs:=by
 have hll:l.length=p.fs.length/\YW p l=true:=by
  rw [yQ,xD,xV] at hl;exact hl
 have hleg:=(X8 hv).1 hll.2;rw [(VL hv (Zk p _) hl).2 rfl] at hcs;obtain⟨hcl,hall⟩:=bB hv hleg hll.1 h1 h2 hcs;have hn:(wD p l).length=2*p.fs.length:=by rw [tK,hll.1];omega
 refine⟨oM,hn,fun a ha=>?_⟩;have ha:=CU hll.1 ha;have h:=hall a ha;obtain⟨i,hi,rfl|rfl⟩:=zO.1 ha
 ·rwa [wT (VN hv i)] at h
 ·rwa [wT (eW _ _)] at h
theorem Aj{p:Pic}(hv:qx p=true):min (max p.gap 0) 2000=p.gap:=by
 have:=(qT hv).2.2.2;simp only [jF,xD,xV] at this;omega
theorem iU{d:qK}{w h:Nat}(hw:w<=200)(hh:h<=200):vi (xM d w h):=fun q hq=>by
 obtain⟨x,y,hx,hy,_,rfl⟩:=ko.1 hq;unfold qE;simp only;omega
theorem qt4{x:Raw}(hx:x.ok):DK 5 [VJ x] fun d=>d=.bool true:=by
 refine qD cp5 rfl xa fun Z0 lo=>?_;have hFi:=Yg (Qf x);have hFe:=VR (YN hx);have h4:(yw (Qf x)).fs.length<=4:=(bL (Qf x)).2;have hb:=dC (YN hx);have hm:=r5 hx;unfold bK at hm;refine qb ?_;intros;refine qk rfl rfl V3 ?_;rintro _ rfl;refine qb ?_;intros;refine qk rfl rfl hm ?_;rintro _ rfl;clear hm hx;generalize yw (Qf x)=p at *;refine qb ?_;intros;refine qk rfl rfl (JE hFi) ?_;rintro _ ⟨c,hc,rfl⟩;have hvb:qx p=true\/qx p=false:=by cases qx p<;>simp
 rcases hvb with hv|hv
 case inr=>
  rw [hv];refine qb ?_;intros;refine qd (t:=true) rfl (fun _=>?_) (fun h=>by cases h);refine qb ?_;intros;exact qf ⟨_,rfl,rfl,rfl⟩
 rw [hv];by_cases h0:c.2.2=0
 case neg=>
  have b1:(c.2.2!=0)=true:=by simpa using h0
  refine qU ?_;intros;refine qd (t:=true) rfl (fun _=>?_) (fun h=>by cases h);refine qb ?_;intros;exact qf ⟨_,rfl,rfl,rfl⟩
 have b1:(c.2.2!=0)=false:=by simpa using h0
 refine qU ?_;intros;refine qd (t:=false) rfl (fun h=>by cases h) (fun _=>?_);refine qb ?_;intros;refine qk rfl rfl (V4 hv) ?_;rintro _ ⟨q,hq,rfl⟩;refine qb ?_;intros;refine qk rfl rfl (Y3 hFi hFe h4) ?_;rintro _ ⟨r,hr,rfl⟩;cases hr with
 |chk c' hc' hne=>
  obtain rfl:=hc.uniq hc';exact absurd h0 hne
 |bad _ _ _ q' hq' hne=>
  obtain rfl:=hq.uniq hq';have b2:(q.2.2!=q.2.2)=false:=by simp
  have b3:(q.2.2!=0)=true:=by simpa using hne
  have b4:(q.2.2==q.2.2)=true:=by simp
  refine qU ?_;intros;refine qd (t:=true) rfl (fun _=>?_) (fun h=>by cases h);refine qU ?_;intros;exact qf ⟨_,rfl,rfl,rfl⟩
 |ok _ h1 h2 q' hq' hq0=>
  obtain rfl:=hq.uniq hq';have b2:((0:Int)!=q.2.2)=false:=by simp [hq0]
  refine qU ?_;intros;refine qd (t:=false) rfl (fun h=>by cases h) (fun _=>?_);have hwn:((p.w.toNat:Nat):Int)=p.w:=by omega
  have hhn:((p.h.toNat:Nat):Int)=p.h:=by omega
  have hsz:=Zk p (qC p q.1 p.fs.length);obtain⟨hql,hqleg,hqs⟩:=Zj hv hq hq0;have hcl:=fun cs=>IG (cs:=cs) hv h1 h2 hqleg;generalize Xg p (qC p q.1 p.fs.length)=g at *;have hgv:=W8 (w:=p.w.toNat) (h:=p.h.toNat) oM oM hsz;have hrd:=EQ (w:=p.w.toNat) (h:=p.h.toNat) (gap:=p.gap) oM oM hsz;have hgp:=u4 (w:=p.w.toNat) (h:=p.h.toNat) oM oM hsz;rw [hwn,hhn] at hgv hrd hgp;rw [Aj hv] at hrd;refine qb ?_;intros;refine qk rfl rfl hgv ?_;rintro _ rfl;refine qb ?_;intros;refine qd (t:=false) rfl (fun h=>by cases h) (fun _=>?_);refine qb ?_;intros;refine qk rfl rfl hrd ?_;rintro _ ⟨cs,rfl,hcs⟩;obtain⟨c1,c2,c3⟩:=hcl cs hcs;obtain⟨n1,n2⟩:=hcs.count (jQ g p.w.toNat p.h.toNat);have hpl:(xM g p.w.toNat p.h.toNat).length<=p.h.toNat*p.w.toNat:=kp g p.w.toNat p.h.toNat;have hhw:p.h.toNat*p.w.toNat<=200*200:=Nat.mul_le_mul oM oM;have n3:∀c∈cs,c.length<1000000:=fun c hc=>by have:=n2 c hc;omega
  refine qb ?_;intros;refine qk rfl rfl (SJ hv hFe (l:=q.1) oM hqs) ?_;rintro _ rfl;have b5:(((cs.length:Nat):Int)!=((wD p q.1).length:Nat))=false:=by rw [c1];simp
  have b6:((((wD p q.1).length:Nat):Int)!=IntKind.i64.wrap (2*((p.fs.length:Nat):Int)))=false:=by
   rw [show IntKind.i64.wrap (2*((p.fs.length:Nat):Int))=((2*p.fs.length:Nat):Int) by rw [qo (by omega) (by omega)];omega,c2];simp
  generalize wD p q.1=ps at *;refine qU ?_;intros;refine qd (t:=false) rfl (fun h=>by cases h) (fun _=>?_);refine qb ?_;intros;refine qm (fun m E S nk=>∃k:Nat,k+m=ps.length/\E=[(3,.bool true),(4,.one (.ptr 1 0)),(8,.one (.ptr 4 0)),(11,zN cs),(12,zN ps),(13,.int k)]/\S=[(1,.cells (jR p)),(4,.cells (jc p.w p.h g))]/\nk=5)
   ⟨ps.length,_,_,_,[],?wk,0,oM,rfl,rfl,rfl⟩ ?_
  case wk=>exact ql
  rintro m E S nk ⟨k,hk,rfl,rfl,rfl⟩;refine qb ?_;intros;refine qd rfl (fun ht=>?_) (fun ht=>?_)
  ·have ht:k<ps.length:=by have:=xL ht;omega
   obtain⟨a,ha⟩:∃a,ps[k]?=some a:=⟨_,zge ht⟩;have e1:=jv ha;have hac:=c3 a (zmg ha);refine qb ?_;intros;refine qk rfl rfl (qa0 (cs:=cs) (a:=a) oM n3) ?_;rintro _ rfl;rw [decide_eq_true hac];refine qb ?_;intros;refine qd (t:=false) rfl (fun h=>by cases h) (fun _=>?_);refine qb ?_;intros;refine⟨m-1,oM,_,_,_,[],?wk1,k+1,oM,rfl,rfl,rfl⟩
   case wk1=>exact ql
  ·refine qb ?_;intros;refine qk rfl rfl hgp ?_;rintro _ rfl;refine qb ?_;intros;refine qk rfl rfl (Vp (gap:=p.gap) (iU oM oM) oM) ?_;rintro _ ⟨cs',rfl,hcs'⟩;rw [wT (jQ g p.w.toNat p.h.toNat)] at hcs';obtain rfl:=hcs.uniq hcs';refine qb ?_;intros;refine qk rfl rfl (IN oM n3) ?_;rintro _ rfl;refine qb ?_;intros;exact qf ⟨_,rfl,rfl,rfl⟩
def AS(a:Int)(k:Nat):Int:=IntKind.u8.wrap (a+IntKind.u8.wrap (1*2^(min k 8)))
def yG(b:Nat->Bool):Nat->Int
 |0=>0
 |k+1=>if b k=true then AS (yG b k) k else yG b k
theorem YD{b b':Nat->Bool}:∀{k:Nat},(∀j,j<k->b j=b' j)->yG b k=yG b' k
 |0,_=>rfl
 |k+1,h=>by
  simp only [yG];rw [YD (k:=k) fun j hj=>h j (by omega),h k (by omega)]
def BT(b0 b1 b2 b3 b4 b5:Bool)(k:Nat):Bool:=match k with|0=>b0|1=>b1|2=>b2|3=>b3|4=>b4|_=>b5
theorem AL:∀(b0 b1 b2 b3 b4 b5:Bool) (k:Fin 6),X3 (yG (BT b0 b1 b2 b3 b4 b5) 6) k.val=BT b0 b1 b2 b3 b4 b5 k.val:=by decide+kernel
theorem IZ:∀(b0 b1 b2 b3 b4 b5:Bool),0<=yG (BT b0 b1 b2 b3 b4 b5) 6/\yG (BT b0 b1 b2 b3 b4 b5) 6<64:=by decide+kernel
theorem iC(b:Nat->Bool):∀j,j<6->b j=BT (b 0) (b 1) (b 2) (b 3) (b 4) (b 5) j:=fun j hj=>by
 have h:j=0\/j=1\/j=2\/j=3\/j=4\/j=5:=by omega
 rcases h with rfl|rfl|rfl|rfl|rfl|rfl<;>rfl
theorem FA(b:Nat->Bool){k:Nat}(hk:k<6):X3 (yG b 6) k=b k:=by
 rw [YD (iC b),AL _ _ _ _ _ _ ⟨k,hk⟩,<-iC b k hk]
theorem oV(b:Nat->Bool):0<=yG b 6/\yG b 6<64:=by
 rw [YD (iC b)];exact IZ _ _ _ _ _ _
def Qj(d:qK)(r i k:Nat):Bool:=jB d (2*i+k/3) (3*r+k % 3)
def wW(d:qK)(q r i k:Nat):List Int:=(List.range q).map fun t=>if t<i then yG (Qj d r t) 6 else if t=i then yG (Qj d r i) k else 0
def vQ(d:qK)(q r:Nat):List Int:=(List.range q).map fun i=>yG (Qj d r i) 6
def JZ(n m:Nat)(d:qK):jk:=(List.range (m/3)).map (vQ d (n/2))
theorem kQ(d:qK)(q r i k:Nat):(wW d q r i k).length=q:=by simp [wW]
theorem Xa(d:qK){q r i k t:Nat}(ht:t<q):(wW d q r i k)[t]?=some (if t<i then yG (Qj d r t) 6 else if t=i then yG (Qj d r i) k else 0):=by simp [wW,ht]
theorem CA(d:qK){q r i k:Nat}(ht:i<q):(wW d q r i k)[i]?=some (yG (Qj d r i) k):=by
 rw [Xa d ht,if_neg (by omega),if_pos rfl]
theorem tB(d:qK)(q r:Nat):wW d q r 0 0=List.replicate q 0:=by
 refine List.ext_getElem? fun t=>?_;by_cases ht:t<q
 ·rw [Xa d ht,List.getElem?_replicate,if_pos ht,if_neg (by omega)];split<;>rfl
 ·rw [List.getElem?_eq_none (by rw [kQ];omega),List.getElem?_eq_none (by simp;omega)]
theorem GB(d:qK){q r i k:Nat}(hd:Qj d r i k=true):(wW d q r i k).set i (AS (yG (Qj d r i) k) k)=wW d q r i (k+1):=by
 refine List.ext_getElem? fun t=>?_;by_cases ht:t<q
 ·rw [List.getElem?_set,Xa d ht,Xa d ht];by_cases e:i=t
  ·subst e;rw [if_pos rfl,if_pos (by rw [kQ];omega),if_neg (by omega),if_pos rfl,yG,if_pos hd]
  ·have e':¬t=i:=fun h=>e h.symm;rw [if_neg e];simp only [if_neg e']
 ·rw [List.getElem?_eq_none (by rw [List.length_set,kQ];omega),List.getElem?_eq_none (by rw [kQ];omega)]
theorem B8(d:qK){q r i k:Nat}(hd:Qj d r i k=false):wW d q r i (k+1)=wW d q r i k:=by
 simp only [wW,yG,hd,Bool.false_eq_true,if_false]
theorem B9(d:qK)(q r i:Nat):wW d q r (i+1) 0=wW d q r i 6:=by
 refine List.ext_getElem? fun t=>?_;by_cases ht:t<q
 ·rw [Xa d ht,Xa d ht];by_cases h1:t<i
  ·rw [if_pos (by omega),if_pos h1]
  ·rw [if_neg h1];by_cases h2:t=i
   ·subst h2;rw [if_pos (by omega),if_pos rfl]
   ·rw [if_neg (by omega),if_neg h2];split<;>rfl
 ·rw [List.getElem?_eq_none (by rw [kQ];omega),List.getElem?_eq_none (by rw [kQ];omega)]
theorem GC(d:qK)(q r k:Nat):wW d q r q k=vQ d q r:=by
 refine List.ext_getElem? fun t=>?_;by_cases ht:t<q
 ·rw [Xa d ht,if_pos ht];simp [vQ,ht]
 ·rw [List.getElem?_eq_none (by rw [kQ];omega),List.getElem?_eq_none (by simp [vQ];omega)]
theorem Jl(d:qK)(q r:Nat):(vQ d q r).length=q:=by simp [vQ]
theorem UM(q:List Int)(i:Nat)(c:Int):Q2 (.data (q.map cF)) i [.f (.c (.int .u8 c))]=.data ((q.set i c).map cF):=by
 simp [Q2,dP,setLs,List.map_set,cF]
theorem tE(n:Nat):yM [.c (.int .u8 0)] n=(List.replicate n (0:Int)).map cF:=by rw [Ya];simp [cF]
theorem qpw{n m:Nat}{d:qK}(hn:n<=200)(hm:m<=200)(hd:Sz n m d)(hn2:n % 2=0)(hm3:m % 3=0):DK 26 [jX n m d] fun e=>e=.tup [Kf (JZ n m d),.int 0]:=by
 refine qD qb5 rfl xa fun Z0 lo=>?_;have c1:((n:Int).tmod 2!=0)=false:=by rw [tm (by omega)];simp;omega
 have c2:((m:Int).tmod 3!=0)=false:=by rw [tm (by omega)];simp;omega
 have hdl:=hd.1;have hw2:IntKind.i64.wrap ((n:Int).tdiv 2)=((n/2:Nat):Int):=by rw [td (by omega),qo (by omega) (by omega)];omega
 have hw3:IntKind.i64.wrap ((m:Int).tdiv 3)=((m/3:Nat):Int):=by rw [td (by omega),qo (by omega) (by omega)];omega
 refine qU ?_;intros;refine qd (t:=false) rfl (fun h=>by cases h) (fun _=>?_);refine qb ?_;intros;refine qm (fun k E S nk=>∃r:Nat,r+k=m/3/\∃ls:jk,ls=(List.range r).map (vQ d (n/2))/\E=[(1,.one (.ptr 0 0)),(4,.one (.own 1 0 ls.length 1)),(5,.int r)]/\S=[(0,.cells [.f (.c (.int .i64 n)),.f (.c (.int .i64 m)),.f (.sl 1 d.length ((xE d).map zI))]),(1,.data ((wj ls).map zI))]/\nk=2) ⟨m/3,_,_,_,[],?wk,0,oM,[],rfl,rfl,rfl,rfl⟩ ?_
 case wk=>exact ql
 rintro k E S nk ⟨r,hr,ls,hls,rfl,rfl,rfl⟩;have hll:ls.length=r:=by rw [hls];simp
 refine qb ?_;intros;rw [hw3];refine qd rfl (fun ht=>?_) (fun ht=>?_)
 ·have ht:r<m/3:=by have:=xL ht;omega
  refine qb ?_;intros;rw [hw2];refine uV [.c (.int .u8 0)] rfl rfl ⟨rfl,rfl,trivial⟩ rfl (by decide) (Nat.le_refl _) oM oM ?_;rw [tE,<-tB d (n/2) r];refine qb ?_;intros;refine qm (fun k2 E S nk=>∃i:Nat,i+k2=n/2/\E=[(1,.one (.ptr 0 0)),(4,.one (.own 1 0 ls.length 1)),(5,.int r),(6,.one (.own 2 0 (n/2) 1)),(7,.int i)]/\S=[(0,.cells [.f (.c (.int .i64 n)),.f (.c (.int .i64 m)),.f (.sl 1 d.length ((xE d).map zI))]),(1,.data ((wj ls).map zI)),(2,.data ((wW d (n/2) r i 0).map cF))]/\nk=3) ⟨n/2,_,_,_,[],?wk1,0,oM,rfl,rfl,rfl⟩ ?_
  case wk1=>exact ql
  rintro k2 E S nk ⟨i,hi,rfl,rfl,rfl⟩;refine qb ?_;intros;refine qd rfl (fun ht2=>?_) (fun ht2=>?_)
  ·have ht2:i<n/2:=by have:=xL ht2;omega
   refine qb ?_;intros;refine qm (fun k3 E S nk=>∃j:Nat,j+k3=6/\E=[(1,.one (.ptr 0 0)),(4,.one (.own 1 0 ls.length 1)),(5,.int r),(6,.one (.own 2 0 (n/2) 1)),(7,.int i),(8,.int j)]/\S=[(0,.cells [.f (.c (.int .i64 n)),.f (.c (.int .i64 m)),.f (.sl 1 d.length ((xE d).map zI))]),(1,.data ((wj ls).map zI)),(2,.data ((wW d (n/2) r i j).map cF))]/\nk=3) ⟨6,_,_,_,[],?wk2,0,oM,rfl,rfl,rfl⟩ ?_
   case wk2=>exact ql
   rintro k3 E S nk ⟨j,hj,rfl,rfl,rfl⟩;refine qb ?_;intros;refine qd rfl (fun ht5=>?_) (fun ht5=>?_)
   ·have ht5:j<6:=by have:=xL ht5;omega
    have hy:3*r+j % 3<m:=by omega
    have hx:2*i+j/3<n:=by omega
    obtain⟨q,hq,hql,hqx⟩:=hd.cell hx hy;have e2:=vo (jO hq);have e3:=ZA (Kk hqx);have l2:2*i+j/3<(q.map kj).length:=by simp;omega
    have e4:xK ((wW d (n/2) r i j).map cF) (Int.toNat (i:Int)) 1=some [cF (yG (Qj d r i) j)]:=by
     have:=ZA (N9 (CA d (q:=n/2) (r:=r) (i:=i) (k:=j) ht2));rwa [Nat.mul_one] at this
    have l3:Int.toNat (i:Int)+1<=((wW d (n/2) r i j).map cF).length:=by rw [List.length_map,kQ];omega
    have hset:=UM (wW d (n/2) r i j) (Int.toNat (i:Int)) (AS (yG (Qj d r i) j) j);rw [Int.toNat_natCast] at hset;have hst:=GB d (q:=n/2) (r:=r) (i:=i) (k:=j);have hsk:=B8 d (q:=n/2) (r:=r) (i:=i) (k:=j);have w1:IntKind.i64.wrap (3*(r:Int))=((3*r:Nat):Int):=by rw [qo (by omega) (by omega)];omega
    have w2:IntKind.i64.wrap (2*(i:Int))=((2*i:Nat):Int):=by rw [qo (by omega) (by omega)];omega
    have w3:IntKind.i64.wrap (((3*r:Nat):Int)+((j:Nat):Int).tmod 3)=((3*r+j % 3:Nat):Int):=by rw [tm (by omega),qo (by omega) (by omega)];omega
    have w5:IntKind.i64.wrap (((j:Nat):Int).tdiv 3)=((j/3:Nat):Int):=by rw [td (by omega),qo (by omega) (by omega)];omega
    have w4:IntKind.i64.wrap (((2*i:Nat):Int)+((j/3:Nat):Int))=((2*i+j/3:Nat):Int):=by rw [qo (by omega) (by omega)];omega
    refine qb ?_;intros;rw [w1,w3];refine qb ?_;intros;rw [w2,w5,w4];refine qb ?_;intros;refine qd (t:=Qj d r i j) rfl (fun hb=>?_) (fun hb=>?_)
    ·refine qb ?_;intros;refine vB (d:=.one (.f (.c (.int .u8 (AS (yG (Qj d r i) j) j))))) rfl rfl rfl rfl rfl l3 rfl ?_;rw [Int.toNat_natCast,hset,hst hb];refine qb ?_;intros;refine⟨k3-1,oM,_,_,_,[],?wk3,j+1,oM,rfl,rfl,rfl⟩
     case wk3=>exact ql
    ·rw [<-hsk hb];refine qb ?_;intros;refine⟨k3-1,oM,_,_,_,[],?wk3,j+1,oM,rfl,rfl,rfl⟩
     case wk3=>exact ql
   ·have ht5:j=6:=by have:=xP ht5;omega
    subst ht5;rw [<-B9];refine qb ?_;intros;refine⟨k2-1,oM,_,_,_,[],?wk4,i+1,oM,rfl,rfl,rfl⟩
    case wk4=>exact ql
  ·have ht2:i=n/2:=by have:=xP ht2;omega
   subst ht2;rw [GC];have hfl:((vQ d (n/2) r).map cF).length=n/2*1:=by simp [Jl]
   have hflat0:((wj ls).map zI).length=ls.length*1:=by simp [wj]
   refine qu (qe (k:=1) rfl (qe (k:=4) rfl (qe (k:=5) rfl (qe (k:=6) rfl (qy _))))) (zK _) ?_;refine xn 2 rfl qR qR ?_;refine qb ?_;intros;refine qY (l':=(wj ls).map zI) (q:=[.sl 1 (n/2) ((vQ d (n/2) r).map cF)]) rfl rfl rfl (qI _ hflat0) ⟨rfl,rfl,_,rfl,rfl⟩ oM oM (by decide) rfl ?_;rw [show (wj ls).map zI++[.sl 1 (n/2) ((vQ d (n/2) r).map cF)]=(wj (ls++[vQ d (n/2) r])).map zI by simp [wj,zI,Jl],show ls.length+1=(ls++[vQ d (n/2) r]).length by simp];refine qb ?_;intros;refine⟨k-1,oM,_,_,_,[(1,4)],?wk5,r+1,oM,ls++[vQ d (n/2) r],?_,rfl,rfl,rfl⟩
   case wk5=>exact ql
   rw [hls,List.range_succ,List.map_append];rfl
 ·have ht:r=m/3:=by have:=xP ht;omega
  have hlse:ls=JZ n m d:=by rw [hls,ht];rfl
  have hflat0:((wj ls).map zI).length=ls.length*1:=by simp [wj]
  refine qb ?_;intros;refine qu (qe (k:=2) rfl (qe (k:=3) rfl (qy _))) (qe (k:=1) rfl (qy _)) ?_;refine xn 1 rfl qR qR ?_;refine qf ⟨_,rfl,rfl,?_⟩;rw [<-hlse];rfl
theorem pE(n m:Nat)(d:qK):(JZ n m d).length=m/3:=by simp [JZ]
theorem OM{n m:Nat}(d:qK)(hn:n<=200)(hm:m<=200)(hn2:n % 2=0)(hm3:m % 3=0):WV (JZ n m d) n m/\uE (JZ n m d) n:=by
 refine⟨?_,fun r hr=>?_⟩
 ·unfold WV;rw [pE];omega
 ·obtain⟨i,hi,rfl⟩:=List.mem_map.1 hr;refine⟨by rw [Jl];omega,fun c hc=>?_⟩;obtain⟨j,hj,rfl⟩:=List.mem_map.1 hc;exact (oV _).2
theorem G9{n m:Nat}{d:qK}(hd:Sz n m d)(hn2:n % 2=0)(hm3:m % 3=0):Zd n m (JZ n m d)=d:=(VV n m _).ext hd fun x y hx hy=>by
 have h1:(JZ n m d)[y/3]?=some (vQ d (n/2) (y/3)):=by
  have:y/3<m/3:=by omega
  simp [JZ,this]
 have h2:(vQ d (n/2) (y/3))[x/2]?=some (yG (Qj d (y/3) (x/2)) 6):=by
  have:x/2<n/2:=by omega
  simp [vQ,this]
 rw [e9 _ hx hy];simp only [Yr,h1,h2];rw [FA _ (by omega),Qj];congr 1<;>omega
theorem qpv{x:Raw}(hx:x.ok):DK 6 [VJ x] fun d=>d=.bool true:=by
 refine qD cp6 rfl xa fun Z0 lo=>?_;have hFi:=Yg (Qf x);have hFe:=VR (YN hx);have h4:(yw (Qf x)).fs.length<=4:=(bL (Qf x)).2;have hb:=dC (YN hx);have hm:=r5 hx;unfold bK at hm;refine qb ?_;intros;refine qk rfl rfl V3 ?_;rintro _ rfl;refine qb ?_;intros;refine qk rfl rfl hm ?_;rintro _ rfl;clear hm hx;generalize yw (Qf x)=p at *;refine qb ?_;intros;refine qk rfl rfl (Y3 hFi hFe h4) ?_;rintro _ ⟨r,hr,rfl⟩;cases hr with
 |chk c hc hne=>
  have b1:(c.2.2!=0)=true:=by simpa using hne
  have hvb:qx p=true\/qx p=false:=by cases qx p<;>simp
  rcases hvb with hv|hv
  ·rw [hv];refine qU ?_;intros;refine qd (t:=true) rfl (fun _=>?_) (fun h=>by cases h);refine qU ?_;intros;exact qf ⟨_,rfl,rfl,rfl⟩
  ·rw [hv];refine qU ?_;intros;refine qd (t:=true) rfl (fun _=>?_) (fun h=>by cases h);refine qU ?_;intros;exact qf ⟨_,rfl,rfl,rfl⟩
 |bad hv h1 h2 q hq hne=>
  have b1:(q.2.2!=0)=true:=by simpa using hne
  rw [hv];refine qU ?_;intros;refine qd (t:=true) rfl (fun _=>?_) (fun h=>by cases h);refine qU ?_;intros;exact qf ⟨_,rfl,rfl,rfl⟩
 |ok hv h1 h2 q hq h0=>
  rw [hv];refine qb ?_;intros;refine qd (t:=false) rfl (fun h=>by cases h) (fun _=>?_);have hh:=(qT hv).2.2.1;simp only [yz,xD,xV] at hh;obtain⟨⟨_,hw2⟩,_,hh3⟩:=hh;have hwn:((p.w.toNat:Nat):Int)=p.w:=by omega
  have hhn:((p.h.toNat:Nat):Int)=p.h:=by omega
  rw [tm (by omega)] at hw2 hh3;have hn2:p.w.toNat % 2=0:=by omega
  have hm3:p.h.toNat % 3=0:=by omega
  have hsz:=Zk p (qC p q.1 p.fs.length);have hsh:=VA hv h1 h2 hq h0;generalize Xg p (qC p q.1 p.fs.length)=g at *;have hgv:=W8 (w:=p.w.toNat) (h:=p.h.toNat) oM oM hsz;have hgs:=Y2 hFi hFe (w:=p.w.toNat) (h:=p.h.toNat) oM oM hsz;have hgt:=qpw (n:=p.w.toNat) (m:=p.h.toNat) oM oM hsz hn2 hm3;have hgm:=SO (w:=p.w.toNat) (h:=p.h.toNat) oM oM hsz hsz;have hgf:=SI (l:=JZ p.w.toNat p.h.toNat g) (w:=p.w) (h:=p.h) (fun r hr=>by
   obtain⟨i,_,rfl⟩:=List.mem_map.1 hr;rw [Jl];omega)
  have hft:=OM g (n:=p.w.toNat) (m:=p.h.toNat) oM oM hn2 hm3;have hid:=G9 hsz hn2 hm3;have hln:=pE p.w.toNat p.h.toNat g;rw [hwn,hhn] at hgv hgs hgt hgm hft;rw [lA,hid,hwn,hhn] at hgf;have b9:((((JZ p.w.toNat p.h.toNat g).length:Nat):Int)==IntKind.i64.wrap (p.h.tdiv 3))=true:=by
   rw [hln,td (by omega),qo (by omega) (by omega)];simp;omega
  generalize JZ p.w.toNat p.h.toNat g=ce at *;rw [decide_eq_true (rfl:g=g)] at hgm;refine qb ?_;intros;refine qk rfl rfl hgv ?_;rintro _ rfl;refine qb ?_;intros;refine qd (t:=false) rfl (fun h=>by cases h) (fun _=>?_);refine qb ?_;intros;refine qk rfl rfl hgt ?_;rintro _ rfl;refine qb ?_;intros;refine qk rfl rfl hgf ?_;rintro _ (⟨_,_,rfl⟩|⟨hno,rfl⟩)
  ·refine qU ?_;intros;refine qk rfl rfl hgm ?_;rintro _ rfl;refine qU ?_;intros;refine qk rfl rfl hgs ?_;rintro _ ⟨b,hb,rfl⟩;obtain rfl:b=true:=(hb.iff hwn hhn hsz).2 hsh;refine qU ?_;intros;exact qf ⟨_,rfl,rfl,rfl⟩
  ·exact absurd hft hno
end Go.Ag
