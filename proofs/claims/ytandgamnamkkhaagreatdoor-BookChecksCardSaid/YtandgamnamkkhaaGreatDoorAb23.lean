/- -/
import Derived.Test.YtandgamnamkkhaaGreatDoorAb22
set_option linter.unusedSimpArgs false
set_option maxHeartbeats 16000000
set_option linter.unusedVariables false
set_option maxRecDepth 8000
namespace Go.Ah
open Go.Ab Go.Proofs
abbrev zQ(s:ByteArray):DV:=.one (.f (.c (.str s)))
def bt(s:ByteArray)(i:Nat):Nat:=(s.data.toList.getD i 0).toNat
theorem vz(s:ByteArray)(i:Nat):bt s i<256:=UInt8.toNat_lt _
theorem NF{s:ByteArray}{i:Nat}(h:i<s.size):s[i]?=some (s.data.toList.getD i 0):=by
 have h':i<s.data.toList.length:=by simpa using h
 rw [List.getD_eq_getElem?_getD,zge h'];simp only [Option.getD_some];rw [getElem?_pos s i h];rfl
section
variable{p:Par}{base rs:Nat}{Q:qo->Bx->Nat->Prop}{r:List SOper}{W:Wt}{A:List Nat}{E:qo}{S:Bx}{nk:Nat}{id:Nat}{dst:Option Nat}{aid:Option Nat}{ws:List Nat}{keep:Bool}
theorem y7{x i:Opd}{s:ByteArray}{k:IntKind}{j:Nat}(hx:ro E x=some (zQ s))(hi:ro E i=some (.one (.f (.c (.int k j)))))(hj:j<s.size)(h:DPW p base rs Q r W A (qX E dst (.one (.f (.c (.int .u8 (bt s j)))))) S nk):DPW p base rs Q (⟨id,dst,.p (.sindex x i),none,aid,ws,keep⟩::r) W A E S nk:=by
 refine js (fun {Z β H F} hE=>⟨.one (.int .u8 (bt s j)),?_,zT rfl⟩) h;simp only [qn,xA hE hx,xA hE hi];rw [if_pos (by omega),show ((j:Int).toNat)=j by omega,NF hj];rfl
end
def Qf(s:ByteArray):Bool:=(List.range s.size).all fun i=>vu (bt s i)
theorem dV{s:ByteArray}(h:∀j,j<s.size->vu (bt s j)=true):Qf s=true:=List.all_eq_true.2 fun i hi=>h i (List.mem_range.1 hi)
theorem BZ{s:ByteArray}{j:Nat}(hj:j<s.size)(h:vu (bt s j)=false):Qf s=false:=by
 cases hb:Qf s with
 |false=>rfl
 |true=>have:=List.all_eq_true.1 hb j (List.mem_range.2 hj);rw [h] at this;cases this
theorem TQ{s:ByteArray}(hs:s.size<1000000):DK 71 [zQ s] fun d=>∃n:Int,d=.tup [.int n,.int (if Qf s then 0 else 60)]:=by
 refine qI fun Z0 lo=>?_;refine qa ?_;intros;refine qm (fun m E S nk=>∃i:Nat,i+m=s.size/\(∀j,j<i->vu (bt s j)=true)/\E=[(0,zQ s),(6,.int s.size),(7,.int i)]/\S=[]/\nk=0)
  ⟨s.size,_,_,_,[],?wk,0,oM,fun j hj=>oM,rfl,rfl,rfl⟩ ?_
 case wk=>exact ql
 rintro m E S nk ⟨i,hi,hok,rfl,rfl,rfl⟩;refine qa ?_;intros;refine qb rfl (fun hi2=>?_) (fun hi2=>?_)
 ·have hi2:i<s.size:=by have:=qG hi2;omega
  refine qa ?_;intros;refine y7 rfl rfl hi2 ?_;refine qa ?_;intros;refine qj rfl rfl (Cu (vz s i)) ?_;rintro _ rfl;refine qa ?_;intros;refine qb rfl (fun hb=>?_) (fun hb=>?_)
  ·have hb:vu (bt s i)=false:=by simpa using hb
   refine qa ?_;intros;exact qc ⟨_,rfl,rfl,_,by rw [BZ hi2 hb];rfl⟩
  ·have hb:vu (bt s i)=true:=by simpa using hb
   refine qa ?_;intros;refine⟨m-1,oM,_,_,_,[],?wk,i+1,oM,fun j hj=>?_,rfl,rfl,rfl⟩
   case wk=>exact ql
   by_cases e:j=i
   ·rw [e];exact hb
   ·exact hok j oM
 ·have hi2:i=s.size:=by have:=qQ hi2;omega
  subst hi2;refine qa ?_;intros;exact qc ⟨_,rfl,rfl,_,by rw [dV hok];rfl⟩
def FN(s:ByteArray)(i:Nat):Bool:=decide (Zp (bt s i)=4)
def KO(s:ByteArray):Nat->Int
 |0=>0
 |i+1=>Zp (bt s i)
def kn(s:ByteArray)(i:Nat):Bool:=FN s i&&(decide (KO s i=0)||decide (KO s i=4))
def xo(s:ByteArray):Bool:=decide (1<=s.size)&&decide (s.size<=400)&&Qf s&&((List.range s.size).all fun i=>!kn s i)&&!decide (KO s s.size=4)
theorem A7{s:ByteArray}(h:xo s=true):1<=s.size/\s.size<=400:=by
 simp only [xo,xt,xF] at h;exact h.1.1.1
theorem cD{n:Nat}{c:Int}(h:Zp n=c):c=1\/c=2\/c=3\/c=4\/c=5:=by
 subst h;unfold Zp;split
 ·simp
 ·split
  ·simp
  ·split
   ·simp
   ·split<;>simp
theorem tY{s:ByteArray}{i:Nat}{c:Int}(h:KO s i=c):c=0\/c=1\/c=2\/c=3\/c=4\/c=5:=by
 cases i with
 |zero=>exact .inl h.symm
 |succ i=>exact .inr (cD h)
theorem cE{s:ByteArray}{i:Nat}(hi:i<s.size)(hb:kn s i=true):xo s=false:=by
 have:((List.range s.size).all fun i=>!kn s i)=false:=by
  rw [Bool.eq_false_iff];intro h;have:=List.all_eq_true.1 h i (List.mem_range.2 hi);rw [hb] at this;cases this
 simp [xo,this]
theorem Wm{s:ByteArray}:DK 36 [zQ s] fun d=>d=.bool (xo s):=by
 refine qI fun Z0 lo=>?_;refine qa ?_;intros;refine qb rfl (fun hl=>?_) (fun hl=>?_)
 ·have hl:¬(1<=s.size/\s.size<=400):=by
   split at hl
   ·have:=qG (by assumption:decide ((s.size:Int)<1)=true);omega
   ·have:=qG hl;omega
  refine qa ?_;intros;exact qc ⟨_,rfl,rfl,by rw [show xo s=false from by cases hb:xo s with|false=>rfl|true=>exact absurd (A7 hb) hl]⟩
 ·have hl:1<=s.size/\s.size<=400:=by
   split at hl
   ·cases hl
   ·rename_i h1;have h1:¬((s.size:Int)<1):=by simpa using h1
    have:=qQ hl;omega
  refine qa ?_;intros;refine qj rfl rfl (TQ oM) ?_;rintro _ ⟨n,rfl⟩;refine qa ?_;intros;refine qb rfl (fun ht=>?_) (fun ht=>?_)
  ·have ht:Qf s=false:=by
    cases hb:Qf s with
    |false=>rfl
    |true=>rw [hb] at ht;cases ht
   refine qa ?_;intros;exact qc ⟨_,rfl,rfl,by simp [xo,ht]⟩
  ·have ht:Qf s=true:=by
    cases hb:Qf s with
    |false=>rw [hb] at ht;cases ht
    |true=>rfl
   refine qa ?_;intros;refine qm (fun m E S nk=>∃i:Nat,i+m=s.size/\(∀j,j<i->kn s j=false)/\E=[(0,zQ s),(5,.int (KO s i)),(24,.int s.size),(25,.int i)]/\S=[]/\nk=0)
    ⟨s.size,_,_,_,[],?wk,0,oM,fun j hj=>oM,rfl,rfl,rfl⟩ ?_
   case wk=>exact ql
   rintro m E S nk ⟨i,hi,hok,rfl,rfl,rfl⟩;refine qa ?_;intros;refine qb rfl (fun hi2=>?_) (fun hi2=>?_)
   ·have hi2:i<s.size:=by have:=qG hi2;omega
    refine qa ?_;intros;refine y7 rfl rfl hi2 ?_;refine qa ?_;intros;refine qj rfl rfl (LZ (vz s i)) ?_;rintro _ rfl;generalize hc:Zp (bt s i)=c;generalize hll:KO s i=l;have hc':=cD hc;have hl':=tY hll;by_cases h4:c=4
    ·subst h4;have hgap:∀b,(decide (l=0)||decide (l=4))=b->kn s i=b:=fun b hb=>by unfold kn FN;rw [hc,hll];simpa using hb
     rcases hl' with rfl|rfl|rfl|rfl|rfl|rfl
     ·refine qa ?_;intros;refine qb rfl (fun _=>?_) (fun h=>by cases h);refine qa ?_;intros;exact qc ⟨_,rfl,rfl,by rw [cE hi2 (hgap true rfl)]⟩
     rotate_left 3
     ·refine qa ?_;intros;refine qb rfl (fun _=>?_) (fun h=>by cases h);refine qa ?_;intros;exact qc ⟨_,rfl,rfl,by rw [cE hi2 (hgap true rfl)]⟩
     all_goals
      have hb:=hgap false rfl;have hls:KO s (i+1)=4:=hc;refine qa ?_;intros;refine qb rfl (fun h=>by cases h) (fun _=>?_);refine qa ?_;intros;refine⟨m-1,oM,_,_,_,[],?wk,i+1,oM,fun j hj=>?_,rfl,rfl,rfl⟩
      case wk=>rw [hls];exact ql
      by_cases e:j=i
      ·rw [e];exact hb
      ·exact hok j oM
    ·have hb:kn s i=false:=by unfold kn FN;rw [hc];simp [h4]
     have hls:KO s (i+1)=c:=hc;rcases hc' with rfl|rfl|rfl|rfl|rfl
     all_goals try exact absurd rfl h4
     all_goals
      refine qa ?_;intros;refine qb rfl (fun h=>by cases h) (fun _=>?_);refine qa ?_;intros;refine⟨m-1,oM,_,_,_,[],?wk,i+1,oM,fun j hj=>?_,rfl,rfl,rfl⟩
      case wk=>rw [hls];exact ql
      by_cases e:j=i
      ·rw [e];exact hb
      ·exact hok j oM
   ·have hi2:i=s.size:=by have:=qQ hi2;omega
    subst hi2;refine qa ?_;intros;exact qc ⟨_,rfl,rfl,by
     have:((List.range s.size).all fun i=>!kn s i)=true:=List.all_eq_true.2 fun j hj=>by rw [hok j (List.mem_range.1 hj)];rfl
     simp [xo,this,ht,hl.1,hl.2,bne];rfl⟩
end Go.Ah

namespace Go.Ah
open Go.Ab Go.Proofs
theorem zC{α:Type}{f:α->List FD}{e:Nat}(hf:∀x,(f x).length=e):∀{l:List α} {i:Nat} {x:α},l[i]?=some x->qT (l.flatMap f) (i*e) e=some (f x)
 |[],i,x,h=>by simp at h
 |y::l,0,x,h=>by
  simp at h;subst h;have:=hf y;rw [Nat.zero_mul,zw (by simp;omega)];simp [List.take_append_of_le_length,<-this]
 |y::l,i+1,x,h=>by
  have ih:=zC hf (l:=l) (i:=i) (x:=x) (by simpa using h);have hy:=hf y;obtain⟨h1,h2⟩:=x6 ih;rw [List.flatMap_cons,Nat.add_mul,Nat.one_mul,zw (by rw [List.length_append];omega)];rw [show i*e+e=(f y).length+i*e by omega,<-List.drop_drop,List.drop_append_of_le_length (Nat.le_refl _),List.drop_length,List.nil_append,<-h2]
theorem zO{α:Type}{f:α->List FD}{e:Nat}(hf:∀x,(f x).length=e)(l:List α):(l.flatMap f).length=l.length*e:=by
 induction l with
 |nil=>simp
 |cons x l ih=>simp [ih,hf x,Nat.add_mul];omega
theorem qp{α:Type}(l:List α){n:Nat}(h:l.length=n):qT l 0 n=some l:=by
 subst h;rw [zw (by omega)];simp
abbrev qd:=Int × Int
def qh(p:qd):List FD:=[.c (.int .i64 p.1),.c (.int .i64 p.2)]
def qx(l:List qd):DV:=.one (.f (.sl 2 l.length (l.flatMap qh)))
def xI(p:qd):DV:=.agg [.f (.c (.int .i64 p.1)),.f (.c (.int .i64 p.2))]
theorem qY{l:List qd}{i:Nat}{x:qd}(h:l[i]?=some x):qT (l.flatMap qh) (i*2) 2=some (qh x):=zC (e:=2) (fun _=>rfl) h
theorem qL(l:List qd):(l.flatMap qh).length=l.length*2:=zO (f:=qh) (e:=2) (fun _=>rfl) l
structure Blk where
 kind:Int
 level:Int
 text:ByteArray
 rows:List (List ByteArray)
 f:List (Int × Int)
 w:Int
 h:Int
 gap:Int
 nf:Nat
 ff:List FD
 page:Int
abbrev FD.int(n:Int):FD:=.c (.int .i64 n)
def kw(r:List ByteArray):FD:=.sl 1 r.length (r.map fun s=>.c (.str s))
def Qg(l:List (List ByteArray)):FD:=.sl 1 l.length (l.map kw)
def jP(n:Int × Int):List FD:=[FD.int n.1,FD.int n.2]
def pK(l:List (Int × Int)):FD:=.sl 2 l.length (l.flatMap jP)
def yC(b:Blk):List FD:=[FD.int b.kind,FD.int b.level,.c (.str b.text),Qg b.rows,pK b.f,FD.int b.w,FD.int b.h,FD.int b.gap,.sl 3 b.nf b.ff,FD.int b.page]
def vA(b:Blk):DV:=.agg ((yC b).map .f)
def jf(l:List Blk):DV:=.one (.f (.sl 10 l.length (l.flatMap yC)))
theorem HV:∀x y:Bool,(if x=true then y else false)=(x&&y):=by decide
def yp(b:Blk):Bool:=b.level==0&&b.text.data.toList==[]&&(b.rows.length:Int)==0&&(b.f.length:Int)==0&&b.page==0&&b.w==0&&b.h==0&&b.gap==0&&(b.nf:Int)==0
theorem ZM{b:Blk}:DK 40 [vA b] fun d=>d=.bool (yp b):=by
 refine qI fun Z0 lo=>?_;refine qa ?_;intros;refine qc ⟨_,rfl,rfl,congrArg (fun z=>DV.bool z) ?_⟩;unfold yp;simp only [HV,Bool.false_eq_true,if_false]
def jh(l:List (List ByteArray)):Bool:=decide (1<=l.length)&&decide (l.length<=6)&&decide (1<=(l.getD 0 []).length)&&decide ((l.getD 0 []).length<=4)&&l.all fun r=>decide (r.length=(l.getD 0 []).length)&&r.all fun s=>decide (s.size<=40)&&xo s
theorem s5(l:List (List ByteArray)):l.flatMap (fun r=>[kw r])=l.map kw:=by
 induction l with
 |nil=>rfl
 |cons a l ih=>rw [List.flatMap_cons,ih];rfl
theorem JW{l:List (List ByteArray)}{i:Nat}{r:List ByteArray}(h:l[i]?=some r):qT (l.map kw) (i*1) 1=some [kw r]:=by
 have:=zC (f:=fun r=>[kw r]) (e:=1) (fun _=>rfl) h
 rwa [s5] at this
theorem sD(l:List ByteArray):l.flatMap (fun s=>[FD.c (.str s)])=l.map fun s=>.c (.str s):=by
 induction l with
 |nil=>rfl
 |cons a l ih=>rw [List.flatMap_cons,ih];rfl
theorem lJ{l:List ByteArray}{i:Nat}{s:ByteArray}(h:l[i]?=some s):qT (l.map fun s=>FD.c (.str s)) (i*1) 1=some [.c (.str s)]:=by
 have:=zC (f:=fun s=>[FD.c (.str s)]) (e:=1) (fun _=>rfl) h
 rwa [sD] at this
def Z6(m:Nat)(r:List ByteArray):Bool:=decide (r.length=m)&&r.all fun s=>decide (s.size<=40)&&xo s
theorem r9{l:List (List ByteArray)}{i:Nat}{r:List ByteArray}(h:l[i]?=some r)(hr:Z6 (l.getD 0 []).length r=false):jh l=false:=by
 have:(l.all fun r=>decide (r.length=(l.getD 0 []).length)&&r.all fun s=>decide (s.size<=40)&&xo s)=false:=by
  rw [Bool.eq_false_iff];intro hh;have:=List.all_eq_true.1 hh r (zmg h);rw [show (decide (r.length=(l.getD 0 []).length)&&r.all fun s=>decide (s.size<=40)&&xo s)=Z6 (l.getD 0 []).length r from rfl,hr] at this;cases this
 simp only [jh,this,Bool.and_false]
theorem NP{m:Nat}{r:List ByteArray}{k:Nat}{s:ByteArray}(h:r[k]?=some s)(hs:(decide (s.size<=40)&&xo s)=false):Z6 m r=false:=by
 have:(r.all fun s=>decide (s.size<=40)&&xo s)=false:=by
  rw [Bool.eq_false_iff];intro hh;have:=List.all_eq_true.1 hh s (zmg h);rw [hs] at this;cases this
 simp only [Z6,this,Bool.and_false]
theorem Cn{l:List (List ByteArray)}(hsz:∀r∈l,r.length<1000000):DK 37 [.one (.f (Qg l))] fun d=>d=.bool (jh l):=by
 refine qI fun Z0 lo=>?_;by_cases h1:(l.length:Int)<1
 ·have e1:decide ((l.length:Int)<1)=true:=decide_eq_true h1;refine qa ?_;intros;simp only [e1];refine qa ?_;intros;refine qb (t:=true) rfl (fun _=>?_) (fun h=>by cases h);refine qa ?_;intros;exact qc ⟨_,rfl,rfl,by rw [show jh l=false by simp [jh];omega]⟩
 ·have e1:decide ((l.length:Int)<1)=false:=decide_eq_false h1;obtain⟨r0,h0⟩:∃r,l[0]?=some r:=⟨_,zge oM⟩;have hr0:l.getD 0 []=r0:=by rw [List.getD_eq_getElem?_getD,h0];rfl
  have hs0:=JW h0;by_cases h6:(l.length:Int)>6
  ·have e6:decide ((l.length:Int)>6)=true:=decide_eq_true h6;refine qa ?_;intros;simp only [e1];refine qa ?_;intros;simp only [e6];refine qa ?_;intros;refine qb (t:=true) rfl (fun _=>?_) (fun h=>by cases h);refine qa ?_;intros;exact qc ⟨_,rfl,rfl,by rw [show jh l=false by simp [jh];omega]⟩
  ·have e6:decide ((l.length:Int)>6)=false:=decide_eq_false h6;by_cases h3:(r0.length:Int)<1
   ·have e3:decide ((r0.length:Int)<1)=true:=decide_eq_true h3;refine qa ?_;intros;simp only [e1];refine qa ?_;intros;simp only [e6];refine qa ?_;intros;simp only [e3];refine qa ?_;intros;refine qb (t:=true) rfl (fun _=>?_) (fun h=>by cases h);refine qa ?_;intros;exact qc ⟨_,rfl,rfl,by
     have:decide (1<=(l.getD 0 []).length)=false:=by rw [hr0];exact decide_eq_false (by omega)
     rw [show jh l=false by simp only [jh,this,Bool.and_false,Bool.false_and]]⟩
   ·have e3:decide ((r0.length:Int)<1)=false:=decide_eq_false h3;refine qa ?_;intros;simp only [e1];refine qa ?_;intros;simp only [e6];refine qa ?_;intros;simp only [e3];refine qa ?_;intros;refine qb (t:=decide ((r0.length:Int)>4)) rfl (fun h4=>?_) (fun h4=>?_)
    ·have h4:=qG h4;refine qa ?_;intros;exact qc ⟨_,rfl,rfl,by
      have:decide ((l.getD 0 []).length<=4)=false:=by rw [hr0];exact decide_eq_false (by omega)
      rw [show jh l=false by simp only [jh,this,Bool.and_false,Bool.false_and]]⟩
    ·have h4:=qQ h4;refine qa ?_;intros;refine qm (fun m E S nk=>∃i:Nat,i+m=l.length/\(∀(j:Nat) r,j<i->l[j]?=some r->Z6 r0.length r=true)/\E=[(0,.one (.f (Qg l))),(29,.one (.f (Qg l))),(30,.int l.length),(31,.int i)]/\S=[]/\nk=0)
      ⟨l.length,_,_,_,[],?wk,0,oM,fun j r hj=>oM,rfl,rfl,rfl⟩ ?_
     case wk=>exact ql
     rintro m E S nk ⟨i,hi,hok,rfl,rfl,rfl⟩;refine qa ?_;intros;refine qb rfl (fun hi2=>?_) (fun hi2=>?_)
     ·have hi2:i<l.length:=by have:=qG hi2;omega
      obtain⟨r,hr⟩:∃r,l[i]?=some r:=⟨_,zge hi2⟩;have hsr:=JW hr;have hlr:=hsz r (zmg hr);refine qa ?_;intros;refine qb (t:=!decide ((r.length:Int)=r0.length)) rfl (fun hb=>?_) (fun hb=>?_)
      ·refine qa ?_;intros;exact qc ⟨_,rfl,rfl,by
        have hb:¬(r.length:Int)=r0.length:=by simpa using hb
        rw [r9 hr (by rw [hr0];have:decide (r.length=r0.length)=false:=decide_eq_false (by omega);simp only [Z6,this,Bool.false_and])]⟩
      ·have hb:(r.length:Int)=r0.length:=by simpa using hb
       refine qa ?_;intros;refine qm (fun m E S nk=>∃k:Nat,k+m=r.length/\(∀(j:Nat) s,j<k->r[j]?=some s->(decide (s.size<=40)&&xo s)=true)/\E=[(0,.one (.f (Qg l))),(29,.one (.f (Qg l))),(30,.int l.length),(31,.int i),(42,.one (.f (kw r))),(43,.int r.length),(44,.int k)]/\S=[]/\nk=0)
        ⟨r.length,_,_,_,[],?wk,0,oM,fun j r hj=>oM,rfl,rfl,rfl⟩ ?_
       case wk=>exact ql
       rintro m2 E S nk ⟨k,hk,hok2,rfl,rfl,rfl⟩;refine qa ?_;intros;refine qb rfl (fun hk2=>?_) (fun hk2=>?_)
       ·have hk2:k<r.length:=by have:=qG hk2;omega
        obtain⟨s,hs⟩:∃s,r[k]?=some s:=⟨_,zge hk2⟩;have hss:=lJ hs;have no:(decide (s.size<=40)&&xo s)=false->jh l=false:=fun h=>r9 hr (by rw [hr0];exact NP hs h);by_cases h40:(s.size:Int)>40
        ·have e40:decide ((s.size:Int)>40)=true:=decide_eq_true h40;refine qa ?_;intros;simp only [e40];refine qa ?_;intros;refine qb (t:=true) rfl (fun _=>?_) (fun h=>by cases h);refine qa ?_;intros;exact qc ⟨_,rfl,rfl,by rw [no (by rw [decide_eq_false (by omega),Bool.false_and])]⟩
        ·have e40:decide ((s.size:Int)>40)=false:=decide_eq_false h40;refine qa ?_;intros;simp only [e40];refine qa ?_;intros;refine qj rfl rfl Wm ?_;rintro _ rfl;refine qa ?_;intros;refine qb (t:=!xo s) rfl (fun hb2=>?_) (fun hb2=>?_)
         ·have hb2:xo s=false:=by simpa using hb2
          refine qa ?_;intros;exact qc ⟨_,rfl,rfl,by rw [no (by rw [hb2,Bool.and_false])]⟩
         ·have hb2:xo s=true:=by simpa using hb2
          refine qa ?_;intros;refine⟨m2-1,oM,_,_,_,[],?wk,k+1,oM,fun j s' hj hs'=>?_,rfl,rfl,rfl⟩
          case wk=>exact ql
          by_cases e:j=k
          ·subst e;rw [hs] at hs';obtain rfl:=zsi hs';rw [hb2,decide_eq_true (by omega),Bool.and_true]
          ·exact hok2 j s' oM hs'
       ·have hk2:k=r.length:=by have:=qQ hk2;omega
        subst hk2;refine qa ?_;intros;refine⟨m-1,oM,_,_,_,[],?wk,i+1,oM,fun j r' hj hr'=>?_,rfl,rfl,rfl⟩
        case wk=>exact ql
        by_cases e:j=i
        ·subst e;rw [hr] at hr';obtain rfl:=zsi hr';have:(r.all fun s=>decide (s.size<=40)&&xo s)=true:=List.all_eq_true.2 fun s hs=>by
          obtain⟨q,hq⟩:=List.getElem?_of_mem hs;exact hok2 q s (zgs hq).1 hq
         rw [Z6,this,decide_eq_true (by omega),Bool.and_true]
        ·exact hok j r' oM hr'
     ·have hi2:i=l.length:=by have:=qQ hi2;omega
      subst hi2;refine qa ?_;intros;exact qc ⟨_,rfl,rfl,by
       have:(l.all fun r=>decide (r.length=(l.getD 0 []).length)&&r.all fun s=>decide (s.size<=40)&&xo s)=true:=List.all_eq_true.2 fun r hr=>by
        obtain⟨j,hj⟩:=List.getElem?_of_mem hr;rw [hr0];exact hok j r (zgs hj).1 hj
       have g1:decide (1<=l.length)=true:=decide_eq_true oM;have g2:decide (l.length<=6)=true:=decide_eq_true oM;have g3:decide (1<=(l.getD 0 []).length)=true:=by rw [hr0];exact decide_eq_true (by omega)
       have g4:decide ((l.getD 0 []).length<=4)=true:=by rw [hr0];exact decide_eq_true (by omega)
       rw [show jh l=true by simp only [jh,this,g1,g2,g3,g4,Bool.and_true]]⟩
def yT(b:Blk):Bool:=
 if b.kind=1\/b.kind=4 then xo b.text&&yp { b with text:=⟨#[]⟩ }
 else if b.kind=2 then decide (1<=b.level)&&decide (b.level<=3)&&xo b.text&&yp { b with text:=⟨#[]⟩,level:=0 }
 else if b.kind=3 then jh b.rows&&yp { b with rows:=[] }
 else if b.kind=7 then decide (1<=b.page)&&decide (b.page<=9999)&&yp { b with page:=0 }
 else false
def GP(d' d:DC):Prop:=d'=d\/(d'=.f (.c .nils)/\∃e,d=.f (.sl e 0 []))
theorem iL{Z:Nat->Prop}{H:Hp}:∀{l' l:List DC} {cs:List C},qe GP l' l->qe (RD Z H jA) l' cs->qe (RD Z H jA) l cs
 |[],[],[],_,_=>trivial
 |a::l',b::l,c::cs,h,k=>⟨by
  rcases h.1 with e|⟨e1,e,e2⟩
  ·rw [<-e];exact k.1
  ·have h1:=k.1;rw [e1] at h1;rw [e2];cases h1;exact .nil e,iL h.2 k.2⟩
 |[],_::_,_,h,_=>h.elim
 |_::_,[],_,h,_=>h.elim
 |[],[],_::_,_,h=>h.elim
 |_::_,_::_,[],_,h=>h.elim
theorem Kg{b:Blk}{l':List DC}(h:qe GP l' ((yC b).map .f)):DK 40 [.agg l'] fun d=>d=.bool (yp b):=fun H Z args hw hz hg ha=>by
 match args,ha with
 |[v],⟨⟨cs,e,hcs⟩,_⟩=>
  subst e;exact ZM (b:=b) H Z [.agg cs] hw hz hg ⟨⟨cs,rfl,iL h hcs⟩,trivial⟩
theorem DY{b:Blk}(hk:b.kind=1):DK 19 [vA b] fun d=>d=.bool (xo b.text&&yp { b with text:=⟨#[]⟩ }):=by
 obtain⟨kind,level,text,rows,f,w,h,gap,nf,ff,page⟩:=b;simp only at hk;subst hk;refine qI fun Z0 lo=>?_;refine qa ?_;intros;refine qb (t:=true) rfl (fun _=>?_) (fun h=>by cases h);refine qa ?_;intros;refine qb (t:=true) rfl (fun _=>?_) (fun h=>by cases h);refine qa ?_;intros;refine qj rfl rfl Wm ?_;rintro _ rfl;generalize hc:xo text=ok;cases ok
 ·refine qa ?_;intros;exact qc ⟨_,rfl,rfl,by simp only [hc,Bool.false_and]⟩
 ·refine qa ?_;intros;refine qj rfl rfl (ZM (b:=⟨1,level,⟨#[]⟩,rows,f,w,h,gap,nf,ff,page⟩)) ?_;rintro _ rfl;refine qa ?_;intros;exact qc ⟨_,rfl,rfl,by simp only [hc,Bool.true_and]⟩
theorem DT{b:Blk}(hk:b.kind=4):DK 19 [vA b] fun d=>d=.bool (xo b.text&&yp { b with text:=⟨#[]⟩ }):=by
 obtain⟨kind,level,text,rows,f,w,h,gap,nf,ff,page⟩:=b;simp only at hk;subst hk;refine qI fun Z0 lo=>?_;refine qa ?_;intros;refine qb (t:=false) rfl (fun h=>by cases h) (fun _=>?_);refine qa ?_;intros;refine qb (t:=true) rfl (fun _=>?_) (fun h=>by cases h);refine qa ?_;intros;refine qj rfl rfl Wm ?_;rintro _ rfl;generalize hc:xo text=ok;cases ok
 ·refine qa ?_;intros;exact qc ⟨_,rfl,rfl,by simp only [hc,Bool.false_and]⟩
 ·refine qa ?_;intros;refine qj rfl rfl (ZM (b:=⟨4,level,⟨#[]⟩,rows,f,w,h,gap,nf,ff,page⟩)) ?_;rintro _ rfl;refine qa ?_;intros;exact qc ⟨_,rfl,rfl,by simp only [hc,Bool.true_and]⟩
theorem DU{b:Blk}(hsz:∀r∈b.rows,r.length<1000000)(hk:b.kind=3):DK 19 [vA b] fun d=>d=.bool (jh b.rows&&yp { b with rows:=[] }):=by
 obtain⟨kind,level,text,rows,f,w,h,gap,nf,ff,page⟩:=b;simp only at hk;subst hk;refine qI fun Z0 lo=>?_;refine qa ?_;intros;refine qb (t:=false) rfl (fun h=>by cases h) (fun _=>?_);refine qa ?_;intros;refine qb (t:=false) rfl (fun h=>by cases h) (fun _=>?_);refine qa ?_;intros;refine qb (t:=false) rfl (fun h=>by cases h) (fun _=>?_);refine qa ?_;intros;refine qb (t:=true) rfl (fun _=>?_) (fun h=>by cases h);refine qa ?_;intros;refine qj rfl rfl (Cn hsz) ?_;rintro _ rfl;generalize hc:jh rows=ok;cases ok
 ·refine qa ?_;intros;exact qc ⟨_,rfl,rfl,by simp only [hc,Bool.false_and]⟩
 ·refine qa ?_;intros;refine qj rfl rfl (Kg (b:=⟨3,level,text,[],f,w,h,gap,nf,ff,page⟩) ⟨.inl rfl,.inl rfl,.inl rfl,.inr ⟨rfl,1,rfl⟩,.inl rfl,.inl rfl,.inl rfl,.inl rfl,.inl rfl,.inl rfl,trivial⟩) ?_;rintro _ rfl;refine qa ?_;intros;exact qc ⟨_,rfl,rfl,by simp only [hc,Bool.true_and]⟩
theorem DQ{b:Blk}(hk:b.kind=7):DK 19 [vA b] fun d=>d=.bool ((decide (b.page>=1)&&decide (b.page<=9999))&&yp { b with page:=0 }):=by
 obtain⟨kind,level,text,rows,f,w,h,gap,nf,ff,page⟩:=b;simp only at hk;subst hk;refine qI fun Z0 lo=>?_;refine qa ?_;intros;refine qb (t:=false) rfl (fun h=>by cases h) (fun _=>?_);refine qa ?_;intros;refine qb (t:=false) rfl (fun h=>by cases h) (fun _=>?_);refine qa ?_;intros;refine qb (t:=false) rfl (fun h=>by cases h) (fun _=>?_);refine qa ?_;intros;refine qb (t:=false) rfl (fun h=>by cases h) (fun _=>?_);refine qa ?_;intros;refine qb (t:=false) rfl (fun h=>by cases h) (fun _=>?_);refine qa ?_;intros;refine qb (t:=false) rfl (fun h=>by cases h) (fun _=>?_);refine qa ?_;intros;refine qb (t:=true) rfl (fun _=>?_) (fun h=>by cases h);refine qa ?_;intros;cases e1:decide (page>=1) with
 |false=>
  try simp only [e1]
  refine qa ?_;intros;exact qc ⟨_,rfl,rfl,by simp only [e1,Bool.false_and]⟩
 |true=>
  cases e2:decide (page<=9999) with
  |false=>
   try simp only [e1,e2]
   refine qa ?_;intros;exact qc ⟨_,rfl,rfl,by simp only [e1,e2,Bool.and_false,Bool.false_and]⟩
  |true=>
   try simp only [e1,e2]
   refine qa ?_;intros;refine qj rfl rfl (ZM (b:=⟨7,level,text,rows,f,w,h,gap,nf,ff,0⟩)) ?_;rintro _ rfl;refine qa ?_;intros;exact qc ⟨_,rfl,rfl,by simp only [e1,e2,Bool.true_and]⟩
theorem DW{b:Blk}(hk:b.kind=2):DK 19 [vA b] fun d=>d=.bool ((decide (b.level>=1)&&decide (b.level<=3))&&xo b.text&&yp { b with text:=⟨#[]⟩,level:=0 }):=by
 obtain⟨kind,level,text,rows,f,w,h,gap,nf,ff,page⟩:=b;simp only at hk;subst hk;refine qI fun Z0 lo=>?_;refine qa ?_;intros;refine qb (t:=false) rfl (fun h=>by cases h) (fun _=>?_);refine qa ?_;intros;refine qb (t:=false) rfl (fun h=>by cases h) (fun _=>?_);refine qa ?_;intros;refine qb (t:=true) rfl (fun _=>?_) (fun h=>by cases h);refine qa ?_;intros;cases e1:decide (level>=1) with
 |false=>
  try simp only [e1]
  refine qa ?_;intros;exact qc ⟨_,rfl,rfl,by simp only [e1,Bool.false_and]⟩
 |true=>
  cases e2:decide (level<=3) with
  |false=>
   try simp only [e1,e2]
   refine qa ?_;intros;exact qc ⟨_,rfl,rfl,by simp only [e1,e2,Bool.and_false,Bool.false_and]⟩
  |true=>
   try simp only [e1,e2]
   refine qa ?_;intros;refine qj rfl rfl Wm ?_;rintro _ rfl;generalize hc:xo text=ok;cases ok
   ·refine qa ?_;intros;exact qc ⟨_,rfl,rfl,by simp only [e1,e2,hc,Bool.and_false,Bool.false_and]⟩
   ·refine qa ?_;intros;refine qj rfl rfl (ZM (b:=⟨2,0,⟨#[]⟩,rows,f,w,h,gap,nf,ff,page⟩)) ?_;rintro _ rfl;refine qa ?_;intros;exact qc ⟨_,rfl,rfl,by simp only [e1,e2,hc,Bool.true_and]⟩
inductive NilF:FD->FD->Prop where
 |refl (d:FD):NilF d d
 |nil (e:Nat):NilF (.c .nils) (.sl e 0 [])
 |sl {e n:Nat} {l' l:List FD}:l'.length=l.length->(∀(i:Nat) a b,l'[i]?=some a->l[i]?=some b->NilF a b)->NilF (.sl e n l') (.sl e n l)
theorem NilF.ok{Z:Nat->Prop}{H:Hp}{d' d:FD}(h:NilF d' d):∀{c:C},RF Z H d' c->RF Z H d c:=by
 induction h with
 |refl d=>exact fun h=>h
 |nil e=>intro c h;cases h;exact .nil e
 | @sl e n l' l hl _ ih=>
  intro c h;cases h with
  |nil _=>cases l with
   |nil=>exact .nil e
   |cons _ _=>simp at hl
  | @sl _ _ b o cap ex _ cs hz hn hc hld hall=>
   refine .sl hz oM hc hld fun i d c hd hc'=>?_;have hi:i<l'.length:=by have:=(zgs hd).1;omega
   obtain⟨a,ha⟩:∃a,l'[i]?=some a:=⟨_,zge hi⟩;exact ih i a d ha hd (hall i a c ha hc')
def Gb(b:Blk):Prop:=(b.kind=1\/b.kind=2\/b.kind=3\/b.kind=4\/b.kind=7)/\∀r∈b.rows,r.length<1000000
theorem ZL{b:Blk}(h:Gb b):DK 19 [vA b] fun d=>d=.bool (yT b):=by
 obtain⟨hk,hsz⟩:=h;unfold yT;rcases hk with h|h|h|h|h
 ·rw [if_pos (Or.inl h)];exact DY h
 ·rw [if_neg (by omega),if_pos h];exact DW h
 ·rw [if_neg (by omega),if_neg (by omega),if_pos h];exact DU hsz h
 ·rw [if_pos (Or.inr h)];exact DT h
 ·rw [if_neg (by omega),if_neg (by omega),if_neg (by omega),if_pos h];exact DQ h
def XF(R:Blk->Bool):Int->Int->Nat->List Blk->Int × Int
 |_,_,_,[]=>(0,0)
 |prev,page,i,b::l=>
  if R b=false then (i,170)
  else if b.kind=4/\(i=0\/prev≠1/\prev≠4) then (i,170)
  else if b.kind=7/\b.page<=page then (i,170)
  else XF R b.kind (if b.kind=7 then b.page else page) (i+1) l
def jX(R:Blk->Bool)(l:List Blk):Int × Int:=if l.length>100 then (-1,2) else XF R 0 0 0 l
def kW(R:Blk->Bool)(l:List Blk):Bool:=decide ((jX R l).2=0)
structure At (R:Blk->Bool) (l:List Blk) (i:Nat) (page:Int):Prop where
 eq:XF R 0 0 0 l=XF R (match i with|0=>0|j+1=>(l.getD j ⟨0,0,⟨#[]⟩,[],[],0,0,0,0,[],0⟩).kind) page i (l.drop i)
theorem At.zero(R:Blk->Bool)(l:List Blk):At R l 0 0:=⟨rfl⟩
theorem At.done{R:Blk->Bool}{l:List Blk}{page:Int}(h:At R l l.length page):XF R 0 0 0 l=(0,0):=by
 rw [h.eq,List.drop_length];rfl
theorem nI{α:Type}{l:List α}{i:Nat}{b:α}(h:l[i]?=some b):l.drop i=b::l.drop (i+1):=by
 obtain⟨hi,e⟩:=zgs h;rw [List.drop_eq_getElem_cons hi,e]
theorem At.step{R:Blk->Bool}{l:List Blk}{i:Nat}{page:Int}{b:Blk}(h:At R l i page)(hb:l[i]?=some b)(h1:R b=true)(h2:¬(b.kind=4/\(i=0\/(l.getD (i-1) ⟨0,0,⟨#[]⟩,[],[],0,0,0,0,[],0⟩).kind≠1/\(l.getD (i-1) ⟨0,0,⟨#[]⟩,[],[],0,0,0,0,[],0⟩).kind≠4)))(h3:¬(b.kind=7/\b.page<=page)):At R l (i+1) (if b.kind=7 then b.page else page):=by
 refine⟨?_⟩;rw [h.eq,nI hb];have e:(l.getD i ⟨0,0,⟨#[]⟩,[],[],0,0,0,0,[],0⟩)=b:=by rw [List.getD_eq_getElem?_getD,hb];rfl
 simp only [XF,h1,e];cases i with
 |zero=>
  simp only at h2 ⊢;rw [if_neg (by decide),if_neg (by simpa using h2),if_neg h3]
 |succ j=>
  rw [Nat.add_sub_cancel] at h2;simp only at h2 ⊢;rw [if_neg (by decide),if_neg (by simpa using h2),if_neg h3]
theorem At.bad{R:Blk->Bool}{l:List Blk}{i:Nat}{page:Int}{b:Blk}(h:At R l i page)(hb:l[i]?=some b)(hc:R b=false\/(b.kind=4/\(i=0\/(l.getD (i-1) ⟨0,0,⟨#[]⟩,[],[],0,0,0,0,[],0⟩).kind≠1/\(l.getD (i-1) ⟨0,0,⟨#[]⟩,[],[],0,0,0,0,[],0⟩).kind≠4))\/(b.kind=7/\b.page<=page)):XF R 0 0 0 l=((i:Int),170):=by
 rw [h.eq,nI hb];unfold XF;by_cases h1:R b=false
 ·rw [if_pos h1]
 ·rw [if_neg h1];cases i with
  |zero=>
   simp only at hc ⊢;by_cases h2:b.kind=4
   ·rw [if_pos ⟨h2,.inl trivial⟩]
   ·rw [if_neg (by simp [h2])];rcases hc with h|h|h
    ·exact absurd h h1
    ·exact absurd h.1 h2
    ·rw [if_pos h]
  |succ j=>
   rw [Nat.add_sub_cancel] at hc;simp only at hc ⊢;rcases hc with h|⟨h2,h⟩|h
   ·exact absurd h h1
   ·rw [if_pos ⟨h2,.inr (by simpa using h)⟩]
   ·by_cases h2:b.kind=4/\(j+1=0\/(l.getD j ⟨0,0,⟨#[]⟩,[],[],0,0,0,0,[],0⟩).kind≠1/\(l.getD j ⟨0,0,⟨#[]⟩,[],[],0,0,0,0,[],0⟩).kind≠4)
    ·rw [if_pos h2]
    ·rw [if_neg h2,if_pos h]
theorem kh{l:List Blk}{i:Nat}{b:Blk}(h:l[i]?=some b):qT (l.flatMap yC) (i*10) 10=some (yC b):=zC (f:=yC) (e:=10) (fun _=>rfl) h
theorem L1{R:Blk->Bool}{l:List Blk}(hR:∀b∈l,DK 19 [vA b] fun d=>d=.bool (R b)):DK 12 [jf l] fun d=>d=.tup [.int (jX R l).1,.int (jX R l).2]:=by
 refine qI fun Z0 lo=>?_;refine qa ?_;intros;refine qb (t:=decide ((l.length:Int)>100)) rfl (fun h1=>?_) (fun h1=>?_)
 ·have h1:=qG h1;refine qa ?_;intros;exact qc ⟨_,rfl,rfl,by rw [jX,if_pos (by omega)]⟩
 ·have h1:=qQ h1;refine qa ?_;intros;refine qm (fun m E S nk=>∃(i:Nat) (page:Int),i+m=l.length/\At R l i page/\E=[(0,jf l),(4,.int page),(10,jf l),(11,.int l.length),(12,.int i)]/\S=[]/\nk=0)
   ⟨l.length,_,_,_,[],?wk,0,0,oM,At.zero R l,rfl,rfl,rfl⟩ ?_
  case wk=>exact ql
  rintro m E S nk ⟨i,page,hi,hat,rfl,rfl,rfl⟩;refine qa ?_;intros;refine qb rfl (fun hi2=>?_) (fun hi2=>?_)
  ·have hi2:i<l.length:=by have:=qG hi2;omega
   obtain⟨b,hb⟩:∃b,l[i]?=some b:=⟨_,zge hi2⟩;have hsb:=kh hb;have hRb:=hR b (zmg hb);refine qa ?_;intros;refine qj rfl rfl hRb ?_;rintro _ rfl;refine qa ?_;intros;refine qb (t:=!R b) rfl (fun hc=>?_) (fun hc=>?_)
   ·have hc:R b=false:=by simpa using hc
    refine qa ?_;intros;exact qc ⟨_,rfl,rfl,by rw [jX,if_neg (by omega),hat.bad hb (.inl hc)]⟩
   ·have hc:R b=true:=by simpa using hc
    refine qa ?_;intros;refine qb (t:=decide (b.kind=4)) rfl (fun hk=>?_) (fun hk=>?_)
    ·have hk:=qG hk;cases i with
     |zero=>
      have e0:decide (((0:Nat):Int)=0)=true:=rfl;refine qa ?_;intros;refine qb (t:=true) rfl (fun _=>?_) (fun h=>by cases h);refine qa ?_;intros;exact qc ⟨_,rfl,rfl,by rw [jX,if_neg (by omega),hat.bad hb (.inr (.inl ⟨hk,.inl rfl⟩))]⟩
     |succ j=>
      obtain⟨q,hq⟩:∃q,l[j]?=some q:=⟨_,zge oM⟩;have hsq:=kh hq;have e0:(((j+1:Nat):Int)==0)=false:=by rw [beq_eq_false_iff_ne];omega
      have eg:(l.getD (j+1-1) ⟨0,0,⟨#[]⟩,[],[],0,0,0,0,[],0⟩)=q:=by rw [Nat.add_sub_cancel,List.getD_eq_getElem?_getD,hq];rfl
      refine qa ?_;intros;simp only [e0];rw [show (IntKind.i64.wrap (((j+1:Nat):Int)-1))=((j:Nat):Int) by rw [qg (by omega) (by omega)];omega];refine qa ?_;intros;have hg (hok:¬(q.kind≠1/\q.kind≠4)):At R l (j+1+1) page:=by
       have hn:=hat.step hb hc (fun h=>by
        rw [eg] at h;rcases h.2 with h|h;· omega
        ·exact hok h) (fun h=>by omega)
       rwa [if_neg oM] at hn
      have hbad (hno:q.kind≠1/\q.kind≠4):jX R l=(((j+1:Nat):Int),170):=by
       rw [jX,if_neg (by omega),hat.bad hb (.inr (.inl ⟨hk,.inr (by rw [eg];exact hno)⟩))]
      cases e1:(q.kind !=1) with
      |false=>
       have e1':q.kind=1:=by simpa using e1
       simp only [e1,Bool.false_eq_true,if_false];refine qa ?_;intros;refine qb (t:=false) rfl (fun h=>by cases h) (fun _=>?_);refine qa ?_;intros;refine⟨m-1,oM,_,_,_,[],?wk,j+1+1,page,oM,hg (fun h=>h.1 e1'),rfl,rfl,rfl⟩
       case wk=>exact ql
      |true=>
       have e1':q.kind≠1:=by simpa using e1
       simp only [e1,if_true];rw [show (IntKind.i64.wrap (((j+1:Nat):Int)-1))=((j:Nat):Int) by rw [qg (by omega) (by omega)];omega];refine qa ?_;intros;refine qb (t:=(q.kind !=4)) rfl (fun h4=>?_) (fun h4=>?_)
       ·have h4:q.kind≠4:=by simpa using h4
        refine qa ?_;intros;exact qc ⟨_,rfl,rfl,by rw [hbad ⟨e1',h4⟩]⟩
       ·have h4:q.kind=4:=by simpa using h4
        refine qa ?_;intros;refine⟨m-1,oM,_,_,_,[],?wk,j+1+1,page,oM,hg (fun h=>h.2 h4),rfl,rfl,rfl⟩
        case wk=>exact ql
    ·have hk:=qQ hk;refine qa ?_;intros;refine qb (t:=decide (b.kind=7)) rfl (fun h7=>?_) (fun h7=>?_)
     ·have h7:=qG h7;refine qa ?_;intros;refine qb (t:=decide (b.page<=page)) rfl (fun hp=>?_) (fun hp=>?_)
      ·have hp:=qG hp;refine qa ?_;intros;exact qc ⟨_,rfl,rfl,by rw [jX,if_neg (by omega),hat.bad hb (.inr (.inr ⟨h7,hp⟩))]⟩
      ·have hp:=qQ hp;refine qa ?_;intros;have hn:=hat.step hb hc (fun h=>hk h.1) (fun h=>hp h.2);rw [if_pos h7] at hn;refine⟨m-1,oM,_,_,_,[],?wk,i+1,b.page,oM,hn,rfl,rfl,rfl⟩
       case wk=>exact ql
     ·have h7:=qQ h7;refine qa ?_;intros;have hn:=hat.step hb hc (fun h=>hk h.1) (fun h=>h7 h.1);rw [if_neg h7] at hn;refine⟨m-1,oM,_,_,_,[],?wk,i+1,page,oM,hn,rfl,rfl,rfl⟩
      case wk=>exact ql
  ·have hi2:i=l.length:=by have:=qQ hi2;omega
   subst hi2;refine qa ?_;intros;exact qc ⟨_,rfl,rfl,by rw [jX,if_neg (by omega),hat.done]⟩
theorem QY{R:Blk->Bool}{l:List Blk}(hR:∀b∈l,DK 19 [vA b] fun d=>d=.bool (R b)):DK 10 [jf l] fun d=>d=.bool (kW R l):=by
 refine qI fun Z0 lo=>?_;refine qa ?_;intros;refine qj rfl rfl (L1 hR) ?_;rintro _ rfl;refine qa ?_;intros;refine qc ⟨_,rfl,rfl,congrArg (fun z=>DV.bool z) ?_⟩;rw [kW];rfl
theorem o5:∀{l' l:List FD},qe NilF l' l->l'.length=l.length/\∀(i:Nat) a b,l'[i]?=some a->l[i]?=some b->NilF a b
 |[],[],_=>⟨rfl,fun i a b h=>by simp at h⟩
 |x::l',y::l,h=>⟨by simp only [List.length_cons,(o5 h.2).1],fun i a b ha hb=>by
  cases i with
  |zero=>simp at ha hb;subst ha;subst hb;exact h.1
  |succ i=>exact (o5 h.2).2 i a b (by simpa using ha) (by simpa using hb)⟩
 |[],_::_,h=>h.elim
 |_::_,[],h=>h.elim
theorem NilF.sl2{e n:Nat}{l' l:List FD}(h:qe NilF l' l):NilF (.sl e n l') (.sl e n l):=.sl (o5 h).1 (o5 h).2
def bk(kind level:Int)(text:ByteArray)(rows:List (List ByteArray))(page:Int):Blk:=⟨kind,level,text,rows,[],0,0,0,0,[],page⟩
theorem iQ{l1' l1:List FD}:∀{l2' l2:List FD},qe NilF l2' l2->qe NilF l1' l1->qe NilF (l2'++l1') (l2++l1)
 |[],[],_,h=>h
 |_::_,_::_,g,h=>⟨g.1,iQ g.2 h⟩
 |[],_::_,g,_=>g.elim
 |_::_,[],g,_=>g.elim
end Go.Ah

namespace Go.Ab
section
variable{p:Par}{base rs n:Nat}{Q:qo->Bx->Nat->Prop}{r:List SOper}{W:Wt}{A:List Nat}{E:qo}{S:Bx}{nk:Nat}{id:Nat}{dst:Option Nat}{aid:Option Nat}{ws:List Nat}{keep:Bool}
theorem nE{x y:Opd}{s t:ByteArray}(hx:ro E x=some (.one (.f (.c (.str s)))))(hy:ro E y=some (.one (.f (.c (.str t)))))(hs:s.size+t.size<=9223372036854775807)(h:DPW p base rs Q r W A (qX E dst (.one (.f (.c (.str (s++t)))))) S nk):DPW p base rs Q (⟨id,dst,.p (.scat x y),none,aid,ws,keep⟩::r) W A E S nk:=by
 refine js (fun {Z β H F} hE=>⟨.one (.str (s++t)),?_,zT rfl⟩) h;simp only [qn,xA hE hx,xA hE hy];rw [if_pos hs]
end
end Go.Ab

namespace Go.Ah
open Go.Ab Go.Proofs
set_option maxRecDepth 1000000 in
theorem NN:vo tabS tabE 5000 8 [] HS=some (.one (.bool true)):=by kernel_rfl
theorem DN:DK 8 [] fun d=>d=.bool true:=QQ (vs:=[]) trivial rfl rfl NN
end Go.Ah

namespace Go.Ah
open Go.Ab Go.Proofs
abbrev Ej:FD:=.c (.str ⟨#[97]⟩)
def Ek(k:Nat):FD:=.sl 1 k (List.replicate k Ej)
def zd(i k:Nat):FD:=.sl 1 i (List.replicate i (Ek k))
def size(a b:Nat):Bool:=decide (1<=a)&&decide (a<=6)&&decide (1<=b)&&decide (b<=4)
def GQ(a b c d:Nat):Bk:=.cells [.f (.c (.int .u8 a)),.f (.c (.int .u8 b)),.f (.c (.int .u8 c)),.f (.c (.int .u8 d))]
end Go.Ah

namespace Go.Ah
open Go.Ab Go.Proofs
theorem Qe{n:Int}(h:(Lit.int .u8 n).wf=true):∃m:Nat,n=m/\m<256:=by
 simp [Lit.wf,IntKind.min,IntKind.max,IntKind.signed,IntKind.bits] at h;exact⟨n.toNat,oM,oM⟩
def a4:Ty:=.agg (.pair (.int .u8) (.pair (.int .u8) (.pair (.int .u8) (.pair (.int .u8) .unit))))
end Go.Ah

namespace Go.Ah
open Go.Ab Go.Proofs
abbrev wd(op n:Int):DV:=.agg [.f (.c (.int .i64 op)),.f (.c (.int .i64 n))]
def yr(op n:Int):Int × Bool:=
 if op=0 then (0,decide (0<=n)&&decide (n<=99999))
 else if op=1 then (0,decide (0<=n)&&decide (n<=25))
 else if 2<=op/\op<=8 then (2,decide (n=0))
 else if 9<=op/\op<=11 then (1,decide (n=0))
 else if op=12 then (if n<2\/5<n then (0,false) else (n+1,true))
 else if op=13 then (if n<0 then (0,false) else (n/8*(n % 8),decide (1<=n/8)&&decide (n/8<=4)&&decide (1<=n % 8)&&decide (n % 8<=4)))
 else (0,false)
theorem Cw{op n:Int}(ho:2<=op/\op<=11):DK 88 [wd op n] fun d=>d=.tup [.int (yr op n).1,.bool (yr op n).2]:=by
 have e:op=2\/op=3\/op=4\/op=5\/op=6\/op=7\/op=8\/op=9\/op=10\/op=11:=by omega
 rcases e with rfl|rfl|rfl|rfl|rfl|rfl|rfl|rfl|rfl|rfl
 all_goals
  refine qI fun Z0 lo=>?_;refine qa ?_;intros
  repeat (first|(refine qb (t:=false) rfl (fun h=>by cases h) (fun _=>?_);refine qa ?_;intros)|(refine qb (t:=true) rfl (fun _=>?_) (fun h=>by cases h);refine qa ?_;intros))
  exact qc ⟨_,rfl,rfl,rfl⟩
theorem Er:∀x y:Bool,(if x=true then y else false)=(x&&y):=by decide
theorem Cv{op n:Int}(ho:op=0\/op=1):DK 88 [wd op n] fun d=>d=.tup [.int (yr op n).1,.bool (yr op n).2]:=by
 rcases ho with rfl|rfl
 all_goals
  refine qI fun Z0 lo=>?_;refine qa ?_;intros
  repeat (first|(refine qb (t:=false) rfl (fun h=>by cases h) (fun _=>?_);refine qa ?_;intros)|(refine qb (t:=true) rfl (fun _=>?_) (fun h=>by cases h);refine qa ?_;intros))
  cases e1:decide (0<=n) with
  |false=>
   try simp only [e1]
   refine qa ?_;intros;exact qc ⟨_,rfl,rfl,by simp [yr,e1]⟩
  |true=>
   try simp only [e1]
   refine qa ?_;intros;exact qc ⟨_,rfl,rfl,by simp [yr,e1]⟩
theorem UC{n:Int}(hn: -1000000<=n/\n<=1000000):DK 88 [wd 12 n] fun d=>d=.tup [.int (yr 12 n).1,.bool (yr 12 n).2]:=by
 refine qI fun Z0 lo=>?_;refine qa ?_;intros
 repeat (first|(refine qb (t:=false) rfl (fun h=>by cases h) (fun _=>?_);refine qa ?_;intros)|(refine qb (t:=true) rfl (fun _=>?_) (fun h=>by cases h);refine qa ?_;intros))
 cases e1:decide (n<2) with
 |true=>
  have h1:=qG e1;simp only [e1];refine qb (t:=true) rfl (fun _=>?_) (fun h=>by cases h);refine qa ?_;intros;exact qc ⟨_,rfl,rfl,by simp [yr,h1]⟩
 |false=>
  have h1:=qQ e1;simp only [e1];refine qb (t:=decide (n>5)) rfl (fun h2=>?_) (fun h2=>?_)
  ·have h2:=qG h2;refine qa ?_;intros;exact qc ⟨_,rfl,rfl,by rw [show yr 12 n=(0,false) by unfold yr;simp;omega]⟩
  ·have h2:=qQ h2;refine qa ?_;intros;exact qc ⟨_,rfl,rfl,by rw [show yr 12 n=(n+1,true) by unfold yr;simp;omega,qg (by omega) (by omega)]⟩
theorem UB{n:Int}(hn:0<=n/\n<=1000000):DK 88 [wd 13 n] fun d=>d=.tup [.int (yr 13 n).1,.bool (yr 13 n).2]:=by
 refine qI fun Z0 lo=>?_;refine qa ?_;intros
 repeat (first|(refine qb (t:=false) rfl (fun h=>by cases h) (fun _=>?_);refine qa ?_;intros)|(refine qb (t:=true) rfl (fun _=>?_) (fun h=>by cases h);refine qa ?_;intros))
 refine qb (t:=decide (n<0)) rfl (fun h2=>?_) (fun h2=>?_)
 ·have h2:=qG h2;omega
 ·have h2:=qQ h2;refine qa ?_;intros;have hq:IntKind.i64.wrap (n.tdiv 8)=n/8:=by rw [Int.tdiv_eq_ediv_of_nonneg (by omega)];exact qg (by omega) (by omega)
  have hr:n.tmod 8=n % 8:=Int.tmod_eq_emod_of_nonneg oM;have hm1:0<=n/8*(n % 8):=Int.mul_nonneg oM oM;have hm2:n/8*(n % 8)<=1000000*8:=Int.mul_le_mul oM oM oM oM;have hm:IntKind.i64.wrap (n/8*(n % 8))=n/8*(n % 8):=qg oM oM;have ha:yr 13 n=(n/8*(n % 8),decide (1<=n/8)&&decide (n/8<=4)&&decide (1<=n % 8)&&decide (n % 8<=4)):=by
   unfold yr;rw [if_neg (by decide),if_neg (by decide),if_neg (by decide),if_neg (by decide),if_neg (by decide),if_pos rfl,if_neg h2]
  exact qc ⟨_,rfl,rfl,by rw [ha,hq,hr,hm];simp only [Er]⟩
theorem L5{op n:Int}(ho:0<=op/\op<=13)(hn:0<=n/\n<=1000000):DK 88 [wd op n] fun d=>d=.tup [.int (yr op n).1,.bool (yr op n).2]:=by
 by_cases h0:op=0\/op=1
 ·exact Cv h0
 ·by_cases h1:op=12
  ·subst h1;exact UC oM
  ·by_cases h2:op=13
   ·subst h2;exact UB hn
   ·exact Cw oM
def km(op:Int):Int:=if op=5 then 1 else if op=2\/op=3 then 2 else if op=4 then 3 else 4
theorem UU:((List.range 14).all fun n=>match vo tabS tabE 100 182 [.one (.int .i64 n)] HS with
 |some (.one (.int .i64 c))=>decide (c=km n)
 |_=>false)=true:=by kernel_rfl
theorem AV{op:Int}(h:0<=op/\op<=13):DK 182 [.int op] fun d=>d=.int (km op):=by
 obtain⟨n,rfl⟩:=Int.eq_ofNat_of_zero_le h.1;have h1:=List.all_eq_true.1 UU n (List.mem_range.2 oM);split at h1
 ·rename_i c hc;have:=qG h1;subst this;exact QQ (vs:=[.one (.int .i64 n)]) ⟨rfl,trivial⟩ rfl rfl hc
 ·cases h1
def vD(op k c:Int):Bool:=
 if 2<=op/\op<=5 then (if k=0 then decide (km c>=km op) else decide (km c>km op))
 else if op=12 then decide (c=0) else true
theorem UE{op n k c m:Int}(ho:2<=op/\op<=5)(hc:0<=c/\c<=13):DK 139 [wd op n,.int k,wd c m] fun d=>d=.bool (vD op k c):=by
 have hp:=AV hc;have e:op=2\/op=3\/op=4\/op=5:=by omega
 have hv:vD op k c=if k=0 then decide (km c>=km op) else decide (km c>km op):=if_pos ho
 have hq:=AV (op:=op) oM;rcases e with rfl|rfl|rfl|rfl
 all_goals
  refine qI fun Z0 lo=>?_;refine qa ?_;intros
  repeat (first|(refine qb (t:=false) rfl (fun h=>by cases h) (fun _=>?_);refine qa ?_;intros)|(refine qb (t:=true) rfl (fun _=>?_) (fun h=>by cases h);refine qa ?_;intros))
  refine qb (t:=decide (k=0)) rfl (fun hk=>?_) (fun hk=>?_)
  ·have hk:=qG hk;refine qa ?_;intros;refine qj rfl rfl hp ?_;rintro _ rfl;refine qa ?_;intros;refine qj rfl rfl hq ?_;rintro _ rfl;refine qa ?_;intros;exact qc ⟨_,rfl,rfl,by rw [hv,if_pos hk]⟩
  ·have hk:=qQ hk;refine qa ?_;intros;refine qj rfl rfl hp ?_;rintro _ rfl;refine qa ?_;intros;refine qj rfl rfl hq ?_;rintro _ rfl;refine qa ?_;intros;exact qc ⟨_,rfl,rfl,by rw [hv,if_neg hk]⟩
theorem UD{op n k c m:Int}(ho:op=0\/op=1\/op=6\/op=7\/op=8\/op=9\/op=10\/op=11\/op=12\/op=13):DK 139 [wd op n,.int k,wd c m] fun d=>d=.bool (vD op k c):=by
 have hv:vD op k c=if op=12 then decide (c=0) else true:=if_neg oM
 rcases ho with rfl|rfl|rfl|rfl|rfl|rfl|rfl|rfl|rfl|rfl
 all_goals
  refine qI fun Z0 lo=>?_;refine qa ?_;intros
  repeat (first|(refine qb (t:=false) rfl (fun h=>by cases h) (fun _=>?_);refine qa ?_;intros)|(refine qb (t:=true) rfl (fun _=>?_) (fun h=>by cases h);refine qa ?_;intros))
  exact qc ⟨_,rfl,rfl,by rw [hv];rfl⟩
theorem EB{op n k c m:Int}(ho:0<=op/\op<=13)(hc:0<=c/\c<=13):DK 139 [wd op n,.int k,wd c m] fun d=>d=.bool (vD op k c):=by
 by_cases h:2<=op/\op<=5
 ·exact UE h hc
 ·exact UD oM
abbrev xX(f:List (Int × Int)):DV:=.one (.f (pK f))
theorem j3{f:List (Int × Int)}{i:Nat}{x:Int × Int}(h:f[i]?=some x):qT (f.flatMap jP) (i*2) 2=some (jP x):=zC (f:=jP) (e:=2) (fun _=>rfl) h
inductive Chain (f:List (Int × Int)):Int->Nat->Nat->Nat->Nat->Nat->Prop where
 |nil {op:Int} {k at_:Nat}:Chain f op k k at_ at_ 0
 |cons {op:Int} {j k at_ e1 d1 e d:Nat} {c m:Int}:j<k->f[at_]?=some (c,m)->0<=c/\c<=13->vD op j c=true->
  DK 101 [xX f,.int at_] (fun r=>r=.tup [.int e1,.int (d1+1:Nat),.bool true])->d1<100->e1<1000->Chain f op (j+1) k e1 e d->Chain f op j k at_ e (max (d1+1) d)
theorem Chain.inv{f:List (Int × Int)}{op:Int}{j k at_ e d:Nat}(h:Chain f op j k at_ e d):(j=k/\at_=e/\d=0)\/∃(e1 d1 d':Nat) (c m:Int),j<k/\f[at_]?=some (c,m)/\(0<=c/\c<=13)/\vD op j c=true/\
 DK 101 [xX f,.int at_] (fun r=>r=.tup [.int e1,.int (d1+1:Nat),.bool true])/\d1<100/\e1<1000/\Chain f op (j+1) k e1 e d'/\d=max (d1+1) d':=by
 cases h with
 |nil=>exact .inl ⟨rfl,rfl,rfl⟩
 |cons h1 h2 h3 h4 h5 h6 h7 h8=>exact .inr ⟨_,_,_,_,_,h1,h2,h3,h4,h5,h6,h7,h8,rfl⟩
theorem AZ{f:List (Int × Int)}{i k e d:Nat}{op n:Int}(hf:f.length<1000)(hi:f[i]?=some (op,n))(ho:0<=op/\op<=13)(hn:0<=n/\n<=1000000)(ha:yr op n=((k:Int),true))(hk:k<100)(hd:d<100)(hc:Chain f op 0 k (i+1) e d):
 DK 101 [xX f,.int i] fun r=>r=.tup [.int e,.int (d+1:Nat),.bool true]:=by
 have hil:i<f.length:=(zgs hi).1;have hsi:=j3 hi;have har:=L5 ho hn;rw [ha] at har;refine qI fun Z0 lo=>?_;refine qa ?_;intros;refine qb (t:=false) (congrArg (fun z=>some (DV.bool z)) (decide_eq_false (show¬(i:Int)>=f.length by omega))) (fun h=>by cases h) (fun _=>?_);refine qa ?_;intros;refine qj rfl rfl har ?_;rintro _ rfl;refine qa ?_;intros;refine qb (t:=false) rfl (fun h=>by cases h) (fun _=>?_);refine qa ?_;intros;refine qm (fun m E S nk=>∃j at_ dd dr:Nat,j+m=k/\Chain f op j k at_ e dr/\max dd (dr+1)=d+1/\1<=dd/\at_<1001/\E=[(0,xX f),(1,.int i),(9,.int at_),(10,.int dd),(31,.int k),(32,.int j)]/\S=[]/\nk=0)
  ⟨k,_,_,_,[],?wk,0,i+1,1,d,oM,hc,oM,oM,oM,rfl,rfl,rfl⟩ ?_
 case wk=>exact ql
 rintro m E S nk ⟨j,at_,dd,dr,hj,hch,hdd,hd1,hat,rfl,rfl,rfl⟩;refine qa ?_;intros;refine qb rfl (fun hj2=>?_) (fun hj2=>?_)
 ·have hj2:=qG hj2;rcases hch.inv with⟨h1,_⟩|⟨e1,d1,dr',c,mm,h1,h2,h3,h4,h5,h6,h7,h8,h9⟩
  ·omega
  ·have hal:at_<f.length:=(zgs h2).1;have hsa:=j3 h2;have e39:decide ((at_:Int)>=f.length)=false:=decide_eq_false oM;have had:=EB (n:=n) (k:=j) (m:=mm) ho h3;rw [h4] at had;refine qa ?_;intros;simp only [e39];refine qa ?_;intros;refine qj rfl rfl had ?_;rintro _ rfl;refine qa ?_;intros;refine qb (t:=false) rfl (fun h=>by cases h) (fun _=>?_);refine qa ?_;intros;refine qj rfl rfl h5 ?_;rintro _ rfl;refine qa ?_;intros;refine qb (t:=false) rfl (fun h=>by cases h) (fun _=>?_);refine qa ?_;intros;have hw:IntKind.i64.wrap (((d1+1:Nat):Int)+1)=((d1+2:Nat):Int):=by rw [qg (by omega) (by omega)];omega
   have hmx:max (dd:Int) (IntKind.i64.wrap (((d1+1:Nat):Int)+1))=((max dd (d1+2):Nat):Int):=by rw [hw];omega
   refine⟨m-1,oM,_,_,_,[],?wk,j+1,e1,max dd (d1+2),dr',oM,h8,oM,oM,oM,rfl,rfl,rfl⟩
   case wk=>
    exact⟨by repeat (first|exact trivial|refine⟨by first|rfl|exact A9 oM oM|exact congrArg (fun z=>some (DV.int z)) hmx,rfl,?_⟩),trivial,rfl,rfl⟩
 ·have hj2:=qQ hj2;rcases hch.inv with⟨_,rfl,h1⟩|⟨e1,d1,dr',c,mm,h1,_⟩
  ·refine qa ?_;intros;exact qc ⟨_,rfl,rfl,by rw [show dd=d+1 by omega]⟩
  ·omega
inductive Tr where
 |nd (op n:Int) (cs:List Tr)
def Tr.op:Tr->Int
 |.nd op _ _=>op
mutual
def Tr.fl:Tr->List (Int × Int)
 |.nd op n cs=>(op,n)::xp cs
def xp:List Tr->List (Int × Int)
 |[]=>[]
 |t::r=>t.fl++xp r
end
mutual
def Tr.dep:Tr->Nat
 |.nd _ _ cs=>j6 cs+1
def j6:List Tr->Nat
 |[]=>0
 |t::r=>max t.dep (j6 r)
end
mutual
def Tr.ok:Tr->Prop
 |.nd op n cs=>(0<=op/\op<=13)/\(0<=n/\n<=1000000)/\yr op n=((cs.length:Int),true)/\cs.length<100/\yA op 0 cs
def yA:Int->Nat->List Tr->Prop
 |_,_,[]=>True
 |op,j,t::r=>vD op j t.op=true/\t.ok/\yA op (j+1) r
end
theorem Tr.ok_op:∀{t:Tr},t.ok->0<=t.op/\t.op<=13
 |.nd _ _ _,h=>by unfold Tr.ok at h;exact h.1
end Go.Ah
