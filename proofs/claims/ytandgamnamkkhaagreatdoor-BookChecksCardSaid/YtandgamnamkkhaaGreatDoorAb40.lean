/- -/
import Derived.Test.YtandgamnamkkhaaGreatDoorAb39
set_option linter.unusedSimpArgs false
set_option maxHeartbeats 32000000
set_option linter.unusedVariables false
set_option maxRecDepth 8000
namespace Go.Ah
open Go.Ab Go.Proofs
def Ha(s:ByteArray)(i:Nat):Bool:=decide (bt s i % 128=32)
theorem Mw:∀v,v<256->decide (Zp v=4)=decide (v % 128=32):=by decide+kernel
theorem Ho(s:ByteArray)(i:Nat):FN s i=Ha s i:=Mw _ (vz s i)
theorem It(s:ByteArray):kn s 0=Ha s 0:=by
 unfold kn;rw [Ho];simp [KO]
theorem Iu(s:ByteArray)(i:Nat):kn s (i+1)=(Ha s (i+1)&&Ha s i):=by
 unfold kn;rw [Ho];have h0:decide (KO s (i+1)=0)=false:=decide_eq_false (L7 _ (vz s i));rw [h0,Bool.false_or];exact congrArg (fun z=>Ha s (i+1)&&z) (Ho s i)
theorem Mf{s:ByteArray}(h1:1<=s.size)(h4:s.size<=400)(ht:Qf s=true)(hf:Ha s 0=false)(hl:Ha s (s.size-1)=false)(hm:∀i,i+1<s.size->(Ha s (i+1)&&Ha s i)=false):xo s=true:=by
 have hg:((List.range s.size).all fun i=>!kn s i)=true:=List.all_eq_true.2 fun i hi=>by
  have hi:=List.mem_range.1 hi;cases i with
  |zero=>rw [It,hf];rfl
  |succ i=>rw [Iu,hm i hi];rfl
 have hla:decide (KO s s.size=4)=false:=by
  obtain⟨m,e⟩:∃m,s.size=m+1:=⟨s.size-1,oM⟩;rw [e] at hl ⊢;rw [Nat.add_sub_cancel] at hl;rw [<-hl,<-Ho];rfl
 unfold xo;rw [ht,hg,decide_eq_true h1,decide_eq_true h4,hla];rfl
theorem Lh{s:ByteArray}(h1:1<=s.size)(hl:Ha s (s.size-1)=true):xo s=false:=by
 have hla:decide (KO s s.size=4)=true:=by
  obtain⟨m,e⟩:∃m,s.size=m+1:=⟨s.size-1,oM⟩;rw [e] at hl ⊢;rw [Nat.add_sub_cancel] at hl;rw [<-hl,<-Ho];rfl
 unfold xo;rw [hla];simp
theorem Mb{s:ByteArray}(hs:s.size<1000000):DK 111 [zQ s] fun d=>∃n:Int,d=.tup [.int n,.int (if Qf s then 0 else 60)]:=by
 refine qI fun Z0 lo=>?_;refine qa ?_;intros;refine qm (fun m E S nk=>∃i:Nat,i+m=s.size/\(∀j,j<i->vu (bt s j)=true)/\E=[(0,zQ s),(4,.int i)]/\S=[]/\nk=0)
  ⟨s.size,_,_,_,[],?wk,0,oM,fun j hj=>oM,rfl,rfl,rfl⟩ ?_
 case wk=>exact ql
 rintro m E S nk ⟨i,hi,hok,rfl,rfl,rfl⟩;refine qa ?_;intros;refine qb rfl (fun hi2=>?_) (fun hi2=>?_)
 ·have hi2:i<s.size:=by have:=qG hi2;omega
  refine qa ?_;intros;refine y7 rfl rfl hi2 ?_;refine qa ?_;intros;refine qj rfl rfl (TY (vz s i)) ?_;rintro _ rfl;refine qa ?_;intros;refine qb rfl (fun hb=>?_) (fun hb=>?_)
  ·have hb:vu (bt s i)=false:=by simpa using hb
   refine qa ?_;intros;exact qc ⟨_,rfl,rfl,_,by rw [BZ hi2 hb];rfl⟩
  ·have hb:vu (bt s i)=true:=by simpa using hb
   refine qa ?_;intros;refine⟨m-1,oM,_,_,_,[],?wk,i+1,oM,fun j hj=>?_,rfl,rfl,rfl⟩
   case wk=>exact ql
   by_cases e:j=i
   ·rw [e];exact hb
   ·exact hok j oM
 ·have hi2:i=s.size:=by have:=qQ hi2;omega
  subst hi2;refine qa ?_;intros;exact qc ⟨_,rfl,rfl,_,by rw [dV hok];rfl⟩
theorem Lf{s:ByteArray}(hs:s.size<1000000):DK 76 [zQ s] fun r=>r=.bool (Qf s):=by
 refine qI fun Z0 lo=>?_;refine qa ?_;intros;refine qj rfl rfl (Mb hs) ?_;rintro _ ⟨n,rfl⟩;cases Qf s
 all_goals
  refine qa ?_;intros;exact qc ⟨_,rfl,rfl,rfl⟩
theorem Hr{s:ByteArray}(hs:s.size<1000000):DK 42 [zQ s] fun r=>r=.bool (xo s):=by
 have hit:=Lf hs;refine qI fun Z0 lo=>?_;refine qa ?_;intros;refine qj rfl rfl hit ?_;rintro _ rfl;cases ht:Qf s with
 |false=>
  have hc:xo s=false:=by unfold xo;rw [ht];simp
  refine qa ?_;intros;refine qb (t:=true) rfl (fun _=>?_) (fun h=>by cases h);refine qa ?_;intros;exact qc ⟨_,rfl,rfl,by rw [hc]⟩
 |true=>
  cases e10:((s.size:Int)==0) with
  |true=>
   have h0:(s.size:Int)=0:=by simpa using e10
   have hc:xo s=false:=by unfold xo;rw [decide_eq_false (show¬1<=s.size by omega)];rfl
   refine qa ?_;intros;simp only [e10];refine qa ?_;intros;refine qb (t:=true) rfl (fun _=>?_) (fun h=>by cases h);refine qa ?_;intros;exact qc ⟨_,rfl,rfl,by rw [hc]⟩
  |false=>
   have h1:(s.size:Int)≠0:=by simpa using e10
   have h1:1<=s.size:=by omega
   cases e15:decide ((s.size:Int)>400) with
   |true=>
    have h4:=qG e15;have hc:xo s=false:=by unfold xo;rw [decide_eq_false (show¬s.size<=400 by omega)];simp
    refine qa ?_;intros;simp only [e10];refine qa ?_;intros;simp only [e15];refine qa ?_;intros;refine qb (t:=true) rfl (fun _=>?_) (fun h=>by cases h);refine qa ?_;intros;exact qc ⟨_,rfl,rfl,by rw [hc]⟩
   |false=>
    have h4:=qQ e15;have hw:IntKind.i64.wrap ((s.size:Int)-1)=((s.size-1:Nat):Int):=by rw [qg (by omega) (by omega)];omega
    have hs0:=c5 (vz s 0);rw [show decide (bt s 0 % 128=32)=Ha s 0 from rfl] at hs0;have hs1:=c5 (vz s (s.size-1));rw [show decide (bt s (s.size-1) % 128=32)=Ha s (s.size-1) from rfl] at hs1;refine qa ?_;intros;simp only [e10];refine qa ?_;intros;simp only [e15];refine qa ?_;intros;refine y7 (j:=0) rfl rfl h1 ?_;refine qa ?_;intros;refine qj rfl rfl hs0 ?_;rintro _ rfl;cases hf:Ha s 0 with
    |true=>
     have hc:xo s=false:=cE h1 (by rw [It,hf]);refine qa ?_;intros;refine qb (t:=true) rfl (fun _=>?_) (fun h=>by cases h);refine qa ?_;intros;exact qc ⟨_,rfl,rfl,by rw [hc]⟩
    |false=>
     refine qa ?_;intros;rw [hw];refine y7 rfl rfl (show s.size-1<s.size by omega) ?_;refine qa ?_;intros;refine qj rfl rfl hs1 ?_;rintro _ rfl;cases hl:Ha s (s.size-1) with
     |true=>
      have hc:=Lh h1 hl;refine qa ?_;intros;refine qb (t:=true) rfl (fun _=>?_) (fun h=>by cases h);refine qa ?_;intros;exact qc ⟨_,rfl,rfl,by rw [hc]⟩
     |false=>
      refine qa ?_;intros;refine qb (t:=false) rfl (fun h=>by cases h) (fun _=>?_);refine qa ?_;intros;refine qm (fun m E S nk=>∃i:Nat,i+1+m=s.size/\(∀j,j<i->(Ha s (j+1)&&Ha s j)=false)/\E=[(0,zQ s),(3,.int (i+1:Nat))]/\S=[]/\nk=0)
       ⟨s.size-1,_,_,_,[],?wk,0,oM,fun j hj=>oM,rfl,rfl,rfl⟩ ?_
      case wk=>exact ql
      rintro m E S nk ⟨i,him,hok,rfl,rfl,rfl⟩;refine qa ?_;intros;refine qb rfl (fun h2=>?_) (fun h2=>?_)
      ·have h2:=qG h2;have hsi:=c5 (vz s (i+1));rw [show decide (bt s (i+1) % 128=32)=Ha s (i+1) from rfl] at hsi;have hsj:=c5 (vz s i);rw [show decide (bt s i % 128=32)=Ha s i from rfl] at hsj;have hwi:IntKind.i64.wrap (((i+1:Nat):Int)-1)=(i:Int):=by rw [qg (by omega) (by omega)];omega
       have next (h:(Ha s (i+1)&&Ha s i)=false):∀j,j<i+1->(Ha s (j+1)&&Ha s j)=false:=fun j hj=>by
        by_cases e:j=i
        ·rw [e];exact h
        ·exact hok j oM
       refine qa ?_;intros;refine y7 rfl rfl (show i+1<s.size by omega) ?_;refine qa ?_;intros;refine qj rfl rfl hsi ?_;rintro _ rfl;cases ha:Ha s (i+1) with
       |false=>
        refine qa ?_;intros;refine qb (t:=false) rfl (fun h=>by cases h) (fun _=>?_);refine qa ?_;intros;refine⟨m-1,by omega,_,_,_,[],?wk,i+1,by omega,next (by rw [ha];rfl),rfl,rfl,rfl⟩
        case wk=>exact ql
       |true=>
        refine qa ?_;intros;rw [hwi];refine y7 rfl rfl (show i<s.size by omega) ?_;refine qa ?_;intros;refine qj rfl rfl hsj ?_;rintro _ rfl;cases hb:Ha s i with
        |false=>
         refine qa ?_;intros;refine qb (t:=false) rfl (fun h=>by cases h) (fun _=>?_);refine qa ?_;intros;refine⟨m-1,by omega,_,_,_,[],?wk,i+1,by omega,next (by rw [hb,Bool.and_false]),rfl,rfl,rfl⟩
         case wk=>exact ql
        |true=>
         have hc:xo s=false:=cE (show i+1<s.size by omega) (by rw [Iu,ha,hb];rfl);refine qa ?_;intros;refine qb (t:=true) rfl (fun _=>?_) (fun h=>by cases h);refine qa ?_;intros;exact qc ⟨_,rfl,rfl,by rw [hc]⟩
      ·have h2:=qQ h2;have hc:xo s=true:=Mf h1 oM ht hf hl fun j hj=>hok j oM;refine qa ?_;intros;exact qc ⟨_,rfl,rfl,by rw [hc]⟩
def Gz(w h g:Int)(n:Nat):Bool:=w==0&&h==0&&g==0&&(n:Int)==0
theorem Ia{w h g:Int}{n:Nat}{ff:List FD}:DK 41 [.agg [.f (FD.int w),.f (FD.int h),.f (FD.int g),.f (.sl 3 n ff)]] fun d=>d=.bool (Gz w h g n):=by
 refine qI fun Z0 lo=>?_;refine qa ?_;intros;exact qc ⟨_,rfl,rfl,congrArg (fun z=>DV.bool z) (by simp only [Gz,HV,Bool.false_eq_true,if_false])⟩
theorem Iq{l:List (List ByteArray)}(h:¬(1<=(l.getD 0 []).length/\(l.getD 0 []).length<=4)):jh l=false:=by
 unfold jh;by_cases h1:1<=(l.getD 0 []).length
 ·rw [decide_eq_false (show¬(l.getD 0 []).length<=4 from fun h4=>h ⟨h1,h4⟩)];simp
 ·rw [decide_eq_false h1];simp
theorem Lg{l:List (List ByteArray)}(hsz:∀r∈l,r.length<1000000/\∀s∈r,s.size<1000000):DK 43 [.one (.f (Qg l))] fun d=>d=.bool (jh l):=by
 refine qI fun Z0 lo=>?_;cases e7:decide ((l.length:Int)<1) with
 |true=>
  have h1:=qG e7;have hc:jh l=false:=by unfold jh;rw [decide_eq_false (show¬1<=l.length by omega)];rfl
  refine qa ?_;intros;simp only [e7];refine qa ?_;intros;refine qb (t:=true) rfl (fun _=>?_) (fun h=>by cases h);refine qa ?_;intros;exact qc ⟨_,rfl,rfl,by rw [hc]⟩
 |false=>
  have h1:=qQ e7;cases e11:decide ((l.length:Int)>6) with
  |true=>
   have h6:=qG e11;have hc:jh l=false:=by unfold jh;rw [decide_eq_false (show¬l.length<=6 by omega)];simp
   refine qa ?_;intros;simp only [e7];refine qa ?_;intros;simp only [e11];refine qa ?_;intros;refine qb (t:=true) rfl (fun _=>?_) (fun h=>by cases h);refine qa ?_;intros;exact qc ⟨_,rfl,rfl,by rw [hc]⟩
  |false=>
   have h6:=qQ e11;obtain⟨r0,hr0⟩:∃r,l[0]?=some r:=⟨_,zge oM⟩;have hs0:=JW hr0;have hg0:l.getD 0 []=r0:=by rw [List.getD_eq_getElem?_getD,hr0];rfl
   refine qa ?_;intros;simp only [e7];refine qa ?_;intros;simp only [e11];refine qa ?_;intros;refine qb (t:=false) rfl (fun h=>by cases h) (fun _=>?_);refine qa ?_;intros;refine qm (fun m E S nk=>∃i:Nat,i+m=l.length/\(∀(j:Nat) r,j<i->l[j]?=some r->Z6 r0.length r=true)/\(i=0\/1<=r0.length/\r0.length<=4)/\E=[(0,.one (.f (Qg l))),(3,.int i)]/\S=[]/\nk=0)
    ⟨l.length,_,_,_,[],?wk,0,oM,fun j r hj=>oM,.inl rfl,rfl,rfl,rfl⟩ ?_
   case wk=>exact ql
   rintro m E S nk ⟨i,him,hok,hd,rfl,rfl,rfl⟩;refine qa ?_;intros;refine qb rfl (fun hi=>?_) (fun hi=>?_)
   ·have hi:=qG hi;obtain⟨r,hr⟩:∃r,l[i]?=some r:=⟨_,zge oM⟩;have hsr:=JW hr;have hlr:=hsz r (zmg hr);cases e28:((r.length:Int)!=r0.length) with
    |true=>
     have h28:(r.length:Int)≠r0.length:=by simpa using e28
     have hc:jh l=false:=r9 hr (by rw [hg0,Z6,decide_eq_false (show¬r.length=r0.length by omega)];rfl);refine qa ?_;intros;simp only [e28];refine qa ?_;intros;refine qb (t:=true) rfl (fun _=>?_) (fun h=>by cases h);refine qa ?_;intros;exact qc ⟨_,rfl,rfl,by rw [hc]⟩
    |false=>
     have h28:(r.length:Int)=r0.length:=by simpa using e28
     have h28:r.length=r0.length:=by omega
     cases e35:decide ((r.length:Int)<1) with
     |true=>
      have h35:=qG e35;have hc:jh l=false:=Iq (by rw [hg0];omega);refine qa ?_;intros;simp only [e28];refine qa ?_;intros;simp only [e35];refine qa ?_;intros;refine qb (t:=true) rfl (fun _=>?_) (fun h=>by cases h);refine qa ?_;intros;exact qc ⟨_,rfl,rfl,by rw [hc]⟩
     |false=>
      have h35:=qQ e35;cases e43:decide ((r.length:Int)>4) with
      |true=>
       have h43:=qG e43;have hc:jh l=false:=Iq (by rw [hg0];omega);refine qa ?_;intros;simp only [e28];refine qa ?_;intros;simp only [e35];refine qa ?_;intros;simp only [e43];refine qa ?_;intros;refine qb (t:=true) rfl (fun _=>?_) (fun h=>by cases h);refine qa ?_;intros;exact qc ⟨_,rfl,rfl,by rw [hc]⟩
      |false=>
       have h43:=qQ e43;refine qa ?_;intros;simp only [e28];refine qa ?_;intros;simp only [e35];refine qa ?_;intros;simp only [e43];refine qa ?_;intros;refine qb (t:=false) rfl (fun h=>by cases h) (fun _=>?_);refine qa ?_;intros;refine qm (fun m E S nk=>∃k:Nat,k+m=r.length/\(∀(j:Nat) s,j<k->r[j]?=some s->(decide (s.size<=40)&&xo s)=true)/\E=[(0,.one (.f (Qg l))),(3,.int i),(4,.int k)]/\S=[]/\nk=0)
        ⟨r.length,_,_,_,[],?wk,0,oM,fun j s hj=>oM,rfl,rfl,rfl⟩ ?_
       case wk=>exact ql
       rintro m2 E S nk ⟨k,hkm,hok2,rfl,rfl,rfl⟩;refine qa ?_;intros;refine qb rfl (fun hk=>?_) (fun hk=>?_)
       ·have hk:=qG hk;obtain⟨s,hs⟩:∃s,r[k]?=some s:=⟨_,zge oM⟩;have hss:=lJ hs;have no:(decide (s.size<=40)&&xo s)=false->jh l=false:=fun h=>r9 hr (by rw [hg0];exact NP hs h);refine qa ?_;intros;refine qj rfl rfl (Hr (hlr.2 s (zmg hs))) ?_;rintro _ rfl;cases hcl:xo s with
        |false=>
         have hc:=no (by rw [hcl,Bool.and_false]);refine qa ?_;intros;refine qb (t:=true) rfl (fun _=>?_) (fun h=>by cases h);refine qa ?_;intros;exact qc ⟨_,rfl,rfl,by rw [hc]⟩
        |true=>
         cases e72:decide ((s.size:Int)>40) with
         |true=>
          have h72:=qG e72;have hc:=no (by rw [decide_eq_false (by omega),Bool.false_and]);refine qa ?_;intros;simp only [e72];refine qa ?_;intros;refine qb (t:=true) rfl (fun _=>?_) (fun h=>by cases h);refine qa ?_;intros;exact qc ⟨_,rfl,rfl,by rw [hc]⟩
         |false=>
          have h72:=qQ e72;refine qa ?_;intros;simp only [e72];refine qa ?_;intros;refine qb (t:=false) rfl (fun h=>by cases h) (fun _=>?_);refine qa ?_;intros;refine⟨m2-1,oM,_,_,_,[],?wk,k+1,oM,fun j s' hj hs'=>?_,rfl,rfl,rfl⟩
          case wk=>exact ql
          by_cases e:j=k
          ·subst e;rw [hs] at hs';obtain rfl:=zsi hs';rw [hcl,decide_eq_true (by omega)];rfl
          ·exact hok2 j s' oM hs'
       ·have hk:=qQ hk;refine qa ?_;intros;refine⟨m-1,oM,_,_,_,[],?wk,i+1,oM,fun j r' hj hr'=>?_,.inr oM,rfl,rfl,rfl⟩
        case wk=>exact ql
        by_cases e:j=i
        ·subst e;rw [hr] at hr';obtain rfl:=zsi hr';have:(r.all fun s=>decide (s.size<=40)&&xo s)=true:=List.all_eq_true.2 fun s hs=>by
          obtain⟨q,hq⟩:=List.getElem?_of_mem hs;exact hok2 q s (by have:=(zgs hq).1;omega) hq
         rw [Z6,this,decide_eq_true h28];rfl
        ·exact hok j r' oM hr'
   ·have hi:=qQ hi;have hall:(l.all fun r=>decide (r.length=(l.getD 0 []).length)&&r.all fun s=>decide (s.size<=40)&&xo s)=true:=List.all_eq_true.2 fun r hr=>by
     obtain⟨j,hj⟩:=List.getElem?_of_mem hr;rw [hg0];exact hok j r (by have:=(zgs hj).1;omega) hj
    have hc:jh l=true:=by
     unfold jh;rw [hall,hg0,decide_eq_true (show 1<=l.length by omega),decide_eq_true (show l.length<=6 by omega),decide_eq_true (show 1<=r0.length by omega),decide_eq_true (show r0.length<=4 by omega)];rfl
    refine qa ?_;intros;exact qc ⟨_,rfl,rfl,by rw [hc]⟩
def Hb(b:Blk):Bool:=b.text.data.toList==[]
def Gw(b:Blk):Bool:=b.level==0
def Gv(b:Blk):Bool:=(b.rows.length:Int)==0
def Gx(b:Blk):Bool:=(b.f.length:Int)==0
def Gu(b:Blk):Bool:=Gz b.w b.h b.gap b.nf
def Gy(b:Blk):Bool:=b.page==0
abbrev Ic(b:Blk):DV:=.agg [.f (FD.int b.w),.f (FD.int b.h),.f (FD.int b.gap),.f (.sl 3 b.nf b.ff)]
def Ip(b:Blk):Prop:=∃v:Bool,(DK 39 [Ic b] fun d=>d=.bool v)/\DK 45 [Ic b] fun d=>d=.bool v
open Classical in
noncomputable def vFZq (f:List (Int × Int)):Bool:=if h:Hj f then Classical.choose h else false
open Classical in
noncomputable def vPZq (b:Blk):Bool:=if h:Ip b then Classical.choose h else false
open Classical in
theorem Ml{f:List (Int × Int)}(h:Hj f):(DK 38 [xX f] fun d=>d=.bool (vFZq f))/\DK 44 [xX f] fun d=>d=.bool (vFZq f):=by
 unfold vFZq;rw [dif_pos h];exact Classical.choose_spec h
open Classical in
theorem Mk{b:Blk}(h:Ip b):(DK 39 [Ic b] fun d=>d=.bool (vPZq b))/\DK 45 [Ic b] fun d=>d=.bool (vPZq b):=by
 unfold vPZq;rw [dif_pos h];exact Classical.choose_spec h
noncomputable def rgt (b:Blk):Bool:=
 if b.kind=1\/b.kind=4 then xo b.text&&Gw b&&Gv b&&Gx b&&Gu b&&Gy b
 else if b.kind=2 then xo b.text&&(decide (b.level>=1)&&decide (b.level<=3))&&Gv b&&Gx b&&Gu b&&Gy b
 else if b.kind=3 then Hb b&&Gw b&&jh b.rows&&Gx b&&Gu b&&Gy b
 else if b.kind=5 then Hb b&&Gw b&&Gv b&&vFZq b.f&&Gu b&&Gy b
 else if b.kind=6 then Hb b&&Gw b&&Gv b&&Gx b&&vPZq b&&Gy b
 else if b.kind=7 then Hb b&&Gw b&&Gv b&&Gx b&&Gu b&&(decide (b.page>=1)&&decide (b.page<=9999))
 else false
structure GBZq (b:Blk):Prop where
 f:Hj b.f
 p:Ip b
 rows:∀r∈b.rows,r.length<1000000/\∀s∈r,s.size<1000000
 text:b.text.size<1000000
theorem Lq{b:Blk}{v:Bool}(hk:b.kind=6)(hv:DK 39 [Ic b] fun d=>d=.bool v):DK 19 [vA b] fun d=>d=.bool (v&&yp { b with w:=0,h:=0,gap:=0,nf:=0,ff:=[] }):=by
 obtain⟨kind,level,text,rows,f,w,h,gap,nf,ff,page⟩:=b;simp only at hk hv;subst hk;refine qI fun Z0 lo=>?_;refine qa ?_;intros
 repeat (first|(refine qb (t:=false) rfl (fun h=>by cases h) (fun _=>?_);refine qa ?_;intros)|(refine qb (t:=true) rfl (fun _=>?_) (fun h=>by cases h);refine qa ?_;intros))
 refine qj rfl rfl hv ?_;rintro _ rfl;cases v
 ·refine qa ?_;intros;exact qc ⟨_,rfl,rfl,rfl⟩
 ·refine qa ?_;intros;refine qj rfl rfl (Kg (b:=⟨6,level,text,rows,f,0,0,0,0,[],page⟩) ⟨.inl rfl,.inl rfl,.inl rfl,.inl rfl,.inl rfl,.inl rfl,.inl rfl,.inl rfl,.inr ⟨rfl,3,rfl⟩,.inl rfl,trivial⟩) ?_;rintro _ rfl;refine qa ?_;intros;exact qc ⟨_,rfl,rfl,by rw [Bool.true_and]⟩
theorem Hk(b:Bool):(b&&true)=b:=Bool.and_true b
theorem Hz{b:Blk}(h:GBZq b):DK 19 [vA b] fun d=>d=.bool (rgt b):=by
 have hr:∀r∈b.rows,r.length<1000000:=fun r hr=>(h.rows r hr).1;unfold rgt;split
 ·rename_i hk;rcases hk with hk|hk
  ·rw [show (xo b.text&&Gw b&&Gv b&&Gx b&&Gu b&&Gy b)=(xo b.text&&yp { b with text:=⟨#[]⟩ }) by
    show _=(xo b.text&&(Gw b&&true&&Gv b&&Gx b&&Gy b&&(b.w==0)&&(b.h==0)&&(b.gap==0)&&((b.nf:Int)==0)))
    rw [Gu,Gz,Hk];ac_rfl]
   exact DY hk
  ·rw [show (xo b.text&&Gw b&&Gv b&&Gx b&&Gu b&&Gy b)=(xo b.text&&yp { b with text:=⟨#[]⟩ }) by
    show _=(xo b.text&&(Gw b&&true&&Gv b&&Gx b&&Gy b&&(b.w==0)&&(b.h==0)&&(b.gap==0)&&((b.nf:Int)==0)))
    rw [Gu,Gz,Hk];ac_rfl]
   exact DT hk
 ·split
  ·rename_i hk;rw [show (xo b.text&&(decide (b.level>=1)&&decide (b.level<=3))&&Gv b&&Gx b&&Gu b&&Gy b)=((decide (b.level>=1)&&decide (b.level<=3))&&xo b.text&&yp { b with text:=⟨#[]⟩,level:=0 }) by
    show _=((decide (b.level>=1)&&decide (b.level<=3))&&xo b.text&&(true&&true&&Gv b&&Gx b&&Gy b&&(b.w==0)&&(b.h==0)&&(b.gap==0)&&((b.nf:Int)==0)))
    rw [Gu,Gz,Hk,Bool.true_and];ac_rfl]
   exact DW hk
  ·split
   ·rename_i hk;rw [show (Hb b&&Gw b&&jh b.rows&&Gx b&&Gu b&&Gy b)=(jh b.rows&&yp { b with rows:=[] }) by
     show _=(jh b.rows&&(Gw b&&Hb b&&true&&Gx b&&Gy b&&(b.w==0)&&(b.h==0)&&(b.gap==0)&&((b.nf:Int)==0)))
     rw [Gu,Gz,Hk];ac_rfl]
    exact DU hr hk
   ·split
    ·rename_i hk;rw [show (Hb b&&Gw b&&Gv b&&vFZq b.f&&Gu b&&Gy b)=(vFZq b.f&&yp { b with f:=[] }) by
      show _=(vFZq b.f&&(Gw b&&Hb b&&Gv b&&true&&Gy b&&(b.w==0)&&(b.h==0)&&(b.gap==0)&&((b.nf:Int)==0)))
      rw [Gu,Gz,Hk];ac_rfl]
     exact Lr hk (Ml h.f).1
    ·split
     ·rename_i hk;rw [show (Hb b&&Gw b&&Gv b&&Gx b&&vPZq b&&Gy b)=(vPZq b&&yp { b with w:=0,h:=0,gap:=0,nf:=0,ff:=[] }) by
       show _=(vPZq b&&(Gw b&&Hb b&&Gv b&&Gx b&&Gy b&&true&&true&&true&&true))
       rw [Hk,Hk,Hk,Hk];ac_rfl]
      exact Lq hk (Mk h.p).1
     ·split
      ·rename_i hk;rw [show (Hb b&&Gw b&&Gv b&&Gx b&&Gu b&&(decide (b.page>=1)&&decide (b.page<=9999)))=((decide (b.page>=1)&&decide (b.page<=9999))&&yp { b with page:=0 }) by
        show _=((decide (b.page>=1)&&decide (b.page<=9999))&&(Gw b&&Hb b&&Gv b&&Gx b&&true&&(b.w==0)&&(b.h==0)&&(b.gap==0)&&((b.nf:Int)==0)))
        rw [Gu,Gz,Hk];ac_rfl]
       exact DQ hk
      ·exact Mc oM
def Hi(l:List Blk)(i k:Nat)(b:Blk):Bool:=
 if b.kind=4 then decide (0<i)&&(decide ((l.getD (i-1) dB).kind=1)||decide ((l.getD (i-1) dB).kind=4))
 else if b.kind=7 then (List.range k).all fun j=>!decide ((l.getD j dB).kind=7)||decide ((l.getD j dB).page<b.page)
 else true
abbrev Hf(l:List Blk)(i:Nat)(b:Blk):Bool:=Hi l i i b
theorem Nc{l:List Blk}{i:Nat}{b:Blk}(hl:l.length<1000)(hb:l[i]?=some b)(h:GBZq b)(hk:b.kind≠4/\b.kind≠7):DK 20 [jf l,.int i] fun d=>d=.bool (rgt b):=by
 have hil:i<l.length:=(zgs hb).1;have hsb:=kh hb;have hcl:=Hr h.text;have hnp:=Ia (w:=b.w) (h:=b.h) (g:=b.gap) (n:=b.nf) (ff:=b.ff);have hen:=Lg h.rows;have hfv:=(Ml h.f).2;have hpv:=(Mk h.p).2;rw [show Gz b.w b.h b.gap b.nf=Gu b from rfl] at hnp;by_cases hx:b.kind=1\/b.kind=2\/b.kind=3\/b.kind=5\/b.kind=6
 ·rcases hx with hx|hx|hx|hx|hx
  ·have e:rgt b=(xo b.text&&Gw b&&Gv b&&Gx b&&Gu b&&Gy b):=if_pos (.inl hx);rw [e];generalize hzp:Gu b=zpZq at *;generalize hcb:xo b.text=cb at *;obtain⟨kind,level,text,rows,f,w,h,gap,nf,ff,page⟩:=b;simp only at hx;subst hx;refine qI fun Z0 lo=>?_;refine qa ?_;intros;refine qj rfl rfl hnp ?_;rintro _ rfl;refine qa ?_;intros
   repeat (first|(refine qb (t:=false) rfl (fun h=>by cases h) (fun _=>?_);refine qa ?_;intros)|(refine qb (t:=true) rfl (fun _=>?_) (fun h=>by cases h);refine qa ?_;intros))
   refine qj rfl rfl hcl ?_;rintro _ rfl;refine qa ?_;intros;refine qc ⟨_,rfl,rfl,congrArg (fun z=>DV.bool z) ?_⟩;simp only [HV,Bool.false_eq_true,if_false];rfl
  ·have e:rgt b=(xo b.text&&(decide (b.level>=1)&&decide (b.level<=3))&&Gv b&&Gx b&&Gu b&&Gy b):=by
    unfold rgt;rw [if_neg (by omega),if_pos hx]
   rw [e];generalize hzp:Gu b=zpZq at *;generalize hcb:xo b.text=cb at *;obtain⟨kind,level,text,rows,f,w,h,gap,nf,ff,page⟩:=b;simp only at hx;subst hx;refine qI fun Z0 lo=>?_;refine qa ?_;intros;refine qj rfl rfl hnp ?_;rintro _ rfl;refine qa ?_;intros
   repeat (first|(refine qb (t:=false) rfl (fun h=>by cases h) (fun _=>?_);refine qa ?_;intros)|(refine qb (t:=true) rfl (fun _=>?_) (fun h=>by cases h);refine qa ?_;intros))
   refine qj rfl rfl hcl ?_;rintro _ rfl;cases e1:decide (level>=1) with
   |false=>
    refine qa ?_;intros
    try simp only [e1]
    refine qa ?_;intros;refine qc ⟨_,rfl,rfl,congrArg (fun z=>DV.bool z) ?_⟩;simp only [HV,Bool.false_eq_true,if_false,e1,Bool.false_and,Bool.and_false]
   |true=>
    refine qa ?_;intros
    try simp only [e1]
    refine qa ?_;intros;refine qc ⟨_,rfl,rfl,congrArg (fun z=>DV.bool z) ?_⟩;simp only [HV,Bool.false_eq_true,if_false,e1,Bool.true_and];rfl
  ·have e:rgt b=(Hb b&&Gw b&&jh b.rows&&Gx b&&Gu b&&Gy b):=by
    unfold rgt;rw [if_neg (by omega),if_neg (by omega),if_pos hx]
   rw [e];generalize hzp:Gu b=zpZq at *;generalize htb:jh b.rows=tb at *;obtain⟨kind,level,text,rows,f,w,h,gap,nf,ff,page⟩:=b;simp only at hx;subst hx;refine qI fun Z0 lo=>?_;refine qa ?_;intros;refine qj rfl rfl hnp ?_;rintro _ rfl;refine qa ?_;intros
   repeat (first|(refine qb (t:=false) rfl (fun h=>by cases h) (fun _=>?_);refine qa ?_;intros)|(refine qb (t:=true) rfl (fun _=>?_) (fun h=>by cases h);refine qa ?_;intros))
   refine qj rfl rfl hen ?_;rintro _ rfl;refine qa ?_;intros;refine qc ⟨_,rfl,rfl,congrArg (fun z=>DV.bool z) ?_⟩;simp only [HV,Bool.false_eq_true,if_false];rfl
  ·have e:rgt b=(Hb b&&Gw b&&Gv b&&vFZq b.f&&Gu b&&Gy b):=by
    unfold rgt;rw [if_neg (by omega),if_neg (by omega),if_neg (by omega),if_pos hx]
   rw [e];generalize hzp:Gu b=zpZq at *;generalize hvf:vFZq b.f=vfZq at *;obtain⟨kind,level,text,rows,f,w,h,gap,nf,ff,page⟩:=b;simp only at hx;subst hx;refine qI fun Z0 lo=>?_;refine qa ?_;intros;refine qj rfl rfl hnp ?_;rintro _ rfl;refine qa ?_;intros
   repeat (first|(refine qb (t:=false) rfl (fun h=>by cases h) (fun _=>?_);refine qa ?_;intros)|(refine qb (t:=true) rfl (fun _=>?_) (fun h=>by cases h);refine qa ?_;intros))
   refine qj rfl rfl hfv ?_;rintro _ rfl;refine qa ?_;intros;refine qc ⟨_,rfl,rfl,congrArg (fun z=>DV.bool z) ?_⟩;simp only [HV,Bool.false_eq_true,if_false];rfl
  ·have e:rgt b=(Hb b&&Gw b&&Gv b&&Gx b&&vPZq b&&Gy b):=by
    unfold rgt;rw [if_neg (by omega),if_neg (by omega),if_neg (by omega),if_neg (by omega),if_pos hx]
   rw [e];generalize hzp:Gu b=zpZq at *;generalize hvp:vPZq b=vpZq at *;obtain⟨kind,level,text,rows,f,w,h,gap,nf,ff,page⟩:=b;simp only at hx;subst hx;refine qI fun Z0 lo=>?_;refine qa ?_;intros;refine qj rfl rfl hnp ?_;rintro _ rfl;refine qa ?_;intros
   repeat (first|(refine qb (t:=false) rfl (fun h=>by cases h) (fun _=>?_);refine qa ?_;intros)|(refine qb (t:=true) rfl (fun _=>?_) (fun h=>by cases h);refine qa ?_;intros))
   refine qj rfl rfl hpv ?_;rintro _ rfl;refine qa ?_;intros;refine qc ⟨_,rfl,rfl,congrArg (fun z=>DV.bool z) ?_⟩;simp only [HV,Bool.false_eq_true,if_false];rfl
 ·have e:rgt b=false:=by
   unfold rgt;rw [if_neg (by omega),if_neg (by omega),if_neg (by omega),if_neg (by omega),if_neg (by omega),if_neg (by omega)]
  rw [e];have k1:decide (b.kind=1)=false:=decide_eq_false oM;have k2:decide (b.kind=2)=false:=decide_eq_false oM;have k3:decide (b.kind=3)=false:=decide_eq_false oM;have k4:decide (b.kind=4)=false:=decide_eq_false oM;have k5:decide (b.kind=5)=false:=decide_eq_false oM;have k6:decide (b.kind=6)=false:=decide_eq_false oM;have k7:decide (b.kind=7)=false:=decide_eq_false oM;generalize hzp:Gu b=zpZq at *;obtain⟨kind,level,text,rows,f,w,h,gap,nf,ff,page⟩:=b;simp only at *;refine qI fun Z0 lo=>?_;refine qa ?_;intros;refine qj rfl rfl hnp ?_;rintro _ rfl;refine qa ?_;intros
  repeat (refine qb (t:=false) (congrArg (fun z=>some (DV.bool z)) aM) (fun h=>by cases h) (fun _=>?_);refine qa ?_;intros)
  exact qc ⟨_,rfl,rfl,rfl⟩
theorem Nb{l:List Blk}{i:Nat}{b:Blk}(hl:l.length<1000)(hb:l[i]?=some b)(h:GBZq b)(hk:b.kind=4):DK 20 [jf l,.int i] fun d=>d=.bool (rgt b&&Hf l i b):=by
 have hil:i<l.length:=(zgs hb).1;have hsb:=kh hb;have hcl:=Hr h.text;have hnp:=Ia (w:=b.w) (h:=b.h) (g:=b.gap) (n:=b.nf) (ff:=b.ff);rw [show Gz b.w b.h b.gap b.nf=Gu b from rfl] at hnp;have e:rgt b=(xo b.text&&Gw b&&Gv b&&Gx b&&Gu b&&Gy b):=if_pos (.inr hk);have ep:Hf l i b=(decide (0<i)&&(decide ((l.getD (i-1) dB).kind=1)||decide ((l.getD (i-1) dB).kind=4))):=if_pos hk;rw [e,ep];generalize hzp:Gu b=zpZq at *;generalize hcb:xo b.text=cb at *;obtain⟨kind,level,text,rows,f,w,h,gap,nf,ff,page⟩:=b;simp only at hk;subst hk;refine qI fun Z0 lo=>?_;refine qa ?_;intros;refine qj rfl rfl hnp ?_;rintro _ rfl;refine qa ?_;intros
 repeat (first|(refine qb (t:=false) rfl (fun h=>by cases h) (fun _=>?_);refine qa ?_;intros)|(refine qb (t:=true) rfl (fun _=>?_) (fun h=>by cases h);refine qa ?_;intros))
 refine qj rfl rfl hcl ?_;rintro _ rfl;cases cb with
 |false=>
  refine qa ?_;intros;refine qc ⟨_,rfl,rfl,congrArg (fun z=>DV.bool z) ?_⟩;simp only [HV,Bool.false_eq_true,if_false,Bool.false_and]
 |true=>
  cases i with
  |zero=>
   have e69:decide (((0:Nat):Int)>0)=false:=rfl;refine qa ?_;intros
   try simp only [e69]
   refine qa ?_;intros;refine qc ⟨_,rfl,rfl,congrArg (fun z=>DV.bool z) ?_⟩;simp only [HV,Bool.false_eq_true,if_false,Bool.false_and,Nat.lt_irrefl,decide_false,Bool.and_false]
  |succ j=>
   obtain⟨q,hq⟩:∃q,l[j]?=some q:=⟨_,zge oM⟩;have hsq:=kh hq;have hgq:l.getD (j+1-1) dB=q:=by rw [Nat.add_sub_cancel,List.getD_eq_getElem?_getD,hq];rfl
   have e69:decide (((j+1:Nat):Int)>0)=true:=decide_eq_true oM;have hwj:IntKind.i64.wrap (((j+1:Nat):Int)-1)=((j:Nat):Int):=by rw [qg (by omega) (by omega)];omega
   rw [hgq,decide_eq_true (show 0<j+1 by omega),Bool.true_and,Bool.true_and];refine qa ?_;intros;simp only [e69];refine qa ?_;intros;rw [hwj];refine qa ?_;intros;cases e78:(q.kind==1) with
   |true=>
    have h1:q.kind=1:=by simpa using e78
    rw [decide_eq_true h1,Bool.true_or,Bool.and_true]
    try simp only [e78]
    refine qa ?_;intros;refine qc ⟨_,rfl,rfl,congrArg (fun z=>DV.bool z) ?_⟩;simp only [HV,Bool.false_eq_true,if_false,if_true,Bool.true_and];rfl
   |false=>
    have h1:q.kind≠1:=by simpa using e78
    rw [decide_eq_false h1,Bool.false_or]
    try simp only [e78]
    refine qa ?_;intros;rw [hwj];refine qa ?_;intros;cases e86:(q.kind==4) with
    |true=>
     have h4:q.kind=4:=by simpa using e86
     rw [decide_eq_true h4,Bool.and_true]
     try simp only [e86]
     refine qa ?_;intros;refine qc ⟨_,rfl,rfl,congrArg (fun z=>DV.bool z) ?_⟩;simp only [HV,Bool.false_eq_true,if_false,if_true,Bool.true_and];rfl
    |false=>
     have h4:q.kind≠4:=by simpa using e86
     rw [decide_eq_false h4,Bool.and_false]
     try simp only [e86]
     refine qa ?_;intros;refine qc ⟨_,rfl,rfl,congrArg (fun z=>DV.bool z) ?_⟩;simp only [HV,Bool.false_eq_true,if_false,if_true,Bool.false_and]
theorem Lm{l:List Blk}{i k:Nat}{b q:Blk}(hk:b.kind=7)(hq:l[k]?=some q):Hi l i (k+1) b=(Hi l i k b&&(!decide (q.kind=7)||decide (q.page<b.page))):=by
 have hgq:l.getD k dB=q:=by rw [List.getD_eq_getElem?_getD,hq];rfl
 have h4:¬b.kind=4:=by omega
 unfold Hi;rw [if_neg h4,if_neg h4,if_pos hk,if_pos hk,List.range_succ,List.all_append,List.all_cons,List.all_nil,hgq,Bool.and_true]
theorem Ll{l:List Blk}{i:Nat}{b:Blk}(hk:b.kind=7):Hi l i 0 b=true:=by
 unfold Hi;rw [if_neg (by omega),if_pos hk];rfl
theorem Na{l:List Blk}{i:Nat}{b:Blk}(hl:l.length<1000)(hb:l[i]?=some b)(hk:b.kind=7):DK 20 [jf l,.int i] fun d=>d=.bool (rgt b&&Hf l i b):=by
 have hil:i<l.length:=(zgs hb).1;have hsb:=kh hb;have hnp:=Ia (w:=b.w) (h:=b.h) (g:=b.gap) (n:=b.nf) (ff:=b.ff);rw [show Gz b.w b.h b.gap b.nf=Gu b from rfl] at hnp;obtain⟨pg,hpg⟩:∃pg,pg=(decide (b.page>=1)&&decide (b.page<=9999)):=⟨_,rfl⟩;have e:rgt b=(Hb b&&Gw b&&Gv b&&Gx b&&Gu b&&pg):=by
  unfold rgt;rw [if_neg (by omega),if_neg (by omega),if_neg (by omega),if_neg (by omega),if_neg (by omega),if_pos hk,hpg]
 rw [e];generalize hzp:Gu b=zpZq at *;generalize hzt:Hb b=ztZq at *;generalize hzl:Gw b=zl at *;generalize hzr:Gv b=zrZq at *;generalize hzf:Gx b=zf at *;have hp0:(if decide (b.page>=1)=true then decide (b.page<=9999) else false)=pg:=by rw [hpg];exact HV _ _
 refine qI fun Z0 lo=>?_;refine qa ?_;intros;refine qj rfl rfl hnp ?_;rintro _ rfl;refine qa ?_;intros;have k1:decide (b.kind=1)=false:=decide_eq_false oM;have k2:decide (b.kind=2)=false:=decide_eq_false oM;have k3:decide (b.kind=3)=false:=decide_eq_false oM;have k4:decide (b.kind=4)=false:=decide_eq_false oM;have k5:decide (b.kind=5)=false:=decide_eq_false oM;have k6:decide (b.kind=6)=false:=decide_eq_false oM;have k7:decide (b.kind=7)=true:=decide_eq_true hk
 repeat (refine qb (t:=false) (congrArg (fun z=>some (DV.bool z)) aM) (fun h=>by cases h) (fun _=>?_);refine qa ?_;intros)
 refine qb (t:=true) (congrArg (fun z=>some (DV.bool z)) aM) (fun _=>?_) (fun h=>by cases h);cases e1:decide (b.page>=1)
 all_goals
  rw [e1] at hp0;refine qa ?_;intros
  try simp only [e1]
  refine qa ?_;intros;refine qm (fun m E S nk=>∃k:Nat,k+m=i/\E=[(0,jf l),(1,.int i),(5,.one (.ptr 0 0)),(6,.bool ztZq),(7,.bool zl),(8,.bool zrZq),(9,.bool zf),(10,.bool zpZq),(11,.bool (pg&&Hi l i k b)),(12,.int k)]/\S=[(0,.cells ((yC b).map .f))]/\nk=1)
   ⟨i,_,_,_,[],?wk,0,oM,rfl,rfl,rfl⟩ ?_
  case wk=>
   rw [Ll hk,Bool.and_true,<-hzt,<-hzl,<-hzr,<-hzf];exact⟨by repeat (first|exact trivial|refine⟨by first|rfl|exact congrArg (fun z=>some (DV.bool z)) hp0,rfl,?_⟩),by repeat (first|exact trivial|refine⟨by rfl,rfl,rfl,?_⟩),rfl,rfl⟩
  rintro m E S nk ⟨k,hkm,rfl,rfl,rfl⟩;refine qa ?_;intros;refine qb rfl (fun h1=>?_) (fun h1=>?_)
  ·have h1:=qG h1;obtain⟨q,hq⟩:∃q,l[k]?=some q:=⟨_,zge oM⟩;have hsq:=kh hq;have hst:=Lm (i:=i) hk hq;cases hfl:(pg&&Hi l i k b) with
   |false=>
    have hnx:(pg&&Hi l i (k+1) b)=false:=by rw [hst,<-Bool.and_assoc,hfl,Bool.false_and]
    refine qa ?_;intros;refine⟨m-1,oM,_,_,_,[],?wk,k+1,oM,rfl,rfl,rfl⟩
    case wk=>rw [hnx];exact ql
   |true=>
    have hnx:(pg&&Hi l i (k+1) b)=(!decide (q.kind=7)||decide (q.page<b.page)):=by rw [hst,<-Bool.and_assoc,hfl,Bool.true_and]
    cases e121:(q.kind !=7) with
    |true=>
     have h7:q.kind≠7:=by simpa using e121
     rw [decide_eq_false h7] at hnx;refine qa ?_;intros
     try simp only [e121]
     refine qa ?_;intros;refine⟨m-1,oM,_,_,_,[],?wk,k+1,oM,rfl,rfl,rfl⟩
     case wk=>rw [hnx];exact ql
    |false=>
     have h7:q.kind=7:=by simpa using e121
     rw [decide_eq_true h7,Bool.not_true,Bool.false_or] at hnx;refine qa ?_;intros
     try simp only [e121]
     refine qa ?_;intros;refine⟨m-1,oM,_,_,_,[],?wk,k+1,oM,rfl,rfl,rfl⟩
     case wk=>rw [hnx];exact ql
  ·have h1:=qQ h1;obtain rfl:k=i:=by omega
   refine qa ?_;intros;refine qc ⟨_,rfl,rfl,congrArg (fun z=>DV.bool z) ?_⟩;simp only [HV,Bool.false_eq_true,if_false];rw [Bool.and_assoc (ztZq&&zl&&zrZq&&zf&&zpZq)]
theorem Ni{l:List Blk}{i:Nat}{b:Blk}(hl:l.length<1000)(hb:l[i]?=some b)(h:GBZq b):DK 20 [jf l,.int i] fun d=>d=.bool (rgt b&&Hf l i b):=by
 by_cases h4:b.kind=4
 ·exact Nb hl hb h h4
 ·by_cases h7:b.kind=7
  ·exact Na hl hb h7
  ·have:=Nc hl hb h ⟨h4,h7⟩
   rwa [show (rgt b&&Hf l i b)=rgt b by unfold Hf Hi;rw [if_neg h4,if_neg h7,Bool.and_true]]
theorem Ly{b:Blk}(h:rgt b=true)(h7:b.kind=7):1<=b.page:=by
 unfold rgt at h;rw [if_neg (by omega),if_neg (by omega),if_neg (by omega),if_neg (by omega),if_neg (by omega),if_pos h7] at h;simp only [xt,xF] at h;exact h.2.1
structure Pg (l:List Blk) (i:Nat) (page:Int):Prop where
 le:∀(k:Nat) q,k<i->l[k]?=some q->q.kind=7->q.page<=page
 ex:page=0\/∃(k:Nat) (q:Blk),k<i/\l[k]?=some q/\q.kind=7/\q.page=page
theorem Pg.zero(l:List Blk):Pg l 0 0:=⟨fun k q h=>oM,.inl rfl⟩
theorem Ik{l:List Blk}{k:Nat}{q:Blk}(h:l[k]?=some q):l.getD k dB=q:=by rw [List.getD_eq_getElem?_getD,h];rfl
theorem Mx{l:List Blk}{i:Nat}{b:Blk}(hil:i<=l.length)(h7:b.kind=7):Hf l i b=true↔∀(k:Nat) q,k<i->l[k]?=some q->q.kind=7->q.page<b.page:=by
 have e:Hf l i b=(List.range i).all fun j=>!decide ((l.getD j dB).kind=7)||decide ((l.getD j dB).page<b.page):=by
  unfold Hf Hi;rw [if_neg (show¬b.kind=4 by omega),if_pos h7]
 rw [e,List.all_eq_true];constructor
 ·intro h k q hk hq hq7;have:=h k (List.mem_range.2 hk);rw [Ik hq,decide_eq_true hq7] at this;simpa using this
 ·intro h k hk;have hk:=List.mem_range.1 hk;obtain⟨q,hq⟩:∃q,l[k]?=some q:=⟨_,zge oM⟩;rw [Ik hq];by_cases h7:q.kind=7
  ·rw [decide_eq_true (h k q hk hq h7),Bool.or_true]
  ·rw [decide_eq_false h7];rfl
theorem My{l:List Blk}{i:Nat}{b:Blk}(h4:b.kind=4):Hf l i b=true↔¬(i=0\/(l.getD (i-1) dB).kind≠1/\(l.getD (i-1) dB).kind≠4):=by
 have e:Hf l i b=(decide (0<i)&&(decide ((l.getD (i-1) dB).kind=1)||decide ((l.getD (i-1) dB).kind=4))):=if_pos h4;rw [e];simp only [xt,Bool.or_eq_true,xF];omega
theorem Mn{l:List Blk}{i:Nat}{page:Int}{b:Blk}(h:Pg l i page)(hat:At rgt l i page)(hb:l[i]?=some b)(hr:(rgt b&&Hf l i b)=true):∃page',At rgt l (i+1) page'/\Pg l (i+1) page':=by
 have hil:i<l.length:=(zgs hb).1;rw [xt] at hr;obtain⟨h1,h2⟩:=hr;have n4Zq:¬(b.kind=4/\(i=0\/(l.getD (i-1) dB).kind≠1/\(l.getD (i-1) dB).kind≠4)):=fun⟨e4,e⟩=>(My e4).1 h2 e;by_cases h7:b.kind=7
 ·have hp:=(Mx (Nat.le_of_lt hil) h7).1 h2;have hpg:=Ly h1 h7;have n7Zq:¬b.page<=page:=fun e=>by
   rcases h.ex with e0|⟨k,q,hk,hq,hq7,e0⟩
   ·omega
   ·have:=hp k q hk hq hq7;omega
  have hst:=hat.step hb h1 n4Zq (fun e=>n7Zq e.2);rw [if_pos h7] at hst;refine⟨_,hst,fun k q hk hq hq7=>?_,.inr ⟨i,b,oM,hb,h7,rfl⟩⟩;by_cases e:k=i
  ·subst e;rw [hb] at hq;obtain rfl:=zsi hq;exact Int.le_refl _
  ·have:=hp k q oM hq hq7;omega
 ·have hst:=hat.step hb h1 n4Zq (fun e=>h7 e.1);rw [if_neg h7] at hst;refine⟨_,hst,fun k q hk hq hq7=>?_,h.ex.imp_right fun⟨k,q,hk,hq⟩=>⟨k,q,oM,hq⟩⟩;by_cases e:k=i
  ·subst e;rw [hb] at hq;obtain rfl:=zsi hq;exact absurd hq7 h7
  ·exact h.le k q oM hq hq7
theorem Mz{l:List Blk}{i:Nat}{page:Int}{b:Blk}(h:Pg l i page)(hat:At rgt l i page)(hb:l[i]?=some b)(hr:(rgt b&&Hf l i b)=false):XF rgt 0 0 0 l=((i:Int),170):=by
 have hil:i<l.length:=(zgs hb).1;refine hat.bad hb ?_;by_cases h1:rgt b=false
 ·exact .inl h1
 ·have h1:rgt b=true:=by simpa using h1
  rw [h1,Bool.true_and] at hr;by_cases h4:b.kind=4
  ·refine .inr (.inl ⟨h4,?_⟩);by_cases hc:i=0\/(l.getD (i-1) dB).kind≠1/\(l.getD (i-1) dB).kind≠4
   ·exact hc
   ·rw [(My h4).2 hc] at hr;cases hr
  ·by_cases h7:b.kind=7
   ·refine .inr (.inr ⟨h7,?_⟩);by_cases hc:b.page<=page
    ·exact hc
    ·rw [(Mx (Nat.le_of_lt hil) h7).2 fun k q hk hq hq7=>by have:=h.le k q hk hq hq7;omega] at hr;cases hr
   ·unfold Hf Hi at hr;rw [if_neg h4,if_neg h7] at hr;cases hr
theorem Ls{l:List Blk}(hl:l.length<1000)(hG:∀b∈l,GBZq b):DK 13 [jf l] fun d=>d=.tup [.int (jX rgt l).1,.int (jX rgt l).2]:=by
 refine qI fun Z0 lo=>?_;refine qa ?_;intros;refine qb (t:=decide ((l.length:Int)>100)) rfl (fun h1=>?_) (fun h1=>?_)
 ·have h1:=qG h1;refine qa ?_;intros;exact qc ⟨_,rfl,rfl,by rw [jX,if_pos (by omega)]⟩
 ·have h1:=qQ h1;refine qa ?_;intros;refine qm (fun m E S nk=>∃(i:Nat) (page:Int),i+m=l.length/\At rgt l i page/\Pg l i page/\E=[(0,jf l),(4,.int i)]/\S=[]/\nk=0)
   ⟨l.length,_,_,_,[],?wk,0,0,oM,At.zero rgt l,Pg.zero l,rfl,rfl,rfl⟩ ?_
  case wk=>exact ql
  rintro m E S nk ⟨i,page,him,hat,hpg,rfl,rfl,rfl⟩;refine qa ?_;intros;refine qb rfl (fun h2=>?_) (fun h2=>?_)
  ·have h2:=qG h2;obtain⟨b,hb⟩:∃b,l[i]?=some b:=⟨_,zge oM⟩;have hrr:=Ni hl hb (hG b (zmg hb));refine qa ?_;intros;refine qj rfl rfl hrr ?_;rintro _ rfl;cases hr:(rgt b&&Hf l i b) with
   |false=>
    have hc:=Mz hpg hat hb hr;refine qa ?_;intros;refine qb (t:=true) rfl (fun _=>?_) (fun h=>by cases h);refine qa ?_;intros;exact qc ⟨_,rfl,rfl,by rw [jX,if_neg (by omega),hc]⟩
   |true=>
    obtain⟨page',g1,g2⟩:=Mn hpg hat hb hr;refine qa ?_;intros;refine qb (t:=false) rfl (fun h=>by cases h) (fun _=>?_);refine qa ?_;intros;refine⟨m-1,oM,_,_,_,[],?wk,i+1,page',oM,g1,g2,rfl,rfl,rfl⟩
    case wk=>exact ql
  ·have h2:=qQ h2;have hi:i=l.length:=by omega
   subst hi;refine qa ?_;intros;exact qc ⟨_,rfl,rfl,by rw [jX,if_neg (by omega),hat.done]⟩
open Classical in
theorem Lt{p:Pic}(hF:Zr p):DK 45 [yz p] fun d=>d=.bool (decide (rO p)):=by
 refine qI fun Z0 lo=>?_;refine qa ?_;intros;refine qj rfl rfl (D1 hF) ?_;rintro _ ⟨r,hr,rfl⟩;obtain⟨r1,r2,r3⟩:=r;refine qa ?_;intros;refine qb (t:=(r3 !=0)) rfl (fun h1=>?_) (fun h1=>?_)
 ·have h1:r3≠0:=by simpa using h1
  refine qa ?_;intros;exact qc ⟨_,rfl,rfl,by rw [decide_eq_false fun hd:rO p=>h1 (congrArg (fun z:BQ=>z.2.2) (hr.uniq hd.1))]⟩
 ·have h1:r3=0:=by simpa using h1
  obtain⟨e,hv⟩:=hr.zero h1;rw [e] at hr;refine qa ?_;intros;refine qj rfl rfl (DP hv) ?_;rintro _ ⟨q,hz,rfl⟩;obtain⟨q1,q2,q3⟩:=q;refine qa ?_;intros;refine qc ⟨_,rfl,rfl,congrArg (fun z=>DV.bool z) ?_⟩;by_cases h0:q3=0
  ·subst h0;have hd:rO p:=⟨hr,_,hz,rfl⟩;exact (decide_eq_true hd).symm
  ·rw [decide_eq_false fun⟨_,r',hr',h'⟩=>h0 (hr'.zero hz h')];simpa using h0
def Hv(n:Nat)(f:List (Int × Int)):Prop:=(∃(t:Tr) (r:List (Int × Int)),t.ok/\t.dep<=8/\t.fl.length<=60/\f=t.fl++r/\r.length<=n)\/(Ib f/\f.length<=n)
theorem Hv.mono{n m:Nat}{f:List (Int × Int)}(h:Hv n f)(hn:n<=m):Hv m f:=h.imp (fun⟨t,r,h1,h2,h3,h4,h5⟩=>⟨t,r,h1,h2,h3,h4,oM⟩) fun⟨h1,h2⟩=>⟨h1,oM⟩
theorem Hv.add{n:Nat}{f:List (Int × Int)}(h:Hv n f){c:Int}(hc: -128<=c/\c<128):Hv (n+1) (f++[(c,0)]):=by
 rcases h with⟨t,r,h1,h2,h3,rfl,h5⟩|⟨h1,h2⟩
 ·exact .inl ⟨t,r++[(c,0)],h1,h2,h3,by rw [List.append_assoc],by rw [List.length_append,List.length_singleton];omega⟩
 ·refine .inr ⟨fun p hp=>?_,by rw [List.length_append,List.length_singleton];omega⟩;rcases List.mem_append.1 hp with hp|hp
  ·exact h1 p hp
  ·rw [List.mem_singleton.1 hp];exact⟨hc,rfl⟩
theorem Hv.len{n:Nat}{f:List (Int × Int)}(h:Hv n f):f.length<=60+n:=by
 rcases h with⟨t,r,h1,h2,h3,rfl,h5⟩|⟨h1,h2⟩
 ·rw [List.length_append];omega
 ·omega
structure GBn (n:Nat) (b:Blk):Prop where
 f:Hv n b.f
 p:∃p:Pic,Zr p/\iV p/\yz p=Ic b
 rows:b.rows.length<=3+n/\∀r∈b.rows,r.length<1000000/\∀s∈r,s.size<1000000
 text:b.text.size<1000000
 lv: -1000-128*(n:Int)<=b.level/\b.level<=1000+128*(n:Int)
 pg: -1000-128*(n:Int)<=b.page/\b.page<=1000+128*(n:Int)
 gp: -1000-128*(n:Int)<=b.gap/\b.gap<=1000+128*(n:Int)
theorem GBn.gb{n:Nat}{b:Blk}(h:GBn n b)(hn:n<=2):GBZq b:=by
 refine⟨Mj.both (h.f.mono hn),?_,h.rows.2,h.text⟩;obtain⟨p,h1,h2,h3⟩:=h.p;unfold Ip;rw [<-h3];exact⟨_,Ms h1 h2,Lt h1⟩
theorem GBn.sm{n:Nat}{b:Blk}(h:GBn n b)(hn:n<=2):Sm b:=by
 have h1:=h.lv;have h2:=h.pg;have h3:=h.gp;have h4:=h.rows.1;have h5:=h.f.len;exact⟨oM,oM,oM,oM,oM⟩
theorem GBn.mono{n m:Nat}{b:Blk}(h:GBn n b)(hn:n<=m):GBn m b:=by
 have h1:=h.lv;have h2:=h.pg;have h3:=h.gp;have h4:=h.rows.1;exact⟨h.f.mono hn,h.p,⟨oM,h.rows.2⟩,h.text,oM,oM,oM⟩
theorem Lj:Ib []:=fun p hp=>by cases hp
theorem Ln(k:Int):GBn 0 { dB with kind:=k }:=by
 have z: -1000-128*((0:Nat):Int)<=0/\(0:Int)<=1000+128*((0:Nat):Int):=by omega
 exact⟨.inr ⟨Lj,Nat.le_refl _⟩,⟨⟨0,0,0,[]⟩,(He 0).1,(He 0).2,rfl⟩,⟨Nat.zero_le _,fun r hr=>by cases hr⟩,Nat.zero_lt_succ _,z,z,z⟩
theorem Mp{m:MB}(h:m.good):Hv 0 m.blk.f:=by
 have z:Hv 0 []:=.inr ⟨Lj,Nat.le_refl _⟩;cases m with
 |math t=>exact .inl ⟨t,[],h.1,h.2.1,h.2.2,(List.append_nil _).symm,Nat.le_refl _⟩
 |tab rows=>exact z
 |text note s=>exact z
 |head lv s=>exact z
 |map p=>exact z
 |ink page=>exact z
theorem Lz{m:MB}(h:m.good):m.blk.text.size<1000000/\∀r∈m.blk.rows,∀s∈r,s.size<1000000:=by
 have z:(⟨#[]⟩:ByteArray).size<1000000:=Nat.zero_lt_succ _;cases m with
 |math t=>exact⟨z,fun r hr=>by cases hr⟩
 |tab rows=>
  obtain⟨_,_,c,_,_,h5⟩:=h;exact⟨z,fun r hr s hs=>by have:=Gl ((h5 r hr).2 s hs);omega⟩
 |text note s=>exact⟨by have:=Out.le h.toOut;show s.size<1000000;omega,fun r hr=>by cases hr⟩
 |head lv s=>exact⟨by have:=Out.le h.2.2.toOut;show s.size<1000000;omega,fun r hr=>by cases hr⟩
 |map p=>exact⟨z,fun r hr=>by cases hr⟩
 |ink page=>exact⟨z,fun r hr=>by cases hr⟩
theorem Lp{m:MB}(h:m.good):(-1000<=m.blk.level/\m.blk.level<=1000)/\(-1000<=m.blk.page/\m.blk.page<=1000)/\(-1000<=m.blk.gap/\m.blk.gap<=1000):=by
 have z:(-1000:Int)<=0/\(0:Int)<=1000:=by decide
 cases m with
 |math t=>exact⟨z,z,z⟩
 |tab rows=>exact⟨z,z,z⟩
 |text note s=>exact⟨z,z,z⟩
 |head lv s=>exact⟨show (-1000:Int)<=(lv:Int)/\(lv:Int)<=1000 by have:=h.2.1;omega,z,z⟩
 |map p=>
  have hv:=(h.2.2.1.zero rfl).2;have hg:2<=p.gap/\p.gap<=6:=by
   simp only [qJ,jS,xt,xF] at hv;exact hv.1.2.1
  exact⟨z,z,show -1000<=p.gap/\p.gap<=1000 by omega⟩
 |ink page=>exact⟨z,show (-1000:Int)<=(page:Int)/\(page:Int)<=1000 by have:=h.2;omega,z⟩
theorem Mo{m:MB}(h:m.good):GBn 0 m.blk:=by
 have h1:=Lo h;have h2:=Lz h;obtain⟨n1,n2,n3Zq⟩:=Lp h;exact⟨Mp h,Ma h _,⟨h1.1,fun r hr=>⟨by have:=h1.2 r hr;omega,h2.2 r hr⟩⟩,h2.1,oM,oM,oM⟩
theorem Mm{b:Blk}{g:Int}(h:∃p:Pic,Zr p/\iV p/\yz p=Ic b):∃p:Pic,Zr p/\iV p/\yz p=Ic { b with gap:=g }:=by
 obtain⟨p,h1,h2,h3⟩:=h;refine⟨{ p with gap:=g },h1,h2,?_⟩;unfold yz yL Ic at h3;injection h3 with h3;simp only [List.cons.injEq,DC.f.injEq,FD.c.injEq,C.int.injEq,true_and,and_true] at h3;obtain⟨e1,e2,_,e4⟩:=h3;show DV.agg [.f (FD.int p.w),.f (FD.int p.h),.f (FD.int g),.f (.sl 3 p.fs.length (p.fs.flatMap w8))]=DV.agg [.f (FD.int b.w),.f (FD.int b.h),.f (FD.int g),.f (.sl 3 b.nf b.ff)];rw [e1,e2,e4]
theorem Nf{n:Nat}{b:Blk}{x:Spo}(h:GBn n b)(hx:x.ok)(hs:x.s.size<=500):GBn (n+1) (Li x b):=by
 have h0:=h.mono (Nat.le_succ n);have x1:=hx.n1;have x2:=hx.n2;have l1:=h.lv;have l2:=h.pg;have l3:=h.gp;unfold Li;split
 ·exact⟨h0.f,h0.p,h0.rows,h0.text,h0.lv,h0.pg,h0.gp⟩
 ·exact⟨h0.f,h0.p,h0.rows,h0.text,by simp only;omega,h0.pg,h0.gp⟩
 ·exact⟨h0.f,h0.p,h0.rows,by simp only;omega,h0.lv,h0.pg,h0.gp⟩
 ·exact⟨h0.f,h0.p,h0.rows,h0.text,h0.lv,by simp only;omega,h0.gp⟩
 ·refine⟨h0.f,h0.p,⟨?_,fun r hr=>?_⟩,h0.text,h0.lv,h0.pg,h0.gp⟩
  ·have:=h.rows.1;simp only [List.length_append,List.length_singleton];omega
  ·rcases List.mem_append.1 hr with hr|hr
   ·exact h.rows.2 r hr
   ·rw [List.mem_singleton.1 hr];refine⟨Nat.le_of_ble_eq_true rfl,fun s hs'=>?_⟩;rw [List.mem_singleton.1 hs'];omega
 ·exact⟨h.f.add ⟨x1,x2⟩,h0.p,h0.rows,h0.text,h0.lv,h0.pg,h0.gp⟩
 ·exact⟨h0.f,Mm h0.p,h0.rows,h0.text,h0.lv,h0.pg,by simp only;omega⟩
 ·exact h0
theorem Ir{n:Nat}{l:List Blk}{x:Spo}(h:∀b∈l,GBn n b)(hx:x.ok):∀b∈Hg l x,GBn (n+1) b:=by
 have hm:∀b∈l,GBn (n+1) b:=fun b hb=>(h b hb).mono (Nat.le_succ n);have hg:∀i,GBn n (l.getD i dB):=fun i=>by
  rw [List.getD_eq_getElem?_getD];cases e:l[i]? with
  |none=>exact (Ln 0).mono (Nat.zero_le _)
  |some b=>exact h b (zmg e)
 intro b hb;unfold Hg at hb;split at hb
 ·rcases List.mem_append.1 hb with hb|hb
  ·exact hm b hb
  ·rw [List.mem_singleton.1 hb];exact (Ln _).mono (Nat.zero_le _)
 ·rename_i h0;split at hb
  ·rcases List.mem_append.1 hb with hb|hb
   ·exact hm b hb
   ·rw [List.mem_singleton.1 hb];exact (hg _).mono (Nat.le_succ n)
  ·rcases List.mem_append.1 hb with hb|hb
   ·exact hm b (List.mem_of_mem_take hb)
   ·exact hm b (List.mem_of_mem_drop hb)
  ·rcases List.mem_or_eq_of_mem_set hb with hb|rfl
   ·rcases List.mem_or_eq_of_mem_set hb with hb|rfl
    ·exact hm b hb
    ·exact (hg _).mono (Nat.le_succ n)
   ·exact (hg _).mono (Nat.le_succ n)
  ·rcases List.mem_or_eq_of_mem_set hb with hb|rfl
   ·exact hm b hb
   ·exact Nf (hg _) hx oM
abbrev Ld(x y:Spo):DV:=.agg ((Lx x++Lx y).map .f)
theorem Md{l:List RawB}{x y:Spo}(h1:∀x∈l,x.ok)(g1:l.length<9223372036854775808)(hx:x.ok)(hy:y.ok):DK 3 [J0 l,Ld x y] fun d=>d=.bool true:=by
 refine qI fun Z0 lo=>?_;refine qa ?_;intros;refine qj rfl rfl DN ?_;rintro _ rfl;refine qa ?_;intros;refine qj rfl rfl (nM h1 g1) ?_;rintro _ ⟨a,⟨ha,hal⟩,rfl⟩;have hA:(a.map MB.blk).length<=6:=by rw [List.length_map];exact hal
 have hv1:DK 10 [jf (a.map MB.blk)] fun d=>d=.bool true:=by
  have:=QY (R:=tt) (l:=a.map MB.blk) fun b hb=>by
   obtain⟨m,hm,rfl⟩:=List.mem_map.1 hb;exact gU (ha.good m hm)
  have h2:=Iw ha hal (a.map MB.blk).length;rw [List.take_length] at h2
  rwa [h2] at this
 have hgA:∀b∈a.map MB.blk,GBn 0 b:=fun b hb=>by
  obtain⟨m,hm,rfl⟩:=List.mem_map.1 hb;exact Mo (ha.good m hm)
 generalize a.map MB.blk=A at *;have hs1:=Lu (Iz hx (l:=A) oM fun b hb=>(hgA b hb).sm oM);have hgC:=Ir hgA hx;have hlC:=Ii A x;generalize Hg A x=C at *;have hs2:=Lu (Iz hy (l:=C) oM fun b hb=>(hgC b hb).sm oM);have hgD:=Ir hgC hy;have hlD:=Ii C y;generalize Hg C y=D at *;have hc1:=L1 (R:=rgt) (l:=C) fun b hb=>Hz ((hgC b hb).gb oM);have hr1:=Ls (l:=C) oM fun b hb=>(hgC b hb).gb oM;have hc2:=L1 (R:=rgt) (l:=D) fun b hb=>Hz ((hgD b hb).gb oM);have hr2:=Ls (l:=D) oM fun b hb=>(hgD b hb).gb oM;have hv2:=QY (R:=rgt) (l:=D) fun b hb=>Hz ((hgD b hb).gb oM);unfold kW at hv2;generalize jX rgt C=q1 at *;generalize jX rgt D=q2 at *;obtain⟨i1,n1⟩:=q1;obtain⟨i2,n2⟩:=q2;refine qa ?_;intros;refine qj rfl rfl hv1 ?_;rintro _ rfl;refine qa ?_;intros;refine qb (t:=false) rfl (fun h=>by cases h) (fun _=>?_);refine qa ?_;intros;refine qj rfl rfl hs1 ?_;rintro _ rfl;refine qa ?_;intros;refine qj rfl rfl hs2 ?_;rintro _ rfl;refine qa ?_;intros;refine qj rfl rfl hc1 ?_;rintro _ rfl;refine qa ?_;intros;refine qj rfl rfl hr1 ?_;rintro _ rfl;refine qa ?_;intros;refine qj rfl rfl hc2 ?_;rintro _ rfl;refine qa ?_;intros;refine qj rfl rfl hr2 ?_;rintro _ rfl;have b1:(i1==i1)=true:=beq_self_eq_true i1;have b2:(n1==n1)=true:=beq_self_eq_true n1;have b3:(i2==i2)=true:=beq_self_eq_true i2;have b4:(n2==n2)=true:=beq_self_eq_true n2;have b5Zq:(n2==0)=decide (n2=0):=rfl;refine qa ?_;intros;simp only [b1];refine qa ?_;intros;simp only [b2];refine qa ?_;intros;simp only [b3];refine qa ?_;intros;simp only [b4];refine qa ?_;intros;refine qj rfl rfl hv2 ?_;rintro _ rfl;cases hz:decide (n2=0)
 all_goals
  rw [hz] at b5Zq;refine qa ?_;intros;simp only [b5Zq];refine qa ?_;intros;exact qc ⟨_,rfl,rfl,rfl⟩
def spo2T:Ty:=.agg (.pair Is (.pair Is .unit))
theorem checks_law{l:List Q0}{w:Id × Id × Unit}(h:FX [.slice rawBT,spo2T] (l,w,())):DK 3 (DA [.slice rawBT,spo2T] (l,w,())) fun d=>d=.bool true:=by
 obtain⟨⟨h1,h1l⟩,⟨h2,h3,_⟩,_⟩:=h;obtain⟨w1,w2,u⟩:=w;obtain⟨g1,g2⟩:=Ix h2;obtain⟨g3,g4⟩:=Ix h3;have:=Md (l:=l.map XW) (fun x hx=>by obtain⟨y,hy,rfl⟩:=List.mem_map.1 hx;exact eK (h1 y hy)) (by rw [List.length_map];exact Nat.lt_succ_of_le h1l) g1 g3;rw [eI h1] at this;have e1:=DV.agg.inj g2;have e2:=DV.agg.inj g4;rw [show Ld (Lc w1) (Lc w2)=ES spo2T (show spo2T.den from (w1,w2,u)) by
  unfold Ld;rw [List.map_append,e1,e2];rfl] at this
 exact this
end Go.Ah
