/- -/
import Derived.Test.YtdlelodnhjacgaaGreatDoorAb17
import Derived.KernelRfl
set_option linter.unusedSimpArgs false
set_option linter.unusedVariables false
set_option maxRecDepth 8000
set_option maxHeartbeats 16000000
namespace Go.Ai
open Go.Ab Go.Proofs
theorem RK(s t:ByteArray)(i:Nat):bt (s++t) i=if i<s.size then bt s i else bt t (i-s.size):=by
 unfold bt;rw [ByteArray.data_append,Array.toList_append,qT,qT,qT,List.getElem?_append];have:s.data.toList.length=s.size:=sM;rw [this];split<;>rfl
theorem Pk(s:ByteArray)(m i:Nat)(h:i<m):bt (s.extract 0 m) i=bt s i:=by
 unfold bt;rw [ByteArray.data_extract,Array.toList_extract,qT,qT,List.extract_eq_take_drop,Kz,Kw,if_pos (by omega)]
def EJ(v:Nat):Bool:=v==97||v==98||v==99||v==65||v==66||v==49||v==50||v==225||v==226
structure Out (n:Nat) (s:ByteArray):Prop where
 le:s.size<=n
 ch:∀i,i<s.size->EJ (bt s i)=true\/bt s i=32
 first:0<s.size->bt s 0≠32
 adj:∀i,i+1<s.size->¬(bt s i=32/\bt s (i+1)=32)
structure Gd (n:Nat) (s:ByteArray):Prop extends Out n s where
 pos:1<=s.size
 last:bt s (s.size-1)≠32
theorem Out.nil(n:Nat):Out n ⟨#[]⟩:=⟨Xa _,fun i h=>(eL _ h).elim,fun h=>(Nat.lt_irrefl _ h).elim,fun i h=>(eL _ h).elim⟩
theorem Ls(c:UInt8):(⟨#[c]⟩:ByteArray).size=1:=rfl
theorem Out.push{n:Nat}{s:ByteArray}(h:Out n s){c:UInt8}(hs:s.size<n)(hc:EJ c.toNat=true\/c.toNat=32)(hl:c.toNat=32->0<s.size/\bt s (s.size-1)≠32):Out n (s++⟨#[c]⟩):=by
 have hb:∀i,i<s.size->bt (s++⟨#[c]⟩) i=bt s i:=fun i hi=>by rw [RK,if_pos hi]
 have hb2:bt (s++⟨#[c]⟩) s.size=c.toNat:=by rw [RK,if_neg (Nat.lt_irrefl _),Nat.sub_self];rfl
 have hsz:(s++(⟨#[c]⟩:ByteArray)).size=s.size+1:=by rw [ByteArray.size_append,Ls]
 refine⟨oM,fun i hi=>?_,fun _=>?_,fun i hi=>?_⟩
 ·by_cases e:i<s.size
  ·rw [hb i e];exact h.ch i e
  ·rw [show i=s.size by omega,hb2];exact hc
 ·by_cases e:0<s.size
  ·rw [hb 0 e];exact h.first e
  ·have e0:s.size=0:=oM;rw [<-e0,hb2];intro h32;have:=(hl h32).1;omega
 ·by_cases e:i+1<s.size
  ·rw [hb i (by omega),hb (i+1) e];exact h.adj i e
  ·have e1:i+1=s.size:=oM;rw [e1,hb2,hb i (by omega)];rintro ⟨g1,g2⟩;have:=(hl g2).2;rw [<-e1,bB] at this;exact this g1
theorem Out.cut{n:Nat}{s:ByteArray}(h:Out n s)(hp:0<s.size)(hl:bt s (s.size-1)=32):Gd n (s.extract 0 (s.size-1)):=by
 have h2:2<=s.size:=by
  by_cases e:s.size=1
  ·have:=h.first hp;rw [e] at hl;exact absurd hl this
  ·omega
 have hsz:(s.extract 0 (s.size-1)).size=s.size-1:=by rw [ByteArray.size_extract];omega
 have hb:∀i,i<s.size-1->bt (s.extract 0 (s.size-1)) i=bt s i:=fun i hi=>Pk s _ i hi;have hle:=h.le;refine⟨⟨oM,fun i hi=>?_,fun _=>?_,fun i hi=>?_⟩,oM,?_⟩
 ·rw [hb i (by omega)];exact h.ch i (by omega)
 ·rw [hb 0 (by omega)];exact h.first hp
 ·rw [hb i (by omega),hb (i+1) (by omega)];exact h.adj i (by omega)
 ·rw [hsz,hb _ (by omega)];intro hl2;have:=h.adj (s.size-2) oM;rw [show s.size-2+1=s.size-1 by omega] at this;exact this ⟨by rw [show s.size-1-1=s.size-2 by omega] at hl2;exact hl2,hl⟩
structure Alph (A:ByteArray):Prop where
 pos:1<=A.size
 le:A.size<=20
 ltr:∀k,k<A.size->∃c:UInt8,A.extract k (k+1)=⟨#[c]⟩/\EJ c.toNat=true/\c.toNat≠32
 fst:A.extract 0 1=⟨#[97]⟩
def XX:Nat->ByteArray
 |0=>⟨#[97,98,99]⟩
 |1=>⟨#[97,98,99]⟩
 |2=>⟨#[97,98,99,65,66]⟩
 |3=>⟨#[97,98,99,225,226]⟩
 |_=>⟨#[97,98,99,49,50]⟩
theorem RW:∀k,k<5->∀j,j<5->j<(XX k).size->(XX k).extract j (j+1)=⟨#[(XX k).data.toList.getD j 0]⟩/\EJ ((XX k).data.toList.getD j 0).toNat=true/\((XX k).data.toList.getD j 0).toNat≠32:=by decide+kernel
theorem Br:∀k,k<5->(1<=(XX k).size/\(XX k).size<=5)/\(XX k).extract 0 1=⟨#[97]⟩:=by decide+kernel
theorem Bs{k:Nat}(hk:k<5):Alph (XX k):=by
 obtain⟨⟨h1,h2⟩,h3⟩:=Br k hk;exact⟨h1,oM,fun j hj=>⟨_,RW k hk j oM hj⟩,h3⟩
abbrev Jr(l:List Nat):List FD:=l.map fun v=>.c (.int .u8 (v:Nat))
abbrev Ll(l:List Nat):DV:=.one (.f (.sl 1 l.length (Jr l)))
theorem Rk{l:List Nat}{i v:Nat}(h:l[i]?=some v):xd (Jr l) (i*1) 1=some [.c (.int .u8 (v:Nat))]:=by
 have:=zp (f:=fun v:Nat=>[FD.c (.int .u8 (v:Nat))]) (e:=1) (fun _=>rfl) h
 rwa [show l.flatMap (fun v:Nat=>[FD.c (.int .u8 (v:Nat))])=Jr l by
  clear h this;induction l with
  |nil=>rfl
  |cons a l ih=>rw [wB,ih];rfl] at this
section
variable{p:Par}{base rs:Nat}{Q:qk->Bx->Nat->Prop}{r:List SOper}{W:Wt}{A:List Nat}{E:qk}{S:Bx}{nk:Nat}{id:Nat}{dst:Option Nat}{aid:Option Nat}{ws:List Nat}{keep:Bool}
theorem O4{x a b:Opd}{s:ByteArray}{i j:Nat}(hx:ro E x=some (xI s))(ha:ro E a=some (.int i))(hb:ro E b=some (.int j))(hij:i<=j)(hj:j<=s.size)(h:DPW p base rs Q r W A (qI E dst (xI (s.extract i j))) S nk):DPW p base rs Q (⟨id,dst,.p (.sslice x (some a) (some b)),none,aid,ws,keep⟩::r) W A E S nk:=by
 refine yP (fun {Z β H F} hE=>⟨.one (.str (s.extract i j)),?_,yg O⟩) h;simp only [qp,wU,qQ,xj hE hx,xj hE ha,xj hE hb];rw [if_pos (by omega)];simp only [jW];rw [if_pos (by omega)]
theorem FF{x b:Opd}{s:ByteArray}{j:Nat}(hx:ro E x=some (xI s))(hb:ro E b=some (.int j))(hj:j<=s.size)(h:DPW p base rs Q r W A (qI E dst (xI (s.extract 0 j))) S nk):DPW p base rs Q (⟨id,dst,.p (.sslice x none (some b)),none,aid,ws,keep⟩::r) W A E S nk:=by
 refine yP (fun {Z β H F} hE=>⟨.one (.str (s.extract 0 j)),?_,yg O⟩) h;simp only [qp,wU,qQ,xj hE hx,xj hE hb];rw [if_pos (by omega)];rfl
end
theorem Uj{n:Nat}(hn:1<=n):Gd n ⟨#[97]⟩:=⟨⟨hn,fun i hi=>by
 have:i=0:=by have:i<1:=hi;omega
 subst this;exact .inl O,fun _=>by decide,fun i hi=>by have:i+1<1:=hi;omega⟩,qz _,by decide⟩
theorem NW{s:ByteArray}(h:0<s.size):(s.data.toList==(⟨#[]⟩:ByteArray).data.toList)=false:=by
 rw [beq_eq_false_iff_ne];intro e;have h1:s.data.toList.length=s.size:=sM;rw [e] at h1;have:(⟨#[]⟩:ByteArray).data.toList.length=0:=rfl;omega
theorem MJ{A:ByteArray}(hA:Alph A){n:Nat}(hn:1<=n/\n<=100){s:ByteArray}(ho:Out n s){Z0:Nat->Prop}{lo:Nat}:
 DPS (Par.base Tryz.prog GN (H00 1) Z0 lo) W4.n (.seq (.seq (.ops J7 0 true) (.cond (.t 70) (.ops J6 0 true) .skip)) (.seq (.seq (.ops J5 0 true) (.cond (.t 77) (.seq (.ops J4 0 true) .ret) .skip)) (.seq (.ops J3 0 true) .ret)))
  (Jt (Par.base Tryz.prog GN (H00 1) Z0 lo) W4.res fun r=>∃s,Gd n s/\r=xI s) [(2,xI A),(7,xI s)] [] 0:=by
 have hle:=ho.le;by_cases hp:0<s.size
 ·have e1:decide ((s.size:Int)>0)=true:=decide_eq_true oM;have hw:IntKind.i64.wrap ((s.size:Int)-1)=((s.size-1:Nat):Int):=by rw [qm (by omega) (by omega)];omega
  refine qa ?_;intros;simp only [e1];refine qa ?_;intros;rw [hw];refine jL O O (show s.size-1<s.size by omega) ?_;refine qa ?_;intros;refine qd (t:=decide ((bt s (s.size-1):Int)=32)) O (fun h2=>?_) (fun h2=>?_)
  ·have h2:bt s (s.size-1)=32:=by have:=xo h2;omega
   have hg:=ho.cut hp h2;have hpos:=hg.pos;refine qa ?_;intros;rw [hw];refine FF O O (show s.size-1<=s.size by omega) ?_;refine qa ?_;intros;refine qd (t:=false) (congrArg (fun z=>some (DV.bool z)) (NW (s:=s.extract 0 (s.size-1)) hpos)) (fun h=>by cases h) (fun _=>?_);refine qa ?_;intros;exact qb ⟨_,O,O,_,hg,O⟩
  ·have h2:bt s (s.size-1)≠32:=by have:=zK h2;omega
   refine qa ?_;intros;refine qd (t:=false) (congrArg (fun z=>some (DV.bool z)) (NW hp)) (fun h=>by cases h) (fun _=>?_);refine qa ?_;intros;exact qb ⟨_,O,O,_,⟨ho,hp,h2⟩,O⟩
 ·have e1:decide ((s.size:Int)>0)=false:=decide_eq_false oM;refine qa ?_;intros;simp only [e1];refine qa ?_;intros;refine qd (t:=false) O (fun h=>by cases h) (fun _=>?_);refine qa ?_;intros;have hs:s.data.toList=[]:=vw (by
   have:s.data.toList.length=s.size:=sM;omega)
  refine qd (t:=true) (congrArg (fun z=>some (DV.bool z)) (show (s.data.toList==(⟨#[]⟩:ByteArray).data.toList)=true by rw [hs];rfl)) (fun _=>?_) (fun h=>by cases h);refine qa ?_;intros;refine FF O O (show 1<=A.size from hA.pos) ?_;rw [hA.fst];refine qa ?_;intros;exact qb ⟨_,O,O,⟨#[97]⟩,Uj hn.1,O⟩
theorem aL{A:ByteArray}(hA:Alph A){l:List Nat}{n:Nat}(hn:1<=n/\n<=100)(hl:∀v∈l,v<256)(hll:l.length<9223372036854775808):DK 60 [Ll l,.int n,xI A] fun r=>∃s,Gd n s/\r=xI s:=by
 refine je DF O ko fun Z0 lo=>?_;refine qa ?_;intros;refine qu (fun m E S nk=>∃(i:Nat) (s:ByteArray),i+m=l.length/\Out n s/\E=[(0,Ll l),(1,.int n),(2,xI A),(7,xI s),(8,.int i)]/\S=[]/\nk=0)
  ⟨l.length,_,_,_,[],?wk,0,⟨#[]⟩,oM,Out.nil n,rfl,rfl,rfl⟩ ?_
 case wk=>exact qs
 rintro m E S nk ⟨i,s,him,ho,rfl,rfl,rfl⟩;have hle:=ho.le;cases e1:decide ((i:Int)<l.length) with
 |false=>
  refine qa ?_;intros;simp only [e1];refine qa ?_;intros;refine qd (t:=false) O (fun h=>by cases h) (fun _=>?_);refine yW ?_;refine W6 [] ?wk2 (MJ hA hn ho)
  case wk2=>exact qs
 |true=>
  have h1:=xo e1;refine qa ?_;intros;simp only [e1];refine qa ?_;intros;refine qd (t:=decide ((s.size:Int)<n)) O (fun h2=>?_) (fun h2=>?_)
  ·have h2:=xo h2;obtain⟨v,hv⟩:∃v,l[i]?=some v:=⟨_,zge oM⟩;have hsv:=Rk hv;have hv2:=hl v (zmg hv);have hA1:=hA.le;have hv8:v % (A.size+1)<A.size+1:=kp _ oM;have hk:(IntKind.i64.wrap (v:Int)).tmod (IntKind.i64.wrap ((A.size:Int)+1))=((v % (A.size+1):Nat):Int):=by
    rw [qm (n:=(v:Int)) (by omega) (by omega),qm (n:=(A.size:Int)+1) (by omega) (by omega),show (A.size:Int)+1=((A.size+1:Nat):Int) from rfl,<-JK]
   refine qa ?_;intros;refine Wd O O (by rw [qm (by omega) (by omega)];omega) ?_;rw [hk];refine qa ?_;intros;generalize v % (A.size+1)=q at *;refine qd (t:=decide ((q:Int)>0)) O (fun h3=>?_) (fun h3=>?_)
   ·have h3:=xo h3;obtain⟨j,rfl⟩:∃j,q=j+1:=⟨q-1,oM⟩;have hwj:IntKind.i64.wrap (((j+1:Nat):Int)-1)=((j:Nat):Int):=by rw [qm (by omega) (by omega)];omega
    obtain⟨c,hc1,hc2,hc3⟩:=hA.ltr j oM;have hpu:=ho.push (c:=c) oM (.inl hc2) (fun h=>absurd h hc3);refine qa ?_;intros;rw [hwj];refine O4 (i:=j) (j:=j+1) O O O (by omega) (show j+1<=A.size by omega) ?_;rw [hc1];refine qa ?_;intros;refine FG O O (by rw [Ls];omega) ?_;refine qa ?_;intros;refine⟨m-1,oM,_,_,_,[],?wk,i+1,_,oM,hpu,O,O,O⟩
    case wk=>exact qs
   ·by_cases hp:0<s.size
    ·have e42:decide ((s.size:Int)>0)=true:=decide_eq_true oM;have hwn:IntKind.i64.wrap ((n:Int)-1)=((n-1:Nat):Int):=by rw [qm (by omega) (by omega)];omega
     have hws:IntKind.i64.wrap ((s.size:Int)-1)=((s.size-1:Nat):Int):=by rw [qm (by omega) (by omega)];omega
     cases e48:decide ((s.size:Int)<((n-1:Nat):Int)) with
     |true=>
      have h48:=xo e48;refine qa ?_;intros;simp only [e42];refine qa ?_;intros;simp only [hwn,e48];refine qa ?_;intros;rw [hws];refine jL O O (show s.size-1<s.size by omega) ?_;refine qa ?_;intros;refine qd (t:=((bt s (s.size-1):Int)!=32)) O (fun h5=>?_) (fun h5=>?_)
      ·have h5:bt s (s.size-1)≠32:=by have:=bne_iff_ne.1 h5;omega
       have hpu:=ho.push (c:=32) oM (.inr rfl) (fun _=>⟨hp,h5⟩);refine qa ?_;intros;refine FG O O (by rw [Ls];omega) ?_;refine qa ?_;intros;refine⟨m-1,oM,_,_,_,[],?wk,i+1,_,oM,hpu,O,O,O⟩
       case wk=>exact qs
      ·refine qa ?_;intros;refine⟨m-1,oM,_,_,_,[],?wk,i+1,s,oM,ho,O,O,O⟩
       case wk=>exact qs
     |false=>
      refine qa ?_;intros;simp only [e42];refine qa ?_;intros;simp only [hwn,e48];refine qa ?_;intros;refine qd (t:=false) O (fun h=>by cases h) (fun _=>?_);refine qa ?_;intros;refine⟨m-1,oM,_,_,_,[],?wk,i+1,s,oM,ho,O,O,O⟩
      case wk=>exact qs
    ·have e42:decide ((s.size:Int)>0)=false:=decide_eq_false oM;refine qa ?_;intros;simp only [e42];refine qa ?_;intros;refine qd (t:=false) O (fun h=>by cases h) (fun _=>?_);refine qa ?_;intros;refine⟨m-1,oM,_,_,_,[],?wk,i+1,s,oM,ho,O,O,O⟩
     case wk=>exact qs
  ·refine yW ?_;refine W6 [] ?wk2 (MJ hA hn ho)
   case wk2=>exact qs
theorem TA:∀v,v<256->EJ v=true->B8 v=true/\JG v≠4:=by decide+kernel
theorem Out.chr{n:Nat}{s:ByteArray}(h:Out n s){i:Nat}(hi:i<s.size):B8 (bt s i)=true:=by
 rcases h.ch i hi with h|h
 ·exact (TA _ (XW s i) h).1
 ·rw [h];rfl
theorem Sr:((List.range 256).all fun n=>match Wc tabS 100 94 [.one (.int .u8 n)] HS with
 |some (.one (.bool c))=>c==decide (n % 128=32)
 |_=>false)=true:=by kernel_rfl
theorem Py:((List.range 256).all fun n=>match Wc tabS 100 166 [.one (.int .u8 n)] HS with
 |some (.one (.bool c))=>c==B8 n
 |_=>false)=true:=by kernel_rfl
theorem r8{n:Nat}(h:n<256):DK 94 [.one (.f (.c (.int .u8 n)))] fun d=>d=.bool (decide (n % 128=32)):=by
 have h1:=wA.1 Sr n (jF.2 h);split at h1
 ·rename_i c hc;have:c=decide (n % 128=32):=by simpa using h1
  subst this;exact Ji (vs:=[.one (.int .u8 n)]) ⟨O,trivial⟩ O O hc
 ·cases h1
theorem Ol{n:Nat}(h:n<256):DK 166 [.one (.f (.c (.int .u8 n)))] fun d=>d=.bool (B8 n):=by
 have h1:=wA.1 Py n (jF.2 h);split at h1
 ·rename_i c hc;have:c=B8 n:=by simpa using h1
  subst this;exact Ji (vs:=[.one (.int .u8 n)]) ⟨O,trivial⟩ O O hc
 ·cases h1
theorem Et:∀v,v<256->EJ v=true->v % 128≠32:=by decide+kernel
theorem Out.sp{n:Nat}{s:ByteArray}(h:Out n s){i:Nat}(hi:i<s.size):decide (bt s i % 128=32)=decide (bt s i=32):=by
 rcases h.ch i hi with h|h
 ·rw [decide_eq_false (Et _ (XW s i) h),decide_eq_false (fun e=>by rw [e] at h;cases h)]
 ·rw [h]
theorem FW{n:Nat}{s:ByteArray}(h:Out n s)(hn:n<=1000):DK 139 [xI s] fun r=>r=.tup [.int s.size,.int 0]:=by
 have hle:=h.le;refine yQ ?_;intros;refine qu (fun m E S nk=>∃i:Nat,i+m=s.size/\E=[(0,xI s),(4,.int i)]/\S=[]/\nk=0)
  ⟨s.size,_,_,_,[],?wk,0,oM,rfl,rfl,rfl⟩ ?_
 case wk=>exact qs
 rintro m E S nk ⟨i,him,rfl,rfl,rfl⟩;refine qa ?_;intros;refine qd O (fun h1=>?_) (fun h1=>?_)
 ·have h1:=xo h1;have hc:=Ol (XW s i);rw [h.chr (by omega)] at hc;refine qa ?_;intros;refine jL O O (show i<s.size by omega) ?_;refine qa ?_;intros;refine x6 O O hc ?_;intros;refine qd (t:=false) O (fun h=>by cases h) (fun _=>?_);refine qa ?_;intros;refine⟨m-1,oM,_,_,_,[],?wk,i+1,oM,O,O,O⟩
  case wk=>exact qs
 ·exact QK
theorem PM{n:Nat}{s:ByteArray}(h:Out n s)(hn:n<=1000):DK 93 [xI s] fun r=>r=.bool true:=by
 refine yQ ?_;intros;refine qf O O (FW h hn) ?_;rintro _ rfl;exact QK
theorem Kc{n:Nat}{s:ByteArray}(h:Gd n s)(hn:n<=400):DK 65 [xI s] fun r=>r=.bool true:=by
 have hle:=h.le;have hp:=h.pos;have hit:=PM h.toOut oM;have hs0:=r8 (XW s 0);rw [h.sp (by omega),decide_eq_false (h.first hp)] at hs0;have hs1:=r8 (XW s (s.size-1));rw [h.sp (by omega),decide_eq_false h.last] at hs1;have e10:((s.size:Int)==0)=false:=by rw [beq_eq_false_iff_ne];omega
 have e15:decide ((s.size:Int)>400)=false:=decide_eq_false oM;have hw:IntKind.i64.wrap ((s.size:Int)-1)=((s.size-1:Nat):Int):=by rw [qm (by omega) (by omega)];omega
 refine yQ ?_;intros;refine x6 O O hit ?_;intros;simp only [e10];refine qa ?_;intros;simp only [e15];refine qa ?_;intros;refine jL (j:=0) O O hp ?_;refine qa ?_;intros;refine x6 O O hs0 ?_;intros;rw [hw];refine jL O O (show s.size-1<s.size by omega) ?_;refine qa ?_;intros;refine x6 O O hs1 ?_;intros;refine qd (t:=false) O (fun h=>by cases h) (fun _=>?_);refine qa ?_;intros;refine qu (fun m E S nk=>∃i:Nat,i+m=s.size/\1<=i/\E=[(0,xI s),(3,.int i)]/\S=[]/\nk=0)
  ⟨s.size-1,_,_,_,[],?wk,1,oM,oM,rfl,rfl,rfl⟩ ?_
 case wk=>exact qs
 rintro m E S nk ⟨i,him,h1i,rfl,rfl,rfl⟩;refine qa ?_;intros;refine qd O (fun h1=>?_) (fun h1=>?_)
 ·have h1:=xo h1;have hsi:=r8 (XW s i);rw [h.sp (by omega)] at hsi;have hsj:=r8 (XW s (i-1));rw [h.sp (by omega)] at hsj;have hwi:IntKind.i64.wrap ((i:Int)-1)=((i-1:Nat):Int):=by rw [qm (by omega) (by omega)];omega
  have hadj:=h.adj (i-1) oM;rw [show i-1+1=i by omega] at hadj;refine qa ?_;intros;refine jL O O (show i<s.size by omega) ?_;refine qa ?_;intros;refine qf O O hsi ?_;rintro _ rfl;by_cases hb:bt s i=32
  ·rw [decide_eq_true hb];rw [decide_eq_false (fun e=>hadj ⟨e,hb⟩)] at hsj;refine qa ?_;intros;rw [hwi];refine jL O O (show i-1<s.size by omega) ?_;refine qa ?_;intros;refine x6 O O hsj ?_;intros;refine qd (t:=false) O (fun h=>by cases h) (fun _=>?_);refine qa ?_;intros;refine⟨m-1,oM,_,_,_,[],?wk,i+1,oM,oM,O,O,O⟩
   case wk=>exact qs
  ·rw [decide_eq_false hb];refine qa ?_;intros;refine qd (t:=false) O (fun h=>by cases h) (fun _=>?_);refine qa ?_;intros;refine⟨m-1,oM,_,_,_,[],?wk,i+1,oM,oM,O,O,O⟩
   case wk=>exact qs
 ·exact QK
structure RuL where
 pr:ByteArray
 cells:List Int
 left:Int
 right:Int
 frm:Int
 to_:Int
 deriving Inhabited
structure TbL where
 modes:Int
 acc:Int
 rules:List RuL
structure StL where
 mode:Int
 last:Int
 need:Int
 deriving DecidableEq,Inhabited
def D9(r:RuL):List FD:=[.c (.str r.pr),.sl 1 r.cells.length (r.cells.flatMap qU),.c (.int .u8 r.left),.c (.int .u8 r.right),.c (.int .i64 r.frm),.c (.int .i64 r.to_)]
def n4(s:StL):List FD:=[.c (.int .i64 s.mode),.c (.int .i64 s.last),.c (.int .u8 s.need)]
abbrev Z3(t:TbL):FD:=.sl 6 t.rules.length (t.rules.flatMap D9)
abbrev Zv(t:TbL):DV:=.agg [.f (.c (.int .i64 t.modes)),.f (.c (.int .u8 t.acc)),.f (Z3 t)]
abbrev bG(s:StL):DV:=.agg [.f (.c (.int .i64 s.mode)),.f (.c (.int .i64 s.last)),.f (.c (.int .u8 s.need))]
abbrev w9(l:List StL):DV:=.one (.f (.sl 3 l.length (l.flatMap n4)))
def Kk(mask k:Int):Bool:=mask.toNat/2^k.toNat % 2==1
def LG(a b:Int):Int:=IntKind.u8.wrap (BitVec.ofInt IntKind.u8.bits a&&& BitVec.ofInt IntKind.u8.bits b).toNat
def jv(s:StL)(r:RuL):Option StL:=
 if r.frm=s.mode/\Kk r.left s.last=true then
  if r.pr.size=0 then (if LG s.need r.right=0 then none else some ⟨r.to_,s.last,LG s.need r.right⟩)
  else if Kk s.need (JG (bt r.pr 0))=true then some ⟨r.to_,JG (bt r.pr (r.pr.size-1)),r.right⟩ else none
 else none
def lK(s:StL):Bool:=decide (0<=s.mode/\s.mode<=1/\0<=s.last/\s.last<=5/\0<=s.need/\s.need<=63)
def KY(r:RuL):Bool:=decide (r.pr.size<=3/\1<=r.cells.length/\r.cells.length<=2/\0<=r.left/\r.left<=63/\0<=r.right/\r.right<=63/\0<=r.frm/\r.frm<=1/\0<=r.to_/\r.to_<=1)&&r.cells.all fun c=>decide (0<=c/\c<=62)
def F9(U:List StL)(t:TbL):Bool:=U.all fun s=>t.rules.all fun r=>match jv s r with
 |some s'=>U.elem s'
 |none=>true
def MN(U:List StL)(t:TbL):Bool:=decide (1<=t.modes/\t.modes<=2/\0<=t.acc/\t.acc<=3/\t.rules.length<=10/\U.length<=8)&&(t.rules.all KY)&&(U.all lK)&&U.elem ⟨0,0,63⟩&&F9 U t
def yS(s:ByteArray)(c:List Int)(a b:Int):RuL:=⟨s,c,63,63,a,b⟩
def lS(c:Int)(k:Int):RuL:=⟨⟨#[]⟩,[c],63,k,0,1⟩
def Jy:List RuL:=[yS ⟨#[97]⟩ [1] 0 0,yS ⟨#[98]⟩ [3] 0 0,yS ⟨#[99]⟩ [9] 0 0,yS ⟨#[32]⟩ [0] 0 0]
def Xc:Nat->TbL
 |0=>⟨1,1,Jy⟩
 |1=>⟨1,1,Jy++[yS ⟨#[97,98]⟩ [7] 0 0,yS ⟨#[97,98,99]⟩ [15] 0 0,yS ⟨#[99,97]⟩ [4,4] 0 0]⟩
 |2=>⟨2,1,Jy++[lS 32 4,yS ⟨#[65]⟩ [1] 1 0,yS ⟨#[66]⟩ [3] 1 0]⟩
 |3=>⟨2,1,Jy++[lS 40 2,yS ⟨#[225]⟩ [1] 1 0,yS ⟨#[226]⟩ [3] 1 0]⟩
 |_=>⟨2,3,Jy++[lS 60 8,yS ⟨#[49]⟩ [1] 1 1,yS ⟨#[50]⟩ [3] 1 1,yS ⟨#[32]⟩ [0] 1 0]⟩
def grow(t:TbL)(U:List StL):List StL:=U.foldl (fun V s=>t.rules.foldl (fun V r=>match jv s r with
 |some s'=>if V.elem s' then V else V++[s']
 |none=>V) V) U
def NH(k:Nat):List StL:=grow (Xc k) (grow (Xc k) (grow (Xc k) (grow (Xc k) [⟨0,0,63⟩])))
theorem En:∀k,k<5->MN (NH k) (Xc k)=true:=by decide+kernel
structure TOk (U:List StL) (t:TbL):Prop where
 m:1<=t.modes/\t.modes<=2
 a:0<=t.acc/\t.acc<=3
 rl:t.rules.length<=10
 ul:U.length<=8
 r:∀r∈t.rules,KY r=true
 s:∀s∈U,lK s=true
 start:(⟨0,0,63⟩:StL)∈U
 cl:∀s∈U,∀r∈t.rules,∀s',jv s r=some s'->s'∈U
theorem Ut{k:Nat}(h:k<5):TOk (NH k) (Xc k):=by
 have h:=En k h;simp only [MN,x8,yA,wA,List.elem_iff,F9] at h;obtain⟨⟨⟨⟨⟨h1,h2,h3,h4,h5,h6⟩,h7⟩,h8⟩,h9⟩,h10⟩:=h;refine⟨⟨h1,h2⟩,⟨h3,h4⟩,h5,h6,h7,h8,h9,fun s hs r hr s' e=>?_⟩;have:=h10 s hs r hr;rw [e] at this;simpa using this
theorem Z4{r:RuL}(h:KY r=true):(r.pr.size<=3/\1<=r.cells.length/\r.cells.length<=2/\0<=r.left/\r.left<=63/\0<=r.right/\r.right<=63/\0<=r.frm/\r.frm<=1/\0<=r.to_/\r.to_<=1)/\∀c∈r.cells,0<=c/\c<=62:=by
 simp only [KY,x8,yA,wA] at h;exact h
theorem WB{s:StL}(h:lK s=true):0<=s.mode/\s.mode<=1/\0<=s.last/\s.last<=5/\0<=s.need/\s.need<=63:=xo h
def yN(l:List StL)(s:StL):Nat:=l.idxOf s
abbrev zF(R:List (List Int))(j k:Nat):Int:=(R.getD j default).getD k default
def Zr(s:ByteArray)(i:Nat)(p:ByteArray):Bool:=decide (i+p.size<=s.size)&&((s.extract i (i+p.size)).data.toList==p.data.toList)
structure StsOk (t:TbL) (l:List StL):Prop where
 nn:l.length<=8
 ok:∀s∈l,lK s=true
 hd:l.getD 0 default=⟨0,0,63⟩
 ne:0<l.length
 cl:∀s∈l,∀r∈t.rules,∀s',jv s r=some s'->s'∈l
theorem StsOk.hm{t:TbL}{l:List StL}(h:StsOk t l):(⟨0,0,63⟩:StL)∈l:=h.hd▸qn h.ne
def yY(t:TbL)(s:ByteArray)(l:List StL)(R:List (List Int))(i:Nat)(st:StL)(r:Nat):Int:=
 match jv st (t.rules.getD r default) with
 |none=> -1
 |some s'=>if Zr s i (t.rules.getD r default).pr=true then
  (let c:=zF R (i+(t.rules.getD r default).pr.size) (yN l s');if c<0 then -1 else c+(t.rules.getD r default).cells.length) else -1
def yT(R:List (List Int))(i k:Nat)(c:Int):List (List Int):=R.set i ((R.getD i default).set k c)
theorem Wn{R:List (List Int)}{i k:Nat}{c:Int}(hi:i<R.length)(hk:k<(R.getD i default).length)(j m:Nat):zF (yT R i k c) j m=if j=i/\m=k then c else zF R j m:=by
 unfold zF yT;by_cases hj:j=i
 ·subst hj;rw [qT (l:=R.set _ _),nI hi,QB];by_cases hm:m=k
  ·subst hm;rw [qT,nI hk,QB,if_pos ⟨rfl,rfl⟩]
  ·rw [if_neg (fun h=>hm h.2),qT,eI (by omega),<-qT]
 ·rw [if_neg (fun h=>hj h.1),qT (l:=R.set _ _),eI (by omega),<-qT (l:=R)]
def Ea(R' R:List (List Int)):Prop:=∀j m,0<=zF R j m->0<=zF R' j m/\zF R' j m<=zF R j m
theorem Ea.set{R:List (List Int)}{i k:Nat}{c:Int}(hi:i<R.length)(hk:k<(R.getD i default).length)(h0:0<=c)(h:zF R i k<0\/c<zF R i k):Ea (yT R i k c) R:=fun j m hj=>by
 rw [Wn hi hk];split
 ·rename_i e;rw [e.1,e.2] at hj ⊢;omega
 ·exact⟨hj,Ky _⟩
theorem R3{t:TbL}{s:ByteArray}{l:List StL}{R R':List (List Int)}(h:Ea R' R){i r:Nat}{st:StL}(h0:0<=yY t s l R i st r):0<=yY t s l R' i st r/\yY t s l R' i st r<=yY t s l R i st r:=by
 unfold yY at *;split at h0
 ·omega
 ·rename_i s' e;by_cases hb:Zr s i (t.rules.getD r default).pr=true
  ·simp only [if_pos hb] at h0 ⊢;by_cases hc:zF R (i+(t.rules.getD r default).pr.size) (yN l s')<0
   ·rw [if_pos hc] at h0;omega
   ·have:=h _ _ (by omega:0<=zF R (i+(t.rules.getD r default).pr.size) (yN l s'));rw [if_neg hc] at h0 ⊢;rw [if_neg (by omega)];omega
  ·rw [if_neg hb] at h0;omega
theorem pT{t:TbL}{s:ByteArray}{l:List StL}{R R':List (List Int)}{i r:Nat}{st:StL}(h:∀j m,i<=j->zF R' j m=zF R j m):yY t s l R' i st r=yY t s l R i st r:=by
 unfold yY;split
 ·rfl
 ·rw [h _ _ (Nat.le_add_right ..)]
structure RowF (t:TbL) (s:ByteArray) (l:List StL) (R:List (List Int)) (i:Nat):Prop where
 len:(R.getD i default).length=l.length
 bd:∀k,k<l.length-> -1<=zF R i k/\zF R i k<=16*(s.size+1-i:Nat)
 wit:∀k,k<l.length->0<zF R i k->∃r,r<t.rules.length/\yY t s l R i (l.getD k default) r=zF R i k
def fin(l:List Int):Nat:=(l.filter fun v=>decide (0<=v)).length
def wt(l:List Int):Nat:=(l.map fun v=>if v<0 then 1000000 else v.toNat).sum
structure RowG (t:TbL) (s:ByteArray) (l:List StL) (R:List (List Int)) (i:Nat):Prop where
 rl:R.length=s.size+1
 il:i<=s.size
 len:(R.getD i default).length=l.length
 bd:∀k,k<l.length-> -1<=zF R i k/\zF R i k<=16*(s.size-i:Nat)+2*fin (R.getD i default)
 wit:∀k,k<l.length->0<zF R i k->∃r,r<t.rules.length/\0<=yY t s l R i (l.getD k default) r/\yY t s l R i (l.getD k default) r<=zF R i k
 done:∀j,i<j->j<=s.size->RowF t s l R j
theorem u9:∀l:List Int,fin l<=l.length:=fun l=>nR _ _
theorem Gc{l:List Int}{k:Nat}{c:Int}(hk:k<l.length)(h0:0<=c):fin (l.set k c)=if l.getD k default<0 then fin l+1 else fin l:=by
 induction l generalizing k with
 |nil=>exact absurd hk (eL _)
 |cons v l ih=>
  cases k with
  |zero=>
   simp only [LV,List.getD_cons_zero,fin,List.filter_cons,h0,decide_true,if_true];by_cases hv:v<0
   ·have:¬0<=v:=oM;simp [hv,this]
   ·have:0<=v:=oM;simp [hv,this]
  |succ k=>
   have:=ih (k:=k) (by simpa using hk);simp only [DN,Cl,fin,List.filter_cons] at this ⊢;by_cases hv:0<=v<;>simp only [hv,decide_true,decide_false,if_true,xA,yz,if_false,this]<;>split<;>omega
theorem La{l:List Int}{k:Nat}{c:Int}(hk:k<l.length)(h0:0<=c)(hc:c<1000000)(h:l.getD k default<0\/c<l.getD k default):wt (l.set k c)<wt l:=by
 induction l generalizing k with
 |nil=>exact absurd hk (eL _)
 |cons v l ih=>
  cases k with
  |zero=>
   simp only [LV,List.getD_cons_zero,wt,jr,nU] at h ⊢;rw [if_neg (by omega:¬c<0)];split<;>omega
  |succ k=>
   have:=ih (k:=k) (by simpa using hk) (by simpa using h);simp only [DN,wt,jr,nU] at this ⊢;omega
theorem Qc{l:List (List Int)}{i:Nat}{x:List Int}(hi:i<l.length):(l.set i x).getD i default=x:=by
 rw [qT,nI hi,QB]
theorem R4{t:TbL}{s:ByteArray}{l:List StL}{R:List (List Int)}{i:Nat}(hl:StsOk t l)(hr:∀r∈t.rules,KY r=true)(h:RowG t s l R i){st:StL}(hs:st∈l){r:Nat}(hrl:r<t.rules.length):yY t s l R i st r<=16*(s.size-i:Nat)+2*fin (R.getD i default)+2:=by
 unfold yY;split
 ·omega
 ·rename_i s' e;split
  ·rename_i hb;have hm:=qn (l:=t.rules) hrl;have hru:=(Z4 (hr _ hm)).1;have hx:=hl.cl _ hs _ hm _ e;have hix:yN l s'<l.length:=LT hx;have hle:i+(t.rules.getD r default).pr.size<=s.size:=by
    unfold Zr at hb;rw [x8] at hb;exact xo hb.1
   have hbd:zF R (i+(t.rules.getD r default).pr.size) (yN l s')<=16*(s.size-i:Nat)+2*fin (R.getD i default):=by
    rcases LW (t.rules.getD r default).pr.size with h0|h0
    ·rw [h0,nS];exact (h.bd _ hix).2
    ·have:=((h.done _ oM hle).bd _ hix).2;omega
   simp only;split<;>omega
  ·omega
theorem RowG.put{t:TbL}{s:ByteArray}{l:List StL}{R:List (List Int)}{i:Nat}(hl:StsOk t l)(hr:∀r∈t.rules,KY r=true)(h:RowG t s l R i){k r:Nat}(hk:k<l.length)(hrl:r<t.rules.length){c:Int}(hc:yY t s l R i (l.getD k default) r=c)(h0:0<=c)(hb:zF R i k<0\/c<zF R i k):RowG t s l (yT R i k c) i:=by
 have hil:i<R.length:=by have:=h.rl;have:=h.il;omega
 have hkl:k<(R.getD i default).length:=by rw [h.len];exact hk
 have hle:=Ea.set hil hkl h0 hb;have hrow:(yT R i k c).getD i default=(R.getD i default).set k c:=Qc hil;have hbd:=R4 hl hr h (qn hk) hrl;rw [hc] at hbd;refine⟨by unfold yT;rw [jG];exact h.rl,h.il,by rw [hrow,jG];exact h.len,fun m hm=>?_,fun m hm hp=>?_,fun j hj hjs=>?_⟩
 ·have h1:=h.bd m hm;rw [hrow,Gc hkl h0,Wn hil hkl];have e:(R.getD i default).getD k default=zF R i k:=rfl;rw [e];by_cases hmk:m=k
  ·subst hmk;split<;>split<;>omega
  ·rw [if_neg (fun h=>hmk h.2)];split<;>omega
 ·rw [Wn hil hkl] at hp ⊢;split at hp
  ·rename_i e;rw [if_pos e];obtain⟨-,rfl⟩:=e;have:=R3 (t:=t) (s:=s) (l:=l) hle (i:=i) (st:=l.getD m default) (r:=r) oM;exact⟨r,hrl,this.1,oM⟩
  ·rename_i e;rw [if_neg e];obtain⟨r',h1,h2,h3⟩:=h.wit m hm hp;have:=R3 (t:=t) (s:=s) (l:=l) hle h2;exact⟨r',h1,this.1,oM⟩
 ·have h1:=h.done j hj hjs;have hat:∀a m,j<=a->zF (yT R i k c) a m=zF R a m:=fun a m ha=>by rw [Wn hil hkl,if_neg (fun e=>by omega)]
  refine⟨?_,fun m hm=>by rw [hat _ _ (qz _)];exact h1.bd m hm,fun m hm hp=>?_⟩
  ·unfold yT;rw [qT,eI (by omega),<-qT];exact h1.len
  ·rw [hat _ _ (qz _)] at hp ⊢;obtain⟨r',h2,h3⟩:=h1.wit m hm hp;exact⟨r',h2,by rw [pT hat];exact h3⟩
theorem RowG.fin{t:TbL}{s:ByteArray}{l:List StL}{R:List (List Int)}{i:Nat}(hl:StsOk t l)(h:RowG t s l R i)(hst:∀k,k<l.length->∀r,r<t.rules.length->0<=yY t s l R i (l.getD k default) r->¬(zF R i k<0\/yY t s l R i (l.getD k default) r<zF R i k)):RowF t s l R i:=by
 refine⟨h.len,fun k hk=>?_,fun k hk hp=>?_⟩
 ·have h1:=h.bd k hk;have h2:=u9 (R.getD i default);have h3:=h.len;have h4:=hl.nn;have h5:=h.il;omega
 ·obtain⟨r,h1,h2,h3⟩:=h.wit k hk hp;have:=hst k hk r h1 h2;exact⟨r,h1,oM⟩
theorem Ik:((List.range 256).all fun n=>match Wc tabS 100 175 [.one (.int .u8 n)] HS with
 |some (.one (.int .i64 c))=>decide (c=JG n)
 |_=>false)=true:=by kernel_rfl
theorem dS{n:Nat}(h:n<256):DK 175 [.one (.f (.c (.int .u8 n)))] fun d=>d=.int (JG n):=by
 have h1:=wA.1 Ik n (jF.2 h);split at h1
 ·rename_i c hc;have:=xo h1;subst this;exact Ji (vs:=[.one (.int .u8 n)]) ⟨O,trivial⟩ O O hc
 ·cases h1
theorem Il:((List.range 64).all fun n=>(List.range 6).all fun k=>match Wc tabS 100 176 [.one (.int .u8 n),.one (.int .i64 k)] HS with
 |some (.one (.bool c))=>c==Kk n k
 |_=>false)=true:=by kernel_rfl
theorem Pa{n k:Nat}(h:n<64)(hk:k<6):DK 176 [.one (.f (.c (.int .u8 n))),.int k] fun d=>d=.bool (Kk n k):=by
 have h1:=wA.1 (wA.1 Il n (jF.2 h)) k (jF.2 hk);split at h1
 ·rename_i c hc;have:c=Kk n k:=by simpa using h1
  subst this;exact Ji (vs:=[.one (.int .u8 n),.one (.int .i64 k)]) ⟨O,O,trivial⟩ O O hc
 ·cases h1
theorem aO{n k:Int}(h0:0<=n)(h:n<=63)(hk0:0<=k)(hk:k<=5):DK 176 [.one (.f (.c (.int .u8 n))),.int k] fun d=>d=.bool (Kk n k):=by
 obtain⟨a,rfl⟩:∃a:Nat,n=a:=⟨n.toNat,oM⟩;obtain⟨b,rfl⟩:∃b:Nat,k=b:=⟨k.toNat,oM⟩;exact Pa oM oM
theorem RG(n:Nat):0<=JG n/\JG n<=5:=by
 unfold JG
 repeat' split
 all_goals omega
theorem Ip(p q:StL):Zs [.int .i64 p.mode,.int .i64 p.last,.int .u8 p.need] [.int .i64 q.mode,.int .i64 q.last,.int .u8 q.need] [(0,false),(1,false),(2,false)]=some (decide (p=q)):=by
 obtain⟨p1,p2,p3⟩:=p;obtain⟨q1,q2,q3⟩:=q;simp only [Zs,pV,sR,eJ,if_true];by_cases h1:p1=q1
 ·by_cases h2:p2=q2
  ·by_cases h3:p3=q3
   ·subst h1;subst h2;subst h3;simp
   ·have e3:(p3==q3)=false:=by simpa using h3
    subst h1;subst h2;simp [h3,e3]
  ·have e2:(p2==q2)=false:=by simpa using h2
   subst h1;simp [h2,e2]
 ·have e1:(p1==q1)=false:=by simpa using h1
  simp [h1,e1]
theorem Oy{E:qk}{x y:Opd}{p q:StL}(hx:ro E x=some (bG p))(hy:ro E y=some (bG q)):zj E (.eqs false [(0,false),(1,false),(2,false)] x y)=some (.bool (decide (p=q))):=by
 have ex:Yp E x=some (.agg [.int .i64 p.mode,.int .i64 p.last,.int .u8 p.need]):=by simp [Yp,hx,Je,bO,iD]
 have ey:Yp E y=some (.agg [.int .i64 q.mode,.int .i64 q.last,.int .u8 q.need]):=by simp [Yp,hy,Je,bO,iD]
 simp only [zj,F7,PureOp.opds,xa,lQ,ex,ey,Option.isSome_some,PureOp.mp,rx,qp,Opd.ev,Ip];rfl
def Rl:Option StL->DV
 |some s=>.tup [bG s,.bool true]
 |none=>.tup [bG ⟨0,0,0⟩,.bool false]
theorem iT{t:TbL}{s:StL}{r:Nat}(hl:t.rules.length<1000)(hr:r<t.rules.length)(hru:KY (t.rules.getD r default)=true)(hs:lK s=true):DK 152 [Zv t,bG s,.int r] fun d=>d=Rl (jv s (t.rules.getD r default)):=by
 obtain⟨⟨a1,a2,a3,a4,a5,a6,a7,a8,a9,a10,a11⟩, -⟩:=Z4 hru;obtain⟨b1,b2,b3,b4,b5,b6⟩:=WB hs;refine va fun Z0 lo=>?_;by_cases h1:(t.rules.getD r default).frm=s.mode
 ·refine ql ?_;intros;refine qf O O (aO a4 a5 b3 b4) ?_;rintro _ rfl;cases hb:Kk (t.rules.getD r default).left s.last with
  |false=>
   refine ql ?_;intros;exact qb ⟨_,O,O,by rw [jv,if_neg (fun h=>by rw [hb] at h;exact absurd h.2 (by decide))];rfl⟩
  |true=>
   by_cases h0:(t.rules.getD r default).pr.size=0
   ·refine ql ?_;intros;refine qX O (fun h2=>?_) (fun h2=>?_)
    ·refine ql ?_;intros;exact qb ⟨_,O,O,by rw [jv,if_pos ⟨h1,hb⟩,if_pos h0,if_pos (show LG s.need (t.rules.getD r default).right=0 from h2)];rfl⟩
    ·refine ql ?_;intros;exact qb ⟨_,O,O,by rw [jv,if_pos ⟨h1,hb⟩,if_pos h0,if_neg (show¬LG s.need (t.rules.getD r default).right=0 from h2)];rfl⟩
   ·have hc0:=RG (bt (t.rules.getD r default).pr 0);refine ql ?_;intros;refine jL (j:=0) O O oM ?_;refine ql ?_;intros;refine Zh O O (dS (XW _ _)) ?_;intros;refine qf O O (aO b5 b6 hc0.1 hc0.2) ?_;rintro _ rfl;cases hb2:Kk s.need (JG (bt (t.rules.getD r default).pr 0)) with
    |false=>
     refine ql ?_;intros;exact qb ⟨_,O,O,by rw [jv,if_pos ⟨h1,hb⟩,if_neg h0,hb2];rfl⟩
    |true=>
     refine ql ?_;intros;refine jL (j:=(t.rules.getD r default).pr.size-1) O (by rw [show (((t.rules.getD r default).pr.size-1:Nat):Int)=((t.rules.getD r default).pr.size:Int)-1 by omega];rfl) (by omega) ?_;refine ql ?_;intros;refine Zh O O (dS (XW _ _)) ?_;intros;exact qb ⟨_,O,O,by rw [jv,if_pos ⟨h1,hb⟩,if_neg h0,hb2];rfl⟩
 ·refine ql ?_;intros;exact qb ⟨_,O,O,by rw [jv,if_neg (fun h=>h1 h.1)];rfl⟩
theorem BW{s p:ByteArray}{i:Nat}(hs:s.size<10000)(hi:i<=s.size)(hp:p.size<=10):DK 174 [xI s,.int i,xI p] fun d=>d=.bool (Zr s i p):=by
 refine jY ?_;intros;refine xT O (fun h=>?_) (fun h=>?_)
 ·refine ql ?_;intros;refine O4 (i:=i) (j:=i+p.size) O O O oM oM ?_;refine ql ?_;intros;refine qb ⟨_,O,O,?_⟩;rw [Zr,decide_eq_true (by omega),DT];rfl
 ·refine ql ?_;intros;refine qb ⟨_,O,O,?_⟩;rw [Zr,decide_eq_false (by omega),Bool.false_and]
def QM(a b:Int):Int:=if a<0\/(0<=b/\b<a) then b else a
theorem Hi{a b:Int}:DK 173 [.int a,.int b] fun d=>d=.int (QM a b):=by
 refine va fun Z0 lo=>?_;by_cases h1:a<0
 ·refine ql ?_;intros;exact qb ⟨_,O,O,by rw [QM,if_pos (.inl h1)]⟩
 ·by_cases h2:0<=b
  ·by_cases h3:b<a
   ·refine ql ?_;intros;exact qb ⟨_,O,O,by rw [QM,if_pos (.inr ⟨h2,h3⟩)]⟩
   ·refine ql ?_;intros;exact qb ⟨_,O,O,by rw [QM,if_neg (by omega)]⟩
  ·refine ql ?_;intros;exact qb ⟨_,O,O,by rw [QM,if_neg (by omega)]⟩
theorem BG:DK 149 [] fun d=>d=bG ⟨0,0,63⟩:=by
 refine jY ?_;intros;exact qb ⟨_,O,O,O⟩
theorem P9{t:TbL}{s:StL}(hm:1<=t.modes/\t.modes<=2)(ha:0<=t.acc/\t.acc<=3)(hs:lK s=true):DK 172 [Zv t,bG s] fun d=>∃b:Bool,d=.bool b:=by
 obtain⟨b1,b2,b3,b4,b5,b6⟩:=WB hs;refine va fun Z0 lo=>?_;by_cases h:s.mode<t.modes
 ·refine ql ?_;intros;refine qf O O (aO ha.1 oM b1 oM) ?_;rintro _ rfl;cases Kk t.acc s.mode with
  |false=>
   refine ql ?_;intros;exact qb ⟨_,O,O,_,O⟩
  |true=>
   refine ql ?_;intros;refine Zh O O (aO b5 b6 (Ky 0) qr) ?_;intros;exact qb ⟨_,O,O,_,O⟩
 ·refine ql ?_;intros;exact qb ⟨_,O,O,_,O⟩
end Go.Ai
namespace Go.Aj
open Go.Ab
abbrev L:=List SOper
abbrev qJ(a b c:Nat):SOper:=⟨a,some b,.p (.mv (.t c)),none,none,[],false⟩
abbrev ji(a b:Nat):SOper:=⟨a,some b,.p (.mv (.c (.one (.int .i64 0)))),none,none,[],false⟩
def mR:L:=[⟨0,some 3,.a (.box (.t 1)),none,none,[],false⟩,ji 1 4]
def mQ:L:=[ji 0 5]
def mP:L:=[qJ 0 6 5,qJ 1 7 0,⟨2,some 8,.p (.len (.t 7)),none,none,[],false⟩,⟨3,some 9,.p (.bin .lss (.t 6) (.t 8)),none,none,[],false⟩]
def mO:L:=[qJ 0 12 0,qJ 1 13 5,⟨2,some 14,.p (.iaddr 3 (.t 12) (.t 13)),none,none,[],false⟩,⟨3,some 15,.l (.load true 3 (.t 14)),none,none,[],false⟩,⟨4,some 16,.l (.load true 3 (.t 3)),none,none,[],false⟩,⟨5,some 17,.p (.eqs false [(0,false),(1,false),(2,false)] (.t 15) (.t 16)),none,none,[],false⟩]
def mN:L:=[qJ 0 18 5,qJ 1 4 18]
def mM:L:=[qJ 0 10 5,⟨1,some 11,.p (.bin .add (.t 10) (.c (.one (.int .i64 1)))),none,none,[],false⟩,qJ 2 5 11]
def mS:SC:=(.seq (.seq (.ops mP 0 true) (.cond (.t 9) .skip (.exit 0))) (.seq (.block 1 (.seq (.ops mO 6 true) (.cond (.t 17) (.seq (.ops mN 0 true) .ret) .skip))) (.ops mM 0 true)))
def mL:L:=[⟨0,some 4,.p (.mv (.c (.one (.int .i64 (-1))))),none,none,[],false⟩]
def rO:SC:=(.seq (.ops mR 0 true) (.seq (.seq (.ops mQ 0 true) (.block 0 (.loop mS))) (.seq (.ops mL 0 true) .ret)))
def C3:SFn:=⟨19,rO,[.t 4]⟩
end Go.Aj
namespace Go.Aj
open Go.Ab Go.Proofs Go.Ai
set_option maxRecDepth 100000
theorem BZ:yr Tryz.prog GN 150=some C3:=by kernel_rfl
end Go.Aj
namespace Go.Ai
open Go.Ab Go.Proofs Go.Aj
theorem uU{l:List StL}{s:StL}{i:Nat}(hi:i<l.length)(h:∀j,j<i->l.getD j default≠s)(he:l.getD i default=s):yN l s=i:=by
 have hlt:yN l s<l.length:=LT (he▸qn hi);have hg:l[yN l s]=s:=List.getElem_idxOf hlt;rcases Nat.lt_trichotomy (yN l s) i with h1|h1|h1
 ·refine absurd ?_ (h _ h1);rw [qT,zge hlt];exact hg
 ·exact h1
 ·have h2:=List.not_of_lt_findIdx (p:=(·==s)) (xs:=l) (i:=i) h1;rw [qT,zge hi,QB] at he;rw [he] at h2;simp at h2
theorem F5{l:List StL}{s:StL}(hl:l.length<1000):DK 150 [w9 l,bG s] fun d=>d=.int (if s∈l then (yN l s:Int) else -1):=by
 refine je BZ O ko fun Z0 lo=>?_;refine ql ?_;intros;refine qN (fun m E S nk=>∃i:Nat,i+m=l.length/\(∀j,j<i->l.getD j default≠s)/\E=[(0,w9 l),(3,.one (.ptr 0 0)),(5,.int i)]/\S=[(0,.cells [.f (.c (.int .i64 s.mode)),.f (.c (.int .i64 s.last)),.f (.c (.int .u8 s.need))])]/\nk=1) (l.length) ⟨0,oM,fun j hj=>absurd hj oM,O,O,O⟩ ?_;rintro m E S nk ⟨i,hm,hno,rfl,rfl,rfl⟩;refine ql ?_;intros;refine qh O (fun g=>?_) (fun g=>?_)
 ·refine ql ?_;intros;refine zi (Oy (p:=l.getD i default) (q:=s) O O) ?_;refine ql ?_;intros;refine qh O (fun g2=>?_) (fun g2=>?_)
  ·refine ql ?_;intros;exact qb ⟨_,O,O,by rw [if_pos (g2▸qn (by omega)),uU (by omega) hno g2]⟩
  ·refine ql ?_;intros;exact qM (m':=m-1) oM ⟨i+1,oM,fun j hj=>(by
    rcases bD j i with h1|h1
    ·exact hno j h1
    ·obtain rfl:j=i:=by omega
     exact g2),O,O,O⟩ xp
 ·refine ql ?_;intros;refine qb ⟨_,O,O,?_⟩;rw [if_neg fun hm=>?_];obtain⟨j,hj,e⟩:=Cf.1 hm;refine hno j oM ?_;rw [qT,zge hj];exact e
theorem Yt{l:List StL}{s:StL}(hl:l.length<1000)(hm:s∈l):DK 150 [w9 l,bG s] fun d=>d=.int (yN l s):=by
 have:=F5 (s:=s) hl;rw [if_pos hm] at this;exact this
end Go.Ai
namespace Go.Ai
open Go.Ab Go.Proofs
theorem MS:∀{l U:List StL},l.Nodup->(∀x∈l,x∈U)->l.length<=U.length
 |[],_,_,_=>Xa _
 |x::l,U,hn,hs=>by
  rw [YO] at hn;have hx:=hs x (QC ..);have ih:=MS (U:=U.erase x) hn.2 fun y hy=>(List.mem_erase_of_ne (fun e:y=x=>hn.1 (e▸hy))).2 (hs y (Q7 _ hy));have:=List.length_erase_of_mem hx;have h1:=List.length_pos_of_mem hx;rw [xA];omega
structure StsG (U:List StL) (t:TbL) (l:List StL) (i:Nat):Prop where
 nd:l.Nodup
 sub:∀x∈l,x∈U
 hd:l.getD 0 default=⟨0,0,63⟩
 ne:0<l.length
 cl:∀j,j<i->∀r,r<t.rules.length->∀s',jv (l.getD j default) (t.rules.getD r default)=some s'->s'∈l
theorem StsG.len{U:List StL}{t:TbL}{l:List StL}{i:Nat}(h:StsG U t l i):l.length<=U.length:=MS h.nd h.sub
theorem N6{α:Type}[Inhabited α]{l:List α}{x:α}(h:x∈l):∃i,i<l.length/\l.getD i default=x:=by
 obtain⟨i,hi,e⟩:=Cf.1 h;exact⟨i,hi,by rw [qT,zge hi];exact e⟩
theorem StsG.push{U:List StL}{t:TbL}{l:List StL}{i:Nat}(h:StsG U t l i)(hi:i<=l.length){s:StL}(hs:s∉l)(hu:s∈U):StsG U t (l++[s]) i:=by
 refine⟨List.nodup_append.2 ⟨h.nd,(by simp),fun a ha b hb e=>?_⟩,fun x hx=>?_,by rw [Ym h.ne];exact h.hd,by simp,fun j hj r hr s' e=>?_⟩
 ·rw [xM] at hb;exact hs (by rw [<-hb,<-e];exact ha)
 ·rcases xu.1 hx with hx|hx
  ·exact h.sub x hx
  ·rw [xM.1 hx];exact hu
 ·rw [Ym (by omega)] at e;exact xu.2 (.inl (h.cl j hj r hr s' e))
theorem StsG.fin{U:List StL}{t:TbL}{l:List StL}(hu:TOk U t)(h:StsG U t l l.length):StsOk t l:=by
 refine⟨by have:=h.len;have:=hu.ul;omega,fun s hs=>hu.s s (h.sub s hs),h.hd,h.ne,fun s hs r hr s' e=>?_⟩;obtain⟨j,hj,rfl⟩:=N6 hs;obtain⟨k,hk,rfl⟩:=N6 hr;exact h.cl j hj k hk s' e
theorem Rm{l:List StL}{i:Nat}(h:i<l.length):xd (l.flatMap n4) (i*3) 3=some (n4 (l.getD i default)):=zp (f:=n4) (e:=3) (fun _=>rfl) (by rw [qT,zge h];rfl)
def G0(i:Nat)(l:List StL)(r:RuL):List StL:=match jv (l.getD i default) r with
 |some s=>if s∈l then l else l++[s]
 |none=>l
def vZ(t:TbL):Nat->List StL
 |0=>[⟨0,0,63⟩]
 |i+1=>if i<(vZ t i).length then t.rules.foldl (G0 i) (vZ t i) else vZ t i
def vj(t:TbL):List StL:=vZ t 9
theorem tA{t:TbL}{i:Nat}(h:i=(vZ t i).length):∀k,vZ t (i+k)=vZ t i
 |0=>rfl
 |k+1=>by
  have ih:=tA h k;rw [<-Nat.add_assoc,vZ,ih,if_neg (by omega)]
theorem dP{U:List StL}{t:TbL}(hu:TOk U t):DK 148 [Zv t] fun d=>d=w9 (vj t)/\StsOk t (vj t):=by
 have hrl:=hu.rl;have hul:=hu.ul;refine xr ?_;intros;refine qS O O BG ?_;intros;refine qN (fun m E S nk=>∃(i:Nat) (l:List StL),i+m=U.length/\i<=l.length/\l=vZ t i/\StsG U t l i/\E=[(1,.one (.ptr 0 0)),(3,.one (.own 1 0 l.length 3)),(4,.int i)]/\S=[(0,.cells [.f (FD.int t.modes),.f (.c (.int .u8 t.acc)),.f (Z3 t)]),(1,.data (l.flatMap n4))]/\nk=2) (U.length) ⟨0,[⟨0,0,63⟩],by omega,by omega,rfl,⟨by simp,fun x hx=>(by rw [xM.1 hx];exact hu.start),rfl,by simp,fun j hj=>absurd hj (by omega)⟩,rfl,rfl,rfl⟩ ?_;rintro m E S nk ⟨i,l,hm,hil,hl,hg,rfl,rfl,rfl⟩;refine qc ?_;intros;refine qh O (fun g=>?_) (fun g=>?_)
 ·refine qc ?_;intros;refine qN (fun m E S nk=>∃(k:Nat) (l:List StL),k+m=t.rules.length/\i<l.length/\l=(t.rules.take k).foldl (G0 i) (vZ t i)/\StsG U t l i/\(∀r,r<k->∀s',jv (l.getD i default) (t.rules.getD r default)=some s'->s'∈l)/\E=[(1,.one (.ptr 0 0)),(3,.one (.own 1 0 l.length 3)),(4,.int i),(5,.int k)]/\S=[(0,.cells [.f (FD.int t.modes),.f (.c (.int .u8 t.acc)),.f (Z3 t)]),(1,.data (l.flatMap n4))]/\nk=2) (t.rules.length) ⟨0,l,oM,oM,hl,hg,fun r hr=>absurd hr oM,O,O,O⟩ ?_;have hia:i<(vZ t i).length:=by rw [<-hl];omega
  clear hg hil g hl l;rintro m2 E S nk ⟨k,l,hm2,hil,hl,hg,hk2,rfl,rfl,rfl⟩;refine qc ?_;intros;refine qh O (fun g2=>?_) (fun g2=>?_)
  ·have hst:=Rm hil;have hll:=hg.len;have hru:=hu.r _ (qn (l:=t.rules) (i:=k) oM);have hso:=hu.s _ (hg.sub _ (qn hil));refine qc ?_;intros;refine qf O O (iT oM oM hru hso) ?_;rintro _ rfl;have hfs:=Vt (f:=G0 i) (s:=vZ t i) (l:=t.rules) (i:=k) oM;rw [<-hl,G0] at hfs;cases hsp:jv (l.getD i default) (t.rules.getD k default) with
   |none=>
    rw [hsp] at hfs;refine qc ?_;intros;exact qM (m':=m2-1) oM ⟨k+1,l,oM,oM,hfs.symm,hg,fun r hr s' e=>(by
     rcases bD r k with h1|h1
     ·exact hk2 r h1 s' e
     ·obtain rfl:r=k:=by omega
      rw [hsp] at e;cases e),O,O,O⟩ xp
   |some s2=>
    rw [hsp] at hfs;simp only at hfs;refine qc ?_;intros;refine Ys (ds:=[w9 l,bG s2]) O ⟨⟨_,O,_,_,O,qD _ (qO (f:=n4) (e:=3) (fun _=>O) l),O⟩,⟨_,O,⟨O,O⟩,⟨O,O⟩,⟨O,O⟩,trivial⟩,trivial⟩ (F5 oM) (by rintro _ rfl;rfl) ?_;rintro _ rfl;by_cases hmem:s2∈l
    ·rw [if_pos hmem];rw [if_pos hmem] at hfs;refine qc ?_;intros;exact qM (m':=m2-1) oM ⟨k+1,l,oM,oM,hfs.symm,hg,fun r hr s' e=>(by
      rcases bD r k with h1|h1
      ·exact hk2 r h1 s' e
      ·obtain rfl:r=k:=by omega
       rw [hsp] at e;cases e;exact hmem),O,O,O⟩ xp
    ·rw [if_neg hmem];rw [if_neg hmem] at hfs;have hmU:=hu.cl _ (hg.sub _ (qn hil)) _ (qn (l:=t.rules) (i:=k) oM) _ hsp;refine qc ?_;intros;exact qM (m':=m2-1) (by omega) ⟨k+1,l++[s2],by omega,by simp;omega,hfs.symm,hg.push (by omega) hmem hmU,fun r hr s' e=>(by
      rw [Ym hil] at e;rcases bD r k with h1|h1
      ·exact xu.2 (.inl (hk2 r h1 s' e))
      ·obtain rfl:r=k:=by omega
       rw [hsp] at e;cases e;simp),rfl,rfl,rfl⟩ xp
  ·refine qc ?_;intros;have hll:=hg.len;have hfa:l=vZ t (i+1):=by
    rw [vZ,if_pos hia,hl,show k=t.rules.length by omega,vE]
   exact qM (m':=m-1) oM ⟨i+1,l,oM,oM,hfa,⟨hg.nd,hg.sub,hg.hd,hg.ne,fun j hj r hr s' e=>(by
    rcases bD j i with h1|h1
    ·exact hg.cl j h1 r hr s' e
    ·obtain rfl:j=i:=by omega
     exact hk2 r oM s' e)⟩,O,O,O⟩ xp
 ·have hil2:i=l.length:=oM;have hll:=hg.len;have hst:l=vj t:=by
   have h1:i=(vZ t i).length:=by rw [<-hl];exact hil2
   rw [vj,show 9=i+(9-i) by omega,tA h1,<-hl]
  rw [hil2] at hg;refine qc ?_;intros;exact qP 2 O O ⟨_,O,O,by rw [hst],hst▸hg.fin hu⟩
end Go.Ai
