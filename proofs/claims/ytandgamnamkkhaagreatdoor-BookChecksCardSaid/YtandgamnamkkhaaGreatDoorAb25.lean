/- -/
import Derived.Test.YtandgamnamkkhaaGreatDoorAb24
set_option linter.unusedSimpArgs false
set_option maxHeartbeats 16000000
set_option linter.unusedVariables false
set_option maxRecDepth 8000
namespace Go.Ah
open Go.Ab Go.Proofs
theorem Out.cut{n:Nat}{s:ByteArray}(h:Out n s)(hp:0<s.size)(hl:bt s (s.size-1)=32):Gd n (s.extract 0 (s.size-1)):=by
 have h2:2<=s.size:=by
  by_cases e:s.size=1
  ·have:=h.first hp;rw [e] at hl;exact absurd hl this
  ·omega
 have hsz:(s.extract 0 (s.size-1)).size=s.size-1:=by rw [ByteArray.size_extract];omega
 have hb:∀i,i<s.size-1->bt (s.extract 0 (s.size-1)) i=bt s i:=fun i hi=>UK s _ i hi;have hle:=h.le;refine⟨⟨oM,fun i hi=>?_,fun _=>?_,fun i hi=>?_⟩,oM,?_⟩
 ·rw [hb i (by omega)];exact h.ch i (by omega)
 ·rw [hb 0 (by omega)];exact h.first hp
 ·rw [hb i (by omega),hb (i+1) (by omega)];exact h.adj i (by omega)
 ·rw [hsz,hb _ (by omega)];intro hl2;have:=h.adj (s.size-2) oM;rw [show s.size-2+1=s.size-1 by omega] at this;exact this ⟨by rw [show s.size-1-1=s.size-2 by omega] at hl2;exact hl2,hl⟩
abbrev vC:ByteArray:=⟨#[97,98,99,65,66,49,45]⟩
def KQ(k:Nat):UInt8:=[97,98,99,65,66,49,45].getD k 97
theorem t7:∀k,k<7->tL (KQ k).toNat=true/\(KQ k).toNat≠32:=by decide
abbrev Zf(l:List Nat):List FD:=l.map fun v=>.c (.int .u8 (v:Nat))
abbrev M8(l:List Nat):DV:=.one (.f (.sl 1 l.length (Zf l)))
theorem U8{l:List Nat}{i v:Nat}(h:l[i]?=some v):qT (Zf l) (i*1) 1=some [.c (.int .u8 (v:Nat))]:=by
 have:=zC (f:=fun v:Nat=>[FD.c (.int .u8 (v:Nat))]) (e:=1) (fun _=>rfl) h
 rwa [show l.flatMap (fun v:Nat=>[FD.c (.int .u8 (v:Nat))])=Zf l by
  clear h this;induction l with
  |nil=>rfl
  |cons a l ih=>rw [List.flatMap_cons,ih];rfl] at this
section
variable{p:Par}{base rs:Nat}{Q:qo->Bx->Nat->Prop}{r:List SOper}{W:Wt}{A:List Nat}{E:qo}{S:Bx}{nk:Nat}{id:Nat}{dst:Option Nat}{aid:Option Nat}{ws:List Nat}{keep:Bool}
theorem TF{x a b:Opd}{s:ByteArray}{i j:Nat}(hx:ro E x=some (zQ s))(ha:ro E a=some (.int i))(hb:ro E b=some (.int j))(hij:i<=j)(hj:j<=s.size)(h:DPW p base rs Q r W A (qX E dst (zQ (s.extract i j))) S nk):DPW p base rs Q (⟨id,dst,.p (.sslice x (some a) (some b)),none,aid,ws,keep⟩::r) W A E S nk:=by
 refine js (fun {Z β H F} hE=>⟨.one (.str (s.extract i j)),?_,zT rfl⟩) h;simp only [qn,jH,qF,xA hE hx,xA hE ha,xA hE hb];rw [if_pos (by omega)];simp only [Int.toNat_natCast];rw [if_pos (by omega)]
theorem LG{x b:Opd}{s:ByteArray}{j:Nat}(hx:ro E x=some (zQ s))(hb:ro E b=some (.int j))(hj:j<=s.size)(h:DPW p base rs Q r W A (qX E dst (zQ (s.extract 0 j))) S nk):DPW p base rs Q (⟨id,dst,.p (.sslice x none (some b)),none,aid,ws,keep⟩::r) W A E S nk:=by
 refine js (fun {Z β H F} hE=>⟨.one (.str (s.extract 0 j)),?_,zT rfl⟩) h;simp only [qn,jH,qF,xA hE hx,xA hE hb];rw [if_pos (by omega)];rfl
end
theorem MG:∀k,k<7->vC.extract k (k+1)=⟨#[KQ k]⟩:=by decide+kernel
theorem Ew{n:Nat}(hn:1<=n):Gd n ⟨#[97]⟩:=⟨⟨hn,fun i hi=>by
 have:i=0:=by have:i<1:=hi;omega
 subst this;exact .inl rfl,fun _=>by decide,fun i hi=>by have:i+1<1:=hi;omega⟩,Nat.le_refl _,by decide⟩
theorem tO{s:ByteArray}(h:0<s.size):(s.data.toList==(⟨#[]⟩:ByteArray).data.toList)=false:=by
 rw [beq_eq_false_iff_ne];intro e;have h1:s.data.toList.length=s.size:=by simp
 rw [e] at h1;have:(⟨#[]⟩:ByteArray).data.toList.length=0:=rfl;omega
theorem r5{n:Nat}(hn:1<=n/\n<=100){s:ByteArray}(ho:Out n s){Z0:Nat->Prop}{lo:Nat}:
 DPS (Par.base Tryz.prog 7 (H00 1) Z0 lo) O3.n (.seq (.seq (.ops uX 0 true) (.cond (.t 70) (.ops uW 0 true) .skip)) (.seq (.seq (.ops uV 0 true) (.cond (.t 77) (.seq (.ops uU 0 true) .ret) .skip)) (.seq (.ops uT 0 true) .ret)))
  (Y5 (Par.base Tryz.prog 7 (H00 1) Z0 lo) O3.res fun r=>∃s,Gd n s/\r=zQ s) [(2,zQ vC),(7,zQ s)] [] 0:=by
 have hle:=ho.le;by_cases hp:0<s.size
 ·have e1:decide ((s.size:Int)>0)=true:=decide_eq_true oM;have hw:IntKind.i64.wrap ((s.size:Int)-1)=((s.size-1:Nat):Int):=by rw [qg (by omega) (by omega)];omega
  refine qa ?_;intros;simp only [e1];refine qa ?_;intros;rw [hw];refine y7 rfl rfl (show s.size-1<s.size by omega) ?_;refine qa ?_;intros;refine qb (t:=decide ((bt s (s.size-1):Int)=32)) rfl (fun h2=>?_) (fun h2=>?_)
  ·have h2:bt s (s.size-1)=32:=by have:=qG h2;omega
   have hg:=ho.cut hp h2;have hpos:=hg.pos;refine qa ?_;intros;rw [hw];refine LG rfl rfl (show s.size-1<=s.size by omega) ?_;refine qa ?_;intros;refine qb (t:=false) (congrArg (fun z=>some (DV.bool z)) (tO (s:=s.extract 0 (s.size-1)) hpos)) (fun h=>by cases h) (fun _=>?_);refine qa ?_;intros;exact qc ⟨_,rfl,rfl,_,hg,rfl⟩
  ·have h2:bt s (s.size-1)≠32:=by have:=qQ h2;omega
   refine qa ?_;intros;refine qb (t:=false) (congrArg (fun z=>some (DV.bool z)) (tO hp)) (fun h=>by cases h) (fun _=>?_);refine qa ?_;intros;exact qc ⟨_,rfl,rfl,_,⟨ho,hp,h2⟩,rfl⟩
 ·have e1:decide ((s.size:Int)>0)=false:=decide_eq_false oM;refine qa ?_;intros;simp only [e1];refine qa ?_;intros;refine qb (t:=false) rfl (fun h=>by cases h) (fun _=>?_);refine qa ?_;intros;have hs:s.data.toList=[]:=List.eq_nil_of_length_eq_zero (by
   have:s.data.toList.length=s.size:=by simp
   omega)
  refine qb (t:=true) (congrArg (fun z=>some (DV.bool z)) (show (s.data.toList==(⟨#[]⟩:ByteArray).data.toList)=true by rw [hs];rfl)) (fun _=>?_) (fun h=>by cases h);refine qa ?_;intros;exact qc ⟨_,rfl,rfl,⟨#[97]⟩,Ew hn.1,rfl⟩
theorem Wj{l:List Nat}{n:Nat}(hn:1<=n/\n<=100)(hl:∀v∈l,v<256)(hll:l.length<9223372036854775808):DK 68 [M8 l,.int n,zQ vC] fun r=>∃s,Gd n s/\r=zQ s:=by
 refine zy Fu rfl jm fun Z0 lo=>?_;refine qa ?_;intros;refine qm (fun m E S nk=>∃(i:Nat) (s:ByteArray),i+m=l.length/\Out n s/\E=[(0,M8 l),(1,.int n),(2,zQ vC),(7,zQ s),(8,.int i)]/\S=[]/\nk=0)
  ⟨l.length,_,_,_,[],?wk,0,⟨#[]⟩,oM,Out.nil n,rfl,rfl,rfl⟩ ?_
 case wk=>exact ql
 rintro m E S nk ⟨i,s,him,ho,rfl,rfl,rfl⟩;have hle:=ho.le;cases e1:decide ((i:Int)<l.length) with
 |false=>
  refine qa ?_;intros;simp only [e1];refine qa ?_;intros;refine qb (t:=false) rfl (fun h=>by cases h) (fun _=>?_);refine ya ?_;refine wi [] ?wk2 (r5 hn ho)
  case wk2=>exact ql
 |true=>
  have h1:=qG e1;refine qa ?_;intros;simp only [e1];refine qa ?_;intros;refine qb (t:=decide ((s.size:Int)<n)) rfl (fun h2=>?_) (fun h2=>?_)
  ·have h2:=qG h2;obtain⟨v,hv⟩:∃v,l[i]?=some v:=⟨_,zge oM⟩;have hsv:=U8 hv;have hv2:=hl v (zmg hv);have hv8:v % 8<8:=Nat.mod_lt _ (by decide);have hk:(IntKind.i64.wrap (v:Int)).tmod (IntKind.i64.wrap ((vC.size:Int)+1))=((v % 8:Nat):Int):=by
    rw [qg (n:=(v:Int)) (by omega) (by omega),show IntKind.i64.wrap ((vC.size:Int)+1)=((8:Nat):Int) from rfl,<-Int.ofNat_tmod]
   refine qa ?_;intros;simp only [hk];generalize v % 8=q at *;refine qb (t:=decide ((q:Int)>0)) rfl (fun h3=>?_) (fun h3=>?_)
   ·have h3:=qG h3;obtain⟨j,rfl⟩:∃j,q=j+1:=⟨q-1,oM⟩;have hwj:IntKind.i64.wrap (((j+1:Nat):Int)-1)=((j:Nat):Int):=by rw [qg (by omega) (by omega)];omega
    have hlt:=t7 j oM;have hpu:=ho.push (c:=KQ j) oM (.inl hlt.1) (fun h=>absurd h hlt.2);refine qa ?_;intros;rw [hwj];refine TF (i:=j) (j:=j+1) rfl rfl rfl (by omega) (show j+1<=7 by omega) ?_;rw [MG j (by omega)];refine qa ?_;intros;refine nE rfl rfl (by rw [ND];omega) ?_;refine qa ?_;intros;refine⟨m-1,oM,_,_,_,[],?wk,i+1,_,oM,hpu,rfl,rfl,rfl⟩
    case wk=>exact ql
   ·by_cases hp:0<s.size
    ·have e42:decide ((s.size:Int)>0)=true:=decide_eq_true oM;have hwn:IntKind.i64.wrap ((n:Int)-1)=((n-1:Nat):Int):=by rw [qg (by omega) (by omega)];omega
     have hws:IntKind.i64.wrap ((s.size:Int)-1)=((s.size-1:Nat):Int):=by rw [qg (by omega) (by omega)];omega
     cases e48:decide ((s.size:Int)<((n-1:Nat):Int)) with
     |true=>
      have h48:=qG e48;refine qa ?_;intros;simp only [e42];refine qa ?_;intros;simp only [hwn,e48];refine qa ?_;intros;rw [hws];refine y7 rfl rfl (show s.size-1<s.size by omega) ?_;refine qa ?_;intros;refine qb (t:=((bt s (s.size-1):Int)!=32)) rfl (fun h5=>?_) (fun h5=>?_)
      ·have h5:bt s (s.size-1)≠32:=by have:=bne_iff_ne.1 h5;omega
       have hpu:=ho.push (c:=32) oM (.inr rfl) (fun _=>⟨hp,h5⟩);refine qa ?_;intros;refine nE rfl rfl (by rw [ND];omega) ?_;refine qa ?_;intros;refine⟨m-1,oM,_,_,_,[],?wk,i+1,_,oM,hpu,rfl,rfl,rfl⟩
       case wk=>exact ql
      ·refine qa ?_;intros;refine⟨m-1,oM,_,_,_,[],?wk,i+1,s,oM,ho,rfl,rfl,rfl⟩
       case wk=>exact ql
     |false=>
      refine qa ?_;intros;simp only [e42];refine qa ?_;intros;simp only [hwn,e48];refine qa ?_;intros;refine qb (t:=false) rfl (fun h=>by cases h) (fun _=>?_);refine qa ?_;intros;refine⟨m-1,oM,_,_,_,[],?wk,i+1,s,oM,ho,rfl,rfl,rfl⟩
      case wk=>exact ql
    ·have e42:decide ((s.size:Int)>0)=false:=decide_eq_false oM;refine qa ?_;intros;simp only [e42];refine qa ?_;intros;refine qb (t:=false) rfl (fun h=>by cases h) (fun _=>?_);refine qa ?_;intros;refine⟨m-1,oM,_,_,_,[],?wk,i+1,s,oM,ho,rfl,rfl,rfl⟩
     case wk=>exact ql
  ·refine ya ?_;refine wi [] ?wk2 (r5 hn ho)
   case wk2=>exact ql
end Go.Ah
