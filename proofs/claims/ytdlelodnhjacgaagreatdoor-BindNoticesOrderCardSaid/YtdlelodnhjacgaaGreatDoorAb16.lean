/- -/
import Derived.Test.YtdlelodnhjacgaaGreatDoorAb15
set_option linter.unusedSimpArgs false
set_option linter.unusedVariables false
set_option maxRecDepth 8000
namespace Go.Ai
open Go.Ab Go.Proofs
theorem vB:Tryz.prog.follows .mixedOrders=true:=by kernel_rfl
structure Hid (Q:Prop):Prop where
 get:Q
theorem qa{P Q:Prop}(k:Q)(h:Hid Q->P:=by intro goH;(repeat (first|refine jO O O ?_|refine wO O O ?_|refine wq O ?_|refine wr O O ?_|refine wu O O ?_|refine Qu O (by first|exact fun _=>rfl|exact fun h=>(by simp only [if_pos h];rfl)|exact fun h=>(by simp only [h,if_true,if_false];rfl)) (by first|exact fun _=>rfl|exact fun h=>(by simp only [if_pos h];rfl)|exact fun h=>(by simp only [h,if_true,if_false];rfl)) ?_|refine vK O O ?_|refine vJ O O ?_|refine zi O ?_|refine xZ O ?_|refine xH O ?_|refine Jf O (by first|exact fun _=>rfl|exact fun h=>(by simp only [if_pos h];rfl)|exact fun h=>(by simp only [h,if_true,if_false];rfl)) ?_|refine Jg O (by first|exact fun _=>rfl|exact fun h=>(by simp only [if_pos h];rfl)|exact fun h=>(by simp only [h,if_true,if_false];rfl)) ?_|refine kX O O (by omega) (by omega) ?_|refine kY O O (by omega) (by omega) ?_|refine kW O O (by omega) (by omega) ?_|refine Yr O O (by omega) (by decide) (by assumption) ?_|refine yE O O (by omega) (by decide) (by assumption) ?_|refine xZ (xJ O O (by assumption) O) ?_|refine xH (xJ O O (by assumption) O) ?_|refine xZ (xE O O (by assumption)) ?_|refine xH (xE O O (by assumption)) ?_|refine xZ (xF O O (by assumption) (by assumption)) ?_|refine xH (xF O O (by assumption) (by assumption)) ?_|refine Qf O ?_|refine XU O O O ?_|refine wh O O O O O (jP O) O ?_|refine jd ?_|refine yn ?_|refine yv vB (fun base=>?_)|refine kC ?_|refine jT ?_|refine yW ?_));first|exact goH.get|(revert base;exact goH.get)):P:=h ⟨k⟩
theorem zh{P Q:Prop}(k:Q)(h:Hid Q->P:=by intro goH;(repeat (first|refine jO O O ?_|refine wO O O ?_|refine wq O ?_|refine wr O O ?_|refine wu O O ?_|refine Qu O (by first|exact fun _=>rfl|exact fun h=>(by simp only [if_pos h];rfl)|exact fun h=>(by simp only [h,if_true,if_false];rfl)) (by first|exact fun _=>rfl|exact fun h=>(by simp only [if_pos h];rfl)|exact fun h=>(by simp only [h,if_true,if_false];rfl)) ?_|refine vK O O ?_|refine vJ O O ?_|refine IC O (by assumption) ?_|refine zi O ?_|refine xZ O ?_|refine xH O ?_|refine Jf O (by first|exact fun _=>rfl|exact fun h=>(by simp only [if_pos h];rfl)|exact fun h=>(by simp only [h,if_true,if_false];rfl)) ?_|refine Jg O (by first|exact fun _=>rfl|exact fun h=>(by simp only [if_pos h];rfl)|exact fun h=>(by simp only [h,if_true,if_false];rfl)) ?_|refine kX O O (by omega) (by omega) ?_|refine kY O O (by omega) (by omega) ?_|refine kW O O (by omega) (by omega) ?_|refine Yr O O (by omega) (by decide) (by assumption) ?_|refine yE O O (by omega) (by decide) (by assumption) ?_|refine xZ (xJ O O (by assumption) O) ?_|refine xH (xJ O O (by assumption) O) ?_|refine xZ (xE O O (by assumption)) ?_|refine xH (xE O O (by assumption)) ?_|refine xZ (xF O O (by assumption) (by assumption)) ?_|refine xH (xF O O (by assumption) (by assumption)) ?_|refine Qf O ?_|refine XU O O O ?_|refine wh O O O O O (jP O) O ?_|refine jd ?_|refine yn ?_|refine yv vB (fun base=>?_)|refine kC ?_|refine jT ?_|refine yW ?_));first|exact goH.get|(revert base;exact goH.get)):P:=h ⟨k⟩
abbrev DK(f:FuncId)(ds:List DV)(R:DV->Prop):Prop:=yR Tryz.prog GN (H00 1) f ds R
def pC(f:FuncId){s:SFn}(h:yr Tryz.prog GN f=some s:=by set_option maxRecDepth 100000 in (conv=>lhs;reduce;simp only [Int.reduceOfNat,Int.reduceNegSucc])):{s//yr Tryz.prog GN f=some s}:=⟨s,h⟩
theorem vL{f:FuncId}{ds:List DV}{R:DV->Prop}{sf:SFn}(h:∀Z0 lo,DPS (Par.base Tryz.prog GN (H00 1) Z0 lo) sf.n sf.code (Jt (Par.base Tryz.prog GN (H00 1) Z0 lo) sf.res R) (jC ds 0) [] 0)(hf:yr Tryz.prog GN f=some sf/\Nat.ble ds.length sf.n=true:=by constructor;(set_option maxRecDepth 100000 in (conv=>lhs;reduce;simp only [Int.reduceOfNat,Int.reduceNegSucc]));rfl):DK f ds R:=je hf.1 hf.2 ko h
theorem x6{p:Par}{base rs:Nat}{Q:qk->Bx->Nat->Prop}{r:List SOper}{W:Wt}{A:List Nat}{E:qk}{S:Bx}{nk:Nat}{id:Nat}{dst:Option Nat}{aid:Option Nat}{ws:List Nat}{keep:Bool}{f:FuncId}{args:List Opd}{ds:List DV}{v:DV}{K:Prop}(hvs:Zx E args=some ds)(hf:xa ZB ds=true)(hc:yR p.P p.G p.GH f ds fun d=>d=v)(k:K)(h:Hid K->DPW p base rs Q r W A (qI E dst v) S nk:=by intro goH;refine qa ?_;exact goH.get):DPW p base rs Q (⟨id,dst,.cf f args,none,aid,ws,keep⟩::r) W A E S nk:=qf hvs hf hc (by rintro _ rfl;exact h ⟨k⟩)
theorem QK{P:Prop}(h:P:=by refine qa ?_;intros;exact qb ⟨_,O,O,O⟩):P:=h
theorem cfB{p:Par}{base rs:Nat}{Q:qk->Bx->Nat->Prop}{r:List SOper}{W:Wt}{A:List Nat}{E:qk}{S:Bx}{nk:Nat}{id:Nat}{dst:Option Nat}{aid:Option Nat}{ws:List Nat}{keep:Bool}{f:FuncId}{args:List Opd}{ds:List DV}{v:DV}{K:Prop}(hvs:Zx E args=some ds)(hf:xa ZB ds=true)(hc:yR p.P p.G p.GH f ds fun d=>d=v)(k:K)(h:Hid K->DPW p base rs Q r W A (qI E dst v) S nk:=by intro goH;refine zh ?_;exact goH.get):DPW p base rs Q (⟨id,dst,.cf f args,none,aid,ws,keep⟩::r) W A E S nk:=qf hvs hf hc (by rintro _ rfl;exact h ⟨k⟩)
theorem Da{P:Prop}(h:P:=by refine zh ?_;intros;exact qb ⟨_,O,O,O⟩):P:=h
theorem yQ{f:FuncId}{ds:List DV}{R:DV->Prop}{sf:SFn}{K:Prop}(k:K)(hf:yr Tryz.prog GN f=some sf/\Nat.ble ds.length sf.n=true:=by constructor;(set_option maxRecDepth 100000 in (conv=>lhs;reduce;simp only [Int.reduceOfNat,Int.reduceNegSucc]));rfl)(h:Hid K->∀Z0 lo,DPS (Par.base Tryz.prog GN (H00 1) Z0 lo) sf.n sf.code (Jt (Par.base Tryz.prog GN (H00 1) Z0 lo) sf.res R) (jC ds 0) [] 0:=by intro goH Z0 lo;refine qa ?_;revert Z0 lo;exact goH.get):DK f ds R:=je hf.1 hf.2 ko (h ⟨k⟩)
def qU(v:Int):List FD:=[.c (.int .u8 v)]
def yL(v:Int):List FD:=[.c (.int .i64 v)]
def Zj(b:Bool):List FD:=[.c (.bool b)]
theorem EX{P Q:Prop}(k:Q)(h:Hid Q->P:=by intro goH;(repeat (first|refine jO O O ?_|refine wO O O ?_|refine wq O ?_|refine wr O O ?_|refine wu O O ?_|refine Qu O (by first|exact fun _=>rfl|exact fun h=>(by simp only [if_pos h];rfl)|exact fun h=>(by simp only [h,if_true,if_false];rfl)) (by first|exact fun _=>rfl|exact fun h=>(by simp only [if_pos h];rfl)|exact fun h=>(by simp only [h,if_true,if_false];rfl)) ?_|refine vK O O ?_|refine vJ O O ?_|refine A4 O O (by first|omega|(simp only [qE,xA,zR,xN,xS,zS];omega)) ?_|refine AQ O O (by first|omega|(simp only [qE,xA,zR,xN,xS,zS];omega)) ?_|refine AZ O O (by omega) ?_|refine mZ O O (by omega) (by omega) ?_|refine mY O O (by omega) ?_|refine AX O (by omega) ?_|refine AY O (by omega) ?_|refine AU O (by omega) ?_|refine AV O (by omega) ?_|refine AW O (by omega) ?_|refine iK O (by omega) ?_|refine zi O ?_|refine xZ O ?_|refine xH O ?_|refine vS O O (by omega) (by first|rfl|omega|simp) (by decide) (fun _=>O) ?_|refine VD O O (by omega) (by first|rfl|omega|simp) (by decide) (fun _=>O) ?_|refine VC O O (by omega) (by omega) (by first|rfl|omega|simp) (by decide) (fun _=>O) ?_|refine Jf O (by first|exact fun _=>rfl|exact fun h=>(by simp only [if_pos h];rfl)|exact fun h=>(by simp only [h,if_true,if_false];rfl)) ?_|refine Jg O (by first|exact fun _=>rfl|exact fun h=>(by simp only [if_pos h];rfl)|exact fun h=>(by simp only [h,if_true,if_false];rfl)) ?_|refine kX O O (by omega) (by omega) ?_|refine kY O O (by omega) (by omega) ?_|refine kW O O (by omega) (by omega) ?_|refine xZ (xJ O O (by assumption) O) ?_|refine xH (xJ O O (by assumption) O) ?_|refine xZ (xE O O (by assumption)) ?_|refine xH (xE O O (by assumption)) ?_|refine xZ (xF O O (by assumption) (by assumption)) ?_|refine xH (xF O O (by assumption) (by assumption)) ?_|refine Qf O ?_|refine XU O O O ?_|refine wh O O O O O (jP O) O ?_|refine Ze O O O ⟨O,O,_,O,O⟩ (by first|rfl|omega|simp) (by first|omega|(simp only [qE,xA,zR,xN,xS,zS];omega)) (by first|omega|(simp only [qE,xA,zR,xN,xS,zS];omega)) (by decide) (fun _=>O) O ?_|refine iM _ O O O ⟨O,O,O⟩ (by first|rfl|omega|simp) (by first|omega|(simp only [qE,xA,zR,xN,xS,zS];omega)) (by first|omega|(simp only [qE,xA,zR,xN,xS,zS];omega)) (by decide) O ?_|refine zn _ O O O ⟨O,O,O⟩ (by first|rfl|omega|simp) (by first|rfl|omega|simp) (by first|omega|(simp only [qE,xA,zR,xN,xS,zS];omega)) (by first|omega|(simp only [qE,xA,zR,xN,xS,zS];omega)) (by decide) (fun _=>O) O ?_|refine zn _ O O O ⟨O,O,_,O,qD _ (qO (fun _=>by rfl) _)⟩ (by first|rfl|omega|simp) (by first|rfl|omega|simp) (by first|omega|(simp only [qE,xA,zR,xN,xS,zS];omega)) (by first|omega|(simp only [qE,xA,zR,xN,xS,zS];omega)) (by decide) (fun _=>O) O ?_|refine QV qU (0:Int) O O ⟨O,O,trivial⟩ O (by decide) (by omega) (by omega) (by omega) ?_|refine We qU (0:Int) O O O O ⟨O,O,trivial⟩ O (by decide) (by omega) (by omega) (by omega) ?_|refine QV yL (0:Int) O O ⟨O,O,trivial⟩ O (by decide) (by omega) (by omega) (by omega) ?_|refine QV Zj false O O ⟨O,O,trivial⟩ O (by decide) (by omega) (by omega) (by omega) ?_|refine jd ?_|refine yn ?_|refine yv vB (fun base=>?_)|refine kC ?_|refine jT ?_|refine yW ?_|refine A5 O ?_|refine iO O ?_));first|exact goH.get|(revert base;exact goH.get)):P:=h ⟨k⟩
theorem ql{P Q:Prop}(k:Q)(h:Hid Q->P:=by intro goH;(repeat (first|refine jO O O ?_|refine wO O O ?_|refine wq O ?_|refine wr O O ?_|refine wu O O ?_|refine vK O O ?_|refine vJ O O ?_|refine A4 O O (by first|omega|(simp only [qE,xA,zR,xN,xS,zS];omega)) ?_|refine AQ O O (by first|omega|(simp only [qE,xA,zR,xN,xS,zS];omega)) ?_|refine AZ O O (by omega) ?_|refine mZ O O (by omega) (by omega) ?_|refine mY O O (by omega) ?_|refine AX O (by omega) ?_|refine AY O (by omega) ?_|refine AU O (by omega) ?_|refine AV O (by omega) ?_|refine AW O (by omega) ?_|refine iK O (by omega) ?_|refine zi O ?_|refine xZ O ?_|refine xH O ?_|refine vS O O (by omega) (by first|rfl|omega|simp) (by decide) (fun _=>O) ?_|refine VD O O (by omega) (by first|rfl|omega|simp) (by decide) (fun _=>O) ?_|refine VC O O (by omega) (by omega) (by first|rfl|omega|simp) (by decide) (fun _=>O) ?_|refine kX O O (by omega) (by omega) ?_|refine kY O O (by omega) (by omega) ?_|refine kW O O (by omega) (by omega) ?_|refine xZ (xJ O O (by assumption) O) ?_|refine xH (xJ O O (by assumption) O) ?_|refine xZ (xE O O (by assumption)) ?_|refine xH (xE O O (by assumption)) ?_|refine xZ (xF O O (by assumption) (by assumption)) ?_|refine xH (xF O O (by assumption) (by assumption)) ?_|refine Qf O ?_|refine XU O O O ?_|refine wh O O O O O (jP O) O ?_|refine Ze O O O ⟨O,O,_,O,O⟩ (by first|rfl|omega|simp) (by first|omega|(simp only [qE,xA,zR,xN,xS,zS];omega)) (by first|omega|(simp only [qE,xA,zR,xN,xS,zS];omega)) (by decide) (fun _=>O) O ?_|refine iM _ O O O ⟨O,O,O⟩ (by first|rfl|omega|simp) (by first|omega|(simp only [qE,xA,zR,xN,xS,zS];omega)) (by first|omega|(simp only [qE,xA,zR,xN,xS,zS];omega)) (by decide) O ?_|refine zn _ O O O ⟨O,O,O⟩ (by first|rfl|omega|simp) (by first|rfl|omega|simp) (by first|omega|(simp only [qE,xA,zR,xN,xS,zS];omega)) (by first|omega|(simp only [qE,xA,zR,xN,xS,zS];omega)) (by decide) (fun _=>O) O ?_|refine zn _ O O O ⟨O,O,_,O,qD _ (qO (fun _=>by rfl) _)⟩ (by first|rfl|omega|simp) (by first|rfl|omega|simp) (by first|omega|(simp only [qE,xA,zR,xN,xS,zS];omega)) (by first|omega|(simp only [qE,xA,zR,xN,xS,zS];omega)) (by decide) (fun _=>O) O ?_|refine QV qU (0:Int) O O ⟨O,O,trivial⟩ O (by decide) (by omega) (by omega) (by omega) ?_|refine We qU (0:Int) O O O O ⟨O,O,trivial⟩ O (by decide) (by omega) (by omega) (by omega) ?_|refine QV yL (0:Int) O O ⟨O,O,trivial⟩ O (by decide) (by omega) (by omega) (by omega) ?_|refine QV Zj false O O ⟨O,O,trivial⟩ O (by decide) (by omega) (by omega) (by omega) ?_|refine jd ?_|refine yn ?_|refine yv vB (fun base=>?_)|refine kC ?_|refine jT ?_|refine yW ?_|refine A5 O ?_|refine iO O ?_));first|exact goH.get|(revert base;exact goH.get)):P:=h ⟨k⟩
def ja(l:List Int):List FD:=[.sl 1 l.length (l.flatMap qU)]
def cU(l:List Int):List FD:=[.sl 1 l.length (l.flatMap yL)]
abbrev qq(l:List Int):DV:=.one (.f (.sl 1 l.length (l.flatMap qU)))
abbrev x7(l:List Int):DV:=.one (.f (.sl 1 l.length (l.flatMap yL)))
abbrev qW(l:List (List Int)):DV:=.one (.f (.sl 1 l.length (l.flatMap ja)))
theorem Vt{α β:Type}[Inhabited α]{f:β->α->β}{s:β}{l:List α}{i:Nat}(h:i<l.length):(l.take (i+1)).foldl f s=f ((l.take i).foldl f s) (l.getD i default):=by
 rw [Q5,zge h,qT,zge h,eN];rfl
theorem u6{α β:Type}{f:β->α->β}{s:β}{l:List α}:(l.take l.length).foldl f s=l.foldl f s:=by rw [vE]
theorem kH{α:Type}{f:α->List FD}{e:Nat}(hf:∀x,(f x).length=e)(l:List α):(l.flatMap f).length=l.length*e:=qO hf l
theorem qn{α:Type}[Inhabited α]{l:List α}{i:Nat}(h:i<l.length):l.getD i default∈l:=by
 rw [qT,zge h];exact sP h
theorem va{f:FuncId}{ds:List DV}{R:DV->Prop}{n:Nat}{code:SC}{res:List SRes}(h:∀Z0 lo,DPS (Par.base Tryz.prog GN (H00 1) Z0 lo) n code (Jt (Par.base Tryz.prog GN (H00 1) Z0 lo) res R) (jC ds 0) [] 0)(hf:yr Tryz.prog GN f=some ⟨n,code,res⟩/\Nat.ble ds.length n=true:=by constructor;(set_option maxRecDepth 100000 in (conv=>lhs;reduce;simp only [Int.reduceOfNat,Int.reduceNegSucc]));rfl):DK f ds R:=je hf.1 hf.2 ko h
theorem Zh{p:Par}{base rs:Nat}{Q:qk->Bx->Nat->Prop}{r:List SOper}{W:Wt}{A:List Nat}{E:qk}{S:Bx}{nk:Nat}{id:Nat}{dst:Option Nat}{aid:Option Nat}{ws:List Nat}{keep:Bool}{f:FuncId}{args:List Opd}{ds:List DV}{v:DV}{K:Prop}(hvs:Zx E args=some ds)(hf:xa ZB ds=true)(hc:yR p.P p.G p.GH f ds fun d=>d=v)(k:K)(h:Hid K->DPW p base rs Q r W A (qI E dst v) S nk:=by intro goH;refine ql ?_;exact goH.get):DPW p base rs Q (⟨id,dst,.cf f args,none,aid,ws,keep⟩::r) W A E S nk:=qf hvs hf hc (by rintro _ rfl;exact h ⟨k⟩)
theorem Mj{P:Prop}(h:P:=by refine ql ?_;intros;exact qb ⟨_,O,O,O⟩):P:=h
theorem jY{f:FuncId}{ds:List DV}{R:DV->Prop}{n:Nat}{code:SC}{res:List SRes}{K:Prop}(k:K)(hf:yr Tryz.prog GN f=some ⟨n,code,res⟩/\Nat.ble ds.length n=true:=by constructor;(set_option maxRecDepth 100000 in (conv=>lhs;reduce;simp only [Int.reduceOfNat,Int.reduceNegSucc]));rfl)(h:Hid K->∀Z0 lo,DPS (Par.base Tryz.prog GN (H00 1) Z0 lo) n code (Jt (Par.base Tryz.prog GN (H00 1) Z0 lo) res R) (jC ds 0) [] 0:=by intro goH Z0 lo;refine ql ?_;revert Z0 lo;exact goH.get):DK f ds R:=je hf.1 hf.2 ko (h ⟨k⟩)
theorem Of{f:FuncId}{ds:List DV}{R:DV->Prop}{n:Nat}{code:SC}{res:List SRes}{K:Prop}(k:K)(hf:yr Tryz.prog GN f=some ⟨n,code,res⟩/\Nat.ble ds.length n=true:=by constructor;(set_option maxRecDepth 100000 in (conv=>lhs;reduce;simp only [Int.reduceOfNat,Int.reduceNegSucc]));rfl)(h:Hid K->∀Z0 lo,DPS (Par.base Tryz.prog GN (H00 1) Z0 lo) n code (Jt (Par.base Tryz.prog GN (H00 1) Z0 lo) res R) (jC ds 0) [] 0:=by intro goH Z0 lo;refine qa ?_;revert Z0 lo;exact goH.get):DK f ds R:=je hf.1 hf.2 ko (h ⟨k⟩)
end Go.Ai

namespace Go.Ai
theorem Ql{P:Prop}(h:P:=by repeat' (first|exact trivial|rfl|assumption|refine⟨?_,?_⟩|exact kH (fun _=>by rfl) _)):P:=h
open Go.Ab Go.Proofs
noncomputable def tabS (f:FuncId):Option SFn:=if wL Tryz.prog f then yr Tryz.prog GN f else none
def HS:Hp:=⟨.lf,GN⟩
theorem DY:∀f sf,tabS f=some sf->yr Tryz.prog GN f=some sf:=fun f sf h=>by
 unfold tabS at h;split at h
 ·exact h
 ·cases h
theorem Ji{f:FuncId}{ds:List DV}{vs:List V}{c:C}{fuel:Nat}(hex:qe (fun d v=>Je d=some v) ds vs)(hcl:vs.all V.closed=true)(hc:c.closed=true)(h:Wc tabS fuel f vs HS=some (.one c)):DK f ds fun d=>d=.one (.f (.c c)):=by
 have hno:∀b bk,HS.get b=some bk->False:=fun b bk h=>by
  have:HS.get b=none:=T.get_lf b;rw [this] at h;cases h
 exact yR.of_pure hex hc fun H hH=>(xc.sub (H:=H) (O0 vB DY h) hcl (by decide) (fun b bk h=>(hno b bk h).elim) (fun b bk h=>(hno b bk h).elim) (fun v _ h=>by rw [h];exact hc)).mono fun v H' ⟨⟨_,h⟩,e⟩=>⟨h,e⟩
def JG(n:Nat):Int:=if 97<=n % 128/\n % 128<=122 then 1 else if 65<=n % 128/\n % 128<=90 then 2 else if 48<=n % 128/\n % 128<=57 then 3 else if n % 128=32 then 4 else 5
def B8(n:Nat):Bool:=decide (32<=n % 128)&&decide (n % 128<=126)
abbrev xI(s:ByteArray):DV:=.one (.f (.c (.str s)))
def bt(s:ByteArray)(i:Nat):Nat:=(s.data.toList.getD i 0).toNat
theorem XW(s:ByteArray)(i:Nat):bt s i<256:=UInt8.toNat_lt _
theorem Lu{s:ByteArray}{i:Nat}(h:i<s.size):s[i]?=some (s.data.toList.getD i 0):=by
 have h':i<s.data.toList.length:=by simpa using h
 rw [qT,zge h'];simp only [QB];rw [getElem?_pos s i h];rfl
section
variable{p:Par}{base rs:Nat}{Q:qk->Bx->Nat->Prop}{r:List SOper}{W:Wt}{A:List Nat}{E:qk}{S:Bx}{nk:Nat}{id:Nat}{dst:Option Nat}{aid:Option Nat}{ws:List Nat}{keep:Bool}
theorem jL{x i:Opd}{s:ByteArray}{k:IntKind}{j:Nat}(hx:ro E x=some (xI s))(hi:ro E i=some (.one (.f (.c (.int k j)))))(hj:j<s.size)(h:DPW p base rs Q r W A (qI E dst (.one (.f (.c (.int .u8 (bt s j)))))) S nk):DPW p base rs Q (⟨id,dst,.p (.sindex x i),none,aid,ws,keep⟩::r) W A E S nk:=by
 refine yP (fun {Z β H F} hE=>⟨.one (.int .u8 (bt s j)),?_,yg O⟩) h;simp only [qp,xj hE hx,xj hE hi];rw [if_pos (by omega),show ((j:Int).toNat)=j by omega,Lu hj];rfl
end
abbrev qj:=Int × Int
def qB(p:qj):List FD:=[.c (.int .i64 p.1),.c (.int .i64 p.2)]
def xt(l:List qj):DV:=.one (.f (.sl 2 l.length (l.flatMap qB)))
def wd(p:qj):DV:=.agg [.f (.c (.int .i64 p.1)),.f (.c (.int .i64 p.2))]
theorem jQ{l:List qj}{i:Nat}{x:qj}(h:l[i]?=some x):xd (l.flatMap qB) (i*2) 2=some (qB x):=zp (e:=2) (fun _=>rfl) h
theorem zu(l:List qj):(l.flatMap qB).length=l.length*2:=qO (f:=qB) (e:=2) (fun _=>rfl) l
structure Blk where
 kind:Int
 level:Int
 text:ByteArray
 rows:List (List ByteArray)
 f:List (Int × Int)
 w:Int
 h:Int
 gap:Int
 nf:Nat
 ff:List FD
 page:Int
abbrev FD.int(n:Int):FD:=.c (.int .i64 n)
def kR(r:List ByteArray):FD:=.sl 1 r.length (r.map fun s=>.c (.str s))
def YW(l:List (List ByteArray)):FD:=.sl 1 l.length (l.map kR)
def wg(n:Int × Int):List FD:=[FD.int n.1,FD.int n.2]
def gC(l:List (Int × Int)):FD:=.sl 2 l.length (l.flatMap wg)
def VV(b:Blk):List FD:=[FD.int b.kind,FD.int b.level,.c (.str b.text),YW b.rows,gC b.f,FD.int b.w,FD.int b.h,FD.int b.gap,.sl 3 b.nf b.ff,FD.int b.page]
def lC(l:List Blk):DV:=.one (.f (.sl 10 l.length (l.flatMap VV)))
theorem NB(l:List (List ByteArray)):l.flatMap (fun r=>[kR r])=l.map kR:=by
 induction l with
 |nil=>rfl
 |cons a l ih=>rw [wB,ih];rfl
theorem EA{l:List (List ByteArray)}{i:Nat}{r:List ByteArray}(h:l[i]?=some r):xd (l.map kR) (i*1) 1=some [kR r]:=by
 have:=zp (f:=fun r=>[kR r]) (e:=1) (fun _=>rfl) h
 rwa [NB] at this
theorem MR(l:List ByteArray):l.flatMap (fun s=>[FD.c (.str s)])=l.map fun s=>.c (.str s):=by
 induction l with
 |nil=>rfl
 |cons a l ih=>rw [wB,ih];rfl
theorem Ep{l:List ByteArray}{i:Nat}{s:ByteArray}(h:l[i]?=some s):xd (l.map fun s=>FD.c (.str s)) (i*1) 1=some [.c (.str s)]:=by
 have:=zp (f:=fun s=>[FD.c (.str s)]) (e:=1) (fun _=>rfl) h
 rwa [MR] at this
inductive NilF:FD->FD->Prop where
 |refl (d:FD):NilF d d
 |nil (e:Nat):NilF (.c .nils) (.sl e 0 [])
 |sl {e n:Nat} {l' l:List FD}:l'.length=l.length->(∀(i:Nat) a b,l'[i]?=some a->l[i]?=some b->NilF a b)->NilF (.sl e n l') (.sl e n l)
theorem NilF.ok{Z:Nat->Prop}{H:Hp}{d' d:FD}(h:NilF d' d):∀{c:C},RF Z H d' c->RF Z H d c:=by
 induction h with
 |refl d=>exact fun h=>h
 |nil e=>intro c h;cases h;exact .nil e
 | @sl e n l' l hl _ ih=>
  intro c h;cases h with
  |nil _=>cases l with
   |nil=>exact .nil e
   |cons _ _=>simp at hl
  | @sl _ _ b o cap ex _ cs hz hn hc hld hall=>
   refine .sl hz oM hc hld fun i d c hd hc'=>?_;have hi:i<l'.length:=by have:=(zgs hd).1;omega
   obtain⟨a,ha⟩:∃a,l'[i]?=some a:=⟨_,zge hi⟩;exact ih i a d ha hd (hall i a c ha hc')
def Kp:DC->DC->Prop
 |.f a,.f b=>NilF a b
 |_,_=>False
def LI:DV->DV->Prop
 |.one a,.one b=>Kp a b
 |.agg l,.agg m=>qe Kp l m
 |_,_=>False
def VY:DV->DV->Prop
 |.tup l,.tup m=>qe LI l m
 |.one a,.one b=>Kp a b
 |.agg l,.agg m=>qe Kp l m
 |_,_=>False
theorem Kp.ok{Z:Nat->Prop}{H:Hp}{β:qt}{a b:DC}{c:C}(h:Kp a b)(hr:RD Z H β a c):RD Z H β b c:=by
 cases a with
 |f a=>cases b with
  |f b=>exact NilF.ok h hr
  |_=>exact h.elim
 |_=>exact h.elim
theorem NilCs.ok{Z:Nat->Prop}{H:Hp}{β:qt}:∀{l m:List DC} {cs:List C},qe Kp l m->qe (RD Z H β) l cs->qe (RD Z H β) m cs
 |[],[],[],_,_=>trivial
 |_::_,_::_,_::_,h,hr=>⟨h.1.ok hr.1,NilCs.ok h.2 hr.2⟩
 |[],_::_,_,h,_=>h.elim
 |_::_,[],_,h,_=>h.elim
 |[],[],_::_,_,hr=>hr.elim
 |_::_,_::_,[],_,hr=>hr.elim
theorem LI.ok{Z:Nat->Prop}{H:Hp}{β:qt}{a b:DV}{v:V}(h:LI a b)(hr:zC Z H β a v):zC Z H β b v:=by
 cases a with
 |one a=>cases b with
  |one b=>obtain⟨c,e,hc⟩:=hr;exact⟨c,e,Kp.ok h hc⟩
  |_=>exact h.elim
 |agg a=>cases b with
  |agg b=>obtain⟨c,e,hc⟩:=hr;exact⟨c,e,NilCs.ok h hc⟩
  |_=>exact h.elim
 |tup _=>exact h.elim
theorem Nil1s.ok{Z:Nat->Prop}{H:Hp}{β:qt}:∀{l m:List DV} {cs:List V},qe LI l m->qe (zC Z H β) l cs->qe (zC Z H β) m cs
 |[],[],[],_,_=>trivial
 |_::_,_::_,_::_,h,hr=>⟨h.1.ok hr.1,Nil1s.ok h.2 hr.2⟩
 |[],_::_,_,h,_=>h.elim
 |_::_,[],_,h,_=>h.elim
 |[],[],_::_,_,hr=>hr.elim
 |_::_,_::_,[],_,hr=>hr.elim
theorem VY.ok{Z:Nat->Prop}{H:Hp}{β:qt}{a b:DV}{v:V}(h:VY a b)(hr:xi Z H β a v):xi Z H β b v:=by
 cases a with
 |one a=>cases b with
  |one b=>obtain⟨c,e,hc⟩:=hr;exact⟨c,e,Kp.ok h hc⟩
  |_=>exact h.elim
 |agg a=>cases b with
  |agg b=>obtain⟨c,e,hc⟩:=hr;exact⟨c,e,NilCs.ok h hc⟩
  |_=>exact h.elim
 |tup l=>cases b with
  |tup m=>obtain⟨vs,e,hc⟩:=hr;exact⟨vs,e,Nil1s.ok h hc⟩
  |_=>exact h.elim
theorem nv{d d':DV}(h:VY d d':=by repeat' (first|exact trivial|exact NilF.refl _|exact NilF.nil _|refine⟨?_,?_⟩)):VY d d':=h
theorem wj{f:FuncId}{ds:List DV}{R:DV->Prop}(h:DK f ds fun d=>∃d',VY d d'/\R d'):DK f ds R:=fun H Z args hw hz hg ha=>(h H Z args hw hz hg ha).mono fun v H' ⟨a1,a2,a3,d,hd,d',hn,hr⟩=>⟨a1,a2,a3,d',hn.ok hd,hr⟩
theorem NilVs.ok{Z:Nat->Prop}{H:Hp}{β:qt}:∀{l m:List DV} {cs:List V},qe VY l m->qe (xi Z H β) l cs->qe (xi Z H β) m cs
 |[],[],[],_,_=>trivial
 |_::_,_::_,_::_,h,hr=>⟨h.1.ok hr.1,NilVs.ok h.2 hr.2⟩
 |[],_::_,_,h,_=>h.elim
 |_::_,[],_,h,_=>h.elim
 |[],[],_::_,_,hr=>hr.elim
 |_::_,_::_,[],_,hr=>hr.elim
theorem BB{f:FuncId}{ds ds':List DV}{R:DV->Prop}(hn:qe VY ds' ds)(h:DK f ds R):DK f ds' R:=fun H Z args hw hz hg ha=>h H Z args hw hz hg (NilVs.ok hn ha)
end Go.Ai
namespace Go.Ab
def Np(k:Nat)(l:List FD):DC->DC
 |.ptr j o=>match Nat.beq j k with
  |true=>.fptr (l.drop o)
  |false=>.ptr j o
 |d=>d
def To(k:Nat)(l:List FD):DV->DV
 |.one d=>.one (Np k l d)
 |d=>d
section
variable{p:Par}{base rs n:Nat}{W:Wt}{A:List Nat}{E:qk}{S:Bx}{nk:Nat}
theorem R0{Z:Nat->Prop}{β:qt}{H:Hp}:∀{fs:List FD} {cs:List C},qe (RD Z H β) (fs.map .f) cs->qe (RF Z H) fs cs
 |[],[],_=>trivial
 |_::_,_::_,h=>⟨h.1,R0 h.2⟩
 |[],_::_,h=>h.elim
 |_::_,[],h=>h.elim
theorem Gb{Z:Nat->Prop}{β:qt}{H:Hp}{F:T V}(hS:SR p Z β H S nk)(hE:ER Z β H E F){k:Nat}{fs:List FD}(hk:lk S k=some (.cells (fs.map .f))):
 ∃Z',SR p Z' β H (xP k S) nk/\ER Z' β H (zx (To k fs) E) F/\xb Z H Z' H/\∀b,Z' b↔Z b\/∃N,β (k,0)=some (.blk b N):=by
 have hZ:xb Z H (fun b=>Z b\/∃N,β (k,0)=some (.blk b N)) H:=fun b hb=>⟨.inl hb,fun _ _ h=>h⟩;obtain⟨s0,hs0,hb0⟩:=hS.box (k,0) _ (zN hk rfl);have hC:∀d c,RD Z H β d c->RD (fun b=>Z b\/∃N,β (k,0)=some (.blk b N)) H β (Np k fs d) c:=fun d c hr=>by
  cases d with
  |ptr j o=>
   simp only [Np];by_cases hj:j=k
   ·subst hj;rw [vf];obtain⟨b,N,h1,rfl⟩:=hr;rw [hs0] at h1;obtain rfl:=zsi h1;obtain⟨_,_,_,cs,rest,hrow,_,hrel⟩:=hb0;have hrel:qe (RD Z H β) (fs.map .f) cs:=hrel;have hrow:yM H b (cs++rest):=hrow;have ha:=(R0 hrel).mono fun _ _=>RF.mono hZ;have hlen:fs.length=cs.length:=ha.len;refine⟨b,o,cs.drop o,O,.inr ⟨N,hs0⟩,?_,ha.drop o⟩;by_cases ho:o<=cs.length
    ·have h1:=ZD (m:=o) (y6 hrow.2 (m:=cs.length) (by rw [qE];omega)) (by omega);rw [zS,hlen];rw [ym,Kt (qz _),vE] at h1;exact h1
    ·rw [LQ (by omega),LQ (by omega)];rfl
   ·rw [wS hj];exact hr
  |own j o n e=>exact RD.mono (d:=.own j o n e) hZ (xL.refl β) hr
  |trow j i o n=>exact RD.mono (d:=.trow j i o n) hZ (xL.refl β) hr
  |f d=>exact RD.mono (d:=.f d) hZ (xL.refl β) hr
  |g b o=>exact hr
  |tptr j i o=>exact hr
  |fptr q=>exact RD.mono (d:=.fptr q) hZ (xL.refl β) hr
  |fn f caps=>exact hr
  |any=>trivial
  |om j=>exact hr
  |yl j=>exact hr
  |fz f ls=>exact RD.mono (d:=.fz f ls) hZ (xL.refl β) hr
 refine⟨fun b=>Z b\/∃N,β (k,0)=some (.blk b N),⟨hS.wf,hS.lo,fun b hb=>hb.elim (hS.z b) fun⟨N,h⟩=>hS.bd _ b N h,fun b hb=>?_,fun b hb=>.inl (hS.zz b hb),fun b bk hb=>⟨.inl (hS.glob b bk hb).1,(hS.glob b bk hb).2⟩,hS.nk,hS.bd,fun j y hj=>?_,fun j j' y y' b N N' hj hj' h1 h2=>?_,hS.blo,hS.anch,hS.ancn⟩,fun n d hd=>?_,hZ,fun b=>Iff.rfl⟩
 ·rcases hb with hb|⟨N,hb⟩
  ·exact hS.zlo b hb
  ·exact .inr (hS.blo _ b N hb)
 ·rw [Xz] at hj;split at hj
  ·cases hj
  ·rename_i hne;obtain⟨s,hs,hbx⟩:=hS.box j y hj;obtain⟨w,hw⟩:=ju hj;refine⟨s,hs,?_⟩;cases s with
   |nil=>exact hbx
   |blk b N=>
    obtain⟨h1,h2,h3,cs,rest,h4,h5,h6⟩:=hbx;exact⟨fun h=>h.elim h1 fun⟨M,hM⟩=>hne (by rw [hS.inj j (k,0) w _ b N M hw hk hs hM]),h2,h3,cs,rest,h4,h5,Bk.rel_mono hZ (xL.refl β) h6⟩
 ·have f:∀i z,lk (xP k S) i=some z->lk S i=some z:=fun i z hz=>by
   rw [yB] at hz;split at hz
   ·cases hz
   ·exact hz
  exact hS.inj j j' y y' b N N' (f _ _ hj) (f _ _ hj') h1 h2
 ·rw [kA] at hd;cases hl:lk E n with
  |none=>rw [hl] at hd;cases hd
  |some y=>
   rw [hl] at hd;obtain rfl:=zsi hd;obtain⟨v,hv,hr⟩:=hE n y hl;refine⟨v,hv,?_⟩;cases y with
   |one d=>obtain⟨c,rfl,hr⟩:=hr;exact⟨c,O,hC d c hr⟩
   |agg m=>exact xi.mono (d:=.agg m) hZ (xL.refl β) hr
   |tup m=>exact xi.mono (d:=.tup m) hZ (xL.refl β) hr
theorem FM{Q:Exit->qk->Bx->Nat->Prop}{s:SC}(k:Nat){fs:List FD}(hk:lk S k=some (.cells (fs.map .f)))(h:DPS p n s Q (zx (To k fs) E) (xP k S) nk):DPS p n s Q E S nk:=.mk fun Z β H F hS hE=>by
 obtain⟨Z',hS',hE',_,_⟩:=Gb hS hE hk;exact h.run Z' β H F hS' hE'
end
def LL(a:Nat)(β β':qt):Prop:=∀k s,k<a->β (k,0)=some s->β' (k,0)=some s
def Rd(p:Par)(a:Nat)(f:FuncId)(ds:List DV)(S:Bx)(nk:Nat)(R:DV->Bx->Nat->Prop):Prop:=∀Z β H args,SR p Z β H S nk->qe (xi Z H β) ds args->
 xc p.P p.G f args H fun v H'=>∃d S' nk' Z' β',SR p Z' β' H' S' nk'/\xi Z' H' β' d v/\xb Z H Z' H'/\LL a β β'/\R d S' nk'
abbrev Par.holdA(p:Par)(a:Nat)(Z:Nat->Prop)(β:qt)(H:Hp):Par:=⟨p.P,p.G,p.GH,Z,p.lo,a,β,H,none⟩
theorem SR.holdA{p:Par}{a:Nat}{Z:Nat->Prop}{β:qt}{H:Hp}{S:Bx}{nk:Nat}(h:SR p Z β H S nk)(ha:a<=nk):SR (p.holdA a Z β H) Z β H S nk:=
 ⟨h.wf,h.lo,h.z,fun _ hb=>.inl hb,fun _ hb=>hb,fun b bk hb=>hb.elim (fun hb=>h.glob b bk (.inl hb)) fun hb=>hb,h.nk,h.bd,h.box,h.inj,h.blo,fun _ _ _=>rfl,ha⟩
theorem SR.freeA{p:Par}{a:Nat}{Z Z':Nat->Prop}{β β':qt}{H H':Hp}{S S':Bx}{nk nk':Nat}(h:SR p Z β H S nk)(ha:p.anc<=a)(h':SR (p.holdA a Z β H) Z' β' H' S' nk'):SR p Z' β' H' S' nk'/\xb Z H Z' H'/\LL a β β':=by
 have hz:∀b,Z b->Z' b:=h'.zz;refine⟨⟨h'.wf,h'.lo,h'.z,fun b hb=>(h'.zlo b hb).elim (h.zlo b) .inr,fun b hb=>hz b (h.zz b hb),fun b bk hb=>h'.glob b bk (.inr (h.glob b bk hb)),h'.nk,h'.bd,h'.box,h'.inj,h'.blo,fun κ hκ h0=>?_,aZ ha h'.ancn⟩,fun b hb=>⟨hz b hb,fun i c hc=>?_⟩,fun k s hk hκ=>?_⟩
 ·exact (h'.anch κ (Qg hκ ha) h0).trans (h.anch κ hκ h0)
 ·unfold Hp.cell at hc ⊢;cases hg:H.get b with
  |none=>rw [hg] at hc;cases hc
  |some bk=>rw [(h'.glob b bk (.inr ⟨hb,hg⟩)).2];rw [hg] at hc;exact hc
 ·exact (h'.anch (k,0) hk O).trans hκ
theorem Nu {p:Par} {a:Nat} {f:FuncId} {sf:SFn} (hf:yr p.P p.G f=some sf) {ds:List DV} {S:Bx} {nk:Nat} {R:DV->Bx->Nat->Prop} (hn:Nat.ble ds.length sf.n=true) (ha:p.anc<=a) (hank:a<=nk)
 (h:∀Z β H,DPS (p.holdA a Z β H) sf.n sf.code (cG (p.holdA a Z β H) sf.res R) (jC ds 0) S nk):Rd p a f ds S nk R:=by
 intro Z β H args hS hag;refine aH hf (by rw [<-hag.len];exact jP hn) ?_;refine jn ((h Z β H).run Z β H _ (hS.holdA hank) (Yx 0 hag)) fun e F' H' ⟨E',S',nk',Z',β',h1,h2,h3⟩=>?_;have fin:(∃d,j3 (p.holdA a Z β H) E' S' sf.res=some d/\V7 d=true/\∃S0,wV S0 S'/\R d S0 nk')->∃v,yk F' H' sf.res=some v/\∃d S' nk' Z' β',SR p Z' β' H' S' nk'/\xi Z' H' β' d v/\xb Z H Z' H'/\LL a β β'/\R d S' nk':=fun⟨d,hd,hfr,S0,hsub,hR⟩=>by
  obtain⟨v,hv,hr⟩:=WJ h1 h2 hd hfr;obtain⟨g1,g2,g3⟩:=hS.freeA ha (h1.keepS hsub);exact⟨v,hv,d,S0,nk',Z',β',g1,hr,g2,g3,hR⟩
 cases e with
 |normal=>obtain⟨v,hv,hr⟩:=fin h3;simp only [Z6,hv];exact hr
 |ret=>obtain⟨v,hv,hr⟩:=fin h3;simp only [Z6,hv];exact hr
 |_=>exact h3.elim
section
variable{p:Par}{base rs:Nat}{Q:qk->Bx->Nat->Prop}{r:List SOper}{W:Wt}{A:List Nat}{E:qk}{S:Bx}{nk:Nat}{id:Nat}{dst:Option Nat}{aid:Option Nat}{ws:List Nat}{keep:Bool}
theorem Bf{a:Nat}{β β':qt}(h:LL a β β'):XN (wF [] a β) β':=fun k s hk=>by
 by_cases hka:k<a
 ·simp only [wF,if_pos hka] at hk;exact h k s hka hk
 ·simp only [wF,if_neg hka] at hk;cases hk
theorem SR.none{Z:Nat->Prop}{β:qt}{H:Hp}(h:SR p Z β H S nk):SR p Z β H [] nk:=h.keepS (qv _)
theorem O8{f:FuncId}{args:List Opd}{ds:List DV}{R:DV->Bx->Nat->Prop}{E0:qk}{S0:Bx}{n0 a:Nat}(ρ:List (Nat × Nat))(hw:Wk p ρ n0 E0 S0 E S)(hvs:Zx E0 args=some ds)(hW:noW W=true)(hT:bK E0=true)(hsm:Wk p [] a E0 [] E0 [])(hc:Rd p a f ds S0 n0 R)(h:∀d S' nk',R d S' nk'->DPW p base 0 Q r W A (qI E0 dst d) S' nk'):DPW p base rs Q (⟨id,dst,.cf f args,none,aid,ws,keep⟩::r) W A E S nk:=.mk fun Z β H F c QP hS hE hC hA=>by
 obtain⟨hS0,hE0⟩:=eR hS hE hw;obtain⟨_,hEa⟩:=eR hS0.none hE0 hsm;simp only [qC,qH,if_true];refine (hc Z _ H _ hS0 (Z5 hE0 hvs)).monoP ?_;rintro v H' ⟨d,S',nk',Z',β',hS',hr,hZ,hB,hR⟩;have hC':CR W Z' β' H' c:=hC.noW (JX hW) hZ;exact⟨hC'.watch ws,(h d S' nk' hR).run Z' β' H' _ c QP hS' ((hEa.mono0 hZ (Bf hB) hT).set dst hr) hC' ⟨hA.1,fun j hj=>absurd hj oM⟩⟩
theorem Sb{E0:qk}{S0:Bx}{n0:Nat}(ρ:List (Nat × Nat))(hw:Wk p ρ n0 E0 S0 E S)(hW:noW W=true)(h:DPW p base 0 Q r W A E0 S0 n0):DPW p base rs Q r W A E S nk:=.mk fun Z β H F c QP hS hE hC hA=>by
 obtain⟨hS0,hE0⟩:=eR hS hE hw;exact h.run Z _ H F c QP hS0 hE0 (hC.noW (JX hW) (xb.refl Z H)) ⟨hA.1,fun j hj=>absurd hj oM⟩
end
section
variable{p:Par}{n:Nat}{Q:Exit->qk->Bx->Nat->Prop}{E:qk}{S:Bx}{nk:Nat}
def Ma(Q:Exit->qk->Bx->Nat->Prop):Exit->qk->Bx->Nat->Prop
 |.goto _,_,_,_=>False
 |e,E,S,nk=>Q e E S nk
theorem UA{a:SC}(h:DPS p n a (Ma Q) E S nk):DPS p n (.scope a) Q E S nk:=.mk fun Z β H F hS hE=>MP (jn (h.run Z β H F hS hE) fun e F' H' ⟨E',S',nk',Z',β',h1,h2,h3⟩=>by
 cases e with
 |goto _=>exact h3.elim
 |_=>exact⟨E',S',nk',Z',β',h1,h2,h3⟩)
end
theorem D7{α:Type}(b:List α):∀(q a:List α) (i:Nat),i+q.length<=a.length->setLs (a++b) i q=setLs a i q++b
 |[],_,_,_=>rfl
 |x::q,a,i,h=>by
  rw [xA] at h;rw [setLs,setLs,List.set_append_left i x (by omega)];exact D7 b q _ _ (by rw [jG];omega)
theorem D6{α:Type}(a:List α):∀(q b:List α) (i:Nat),setLs (a++b) (a.length+i) q=a++setLs b i q
 |[],_,_=>rfl
 |x::q,b,i=>by
  rw [setLs,setLs,List.set_append_right _ x (by omega),Nat.add_sub_cancel_left];rw [Nat.add_assoc];exact D6 a q _ _
theorem e9{α:Type}[Inhabited α]{f:α->List FD}{e c:Nat}{q:List FD}{y:α}(hf:∀x,(f x).length=e)(hc:c+q.length<=e):∀{l:List α} {i:Nat},i<l.length->f y=setLs (f (l.getD i default)) c q->setLs (l.flatMap f) (i*e+c) q=(l.set i y).flatMap f
 |[],i,h,_=>absurd h sM
 |x::l,0,_,hy=>by
  have hx:=hf x;have hy:f y=setLs (f x) c q:=hy;rw [LV,wB,wB,hy,nT,ym];exact D7 _ _ _ _ oM
 |x::l,i+1,h,hy=>by
  have hx:=hf x;have ih:=e9 hf hc (l:=l) (i:=i) (y:=y) (q:=q) (by simpa using h) hy;rw [DN,wB,wB,<-ih];have e1:(i+1)*e+c=(f x).length+(i*e+c):=by rw [wW,Nat.one_mul];omega
  rw [e1];exact D6 _ _ _ _
theorem RZ:∀q:List FD,Yz (q.map DC.f)=some q
 |[]=>rfl
 |x::q=>by rw [jr];simp only [Yz,RZ q]
section
variable{p:Par}{base rs:Nat}{Q:qk->Bx->Nat->Prop}{r:List SOper}{W:Wt}{A:List Nat}{E:qk}{S:Bx}{nk:Nat}{id:Nat}{dst:Option Nat}{aid:Option Nat}{ws:List Nat}{keep:Bool}
theorem Zd{α:Type}{f:α->List FD}{e n a b:Nat}{l:List α}{x:Opd}{lo hi:Option Opd}(hx:ro E x=some (.one (.f (.sl e n (l.flatMap f)))))(hlo:VT E 0 lo=some a)(hhi:VT E n hi=some b)(h1:a<=b)(h2:b<=l.length)(hn:l.length=n)(hf:∀x,(f x).length=e)(h:DPW p base rs Q r W A (qI E dst (.one (.f (.sl e ((l.take b).drop a).length (((l.take b).drop a).flatMap f))))) S nk):DPW p base rs Q (⟨id,dst,.p (.slice e x lo hi none),none,aid,ws,keep⟩::r) W A E S nk:=by
 refine iJ (l:=a) (h:=b) (n':=((l.take b).drop a).length) (q:=((l.take b).drop a).flatMap f) hx hlo hhi h1 (by omega) (by rw [zS,xS];omega) ?_ h;have e1:l=l.take a++((l.take b).drop a++l.drop b):=by
  rw [<-j5];have:l.take a++(l.take b).drop a=l.take b:=by
   have:=ZV a (l.take b)
   rwa [List.take_take,L7 h1] at this
  rw [this,ZV]
 have hl:(l.take a).length=a:=by rw [xS];omega
 have ha:((l.take a).flatMap f).length=a*e:=by rw [qO hf,hl]
 rw [show l.flatMap f=(l.take a).flatMap f++(((l.take b).drop a).flatMap f++(l.drop b).flatMap f) by
  conv=>lhs;rw [e1]
  rw [X0,X0]]
 have hm:=qO hf ((l.take b).drop a);rw [yj (by rw [qE,qE];omega),<-ha,DQ (qz _),List.drop_length,Kv,<-hm,Kt (qz _),vE]
theorem Zc{α:Type}{f:α->List FD}{e n b:Nat}{l:List α}{x:Opd}{hi:Option Opd}(hx:ro E x=some (.one (.f (.sl e n (l.flatMap f)))))(hhi:VT E n hi=some b)(h2:b<=l.length)(hn:l.length=n)(hf:∀x,(f x).length=e)(h:DPW p base rs Q r W A (qI E dst (.one (.f (.sl e (l.take b).length ((l.take b).flatMap f))))) S nk):DPW p base rs Q (⟨id,dst,.p (.slice e x none hi none),none,aid,ws,keep⟩::r) W A E S nk:=Zd hx rfl hhi (Xa _) h2 hn hf h
theorem xT{op:SOp}{g:Nat}{P:Prop}{inst:Decidable P}{want:Bool}(hg:lk E g=some (.bool (@decide P inst)))(h1:P->DPW p base rs Q (⟨id,dst,op,some (g,want),aid,ws,keep⟩::r) W A ((g,.bool true)::E) S nk)(h2:¬P->DPW p base rs Q (⟨id,dst,op,some (g,want),aid,ws,keep⟩::r) W A ((g,.bool false)::E) S nk):DPW p base rs Q (⟨id,dst,op,some (g,want),aid,ws,keep⟩::r) W A E S nk:=xG hg (fun h=>h1 (xo h)) fun h=>h2 (zK h)
theorem zH{op:SOp}{g:Nat}{x y:Int}{want:Bool}(hg:lk E g=some (.bool (x==y)))(h1:x=y->DPW p base rs Q (⟨id,dst,op,some (g,want),aid,ws,keep⟩::r) W A ((g,.bool true)::E) S nk)(h2:x≠y->DPW p base rs Q (⟨id,dst,op,some (g,want),aid,ws,keep⟩::r) W A ((g,.bool false)::E) S nk):DPW p base rs Q (⟨id,dst,op,some (g,want),aid,ws,keep⟩::r) W A E S nk:=xG hg (fun h=>h1 (by simpa using h)) fun h=>h2 (by simpa using h)
theorem yf{op:SOp}{g:Nat}{x y:Int}{want:Bool}(hg:lk E g=some (.bool (x !=y)))(h1:x≠y->DPW p base rs Q (⟨id,dst,op,some (g,want),aid,ws,keep⟩::r) W A ((g,.bool true)::E) S nk)(h2:x=y->DPW p base rs Q (⟨id,dst,op,some (g,want),aid,ws,keep⟩::r) W A ((g,.bool false)::E) S nk):DPW p base rs Q (⟨id,dst,op,some (g,want),aid,ws,keep⟩::r) W A E S nk:=xG hg (fun h=>h1 (by simpa using h)) fun h=>h2 (by simpa using h)
theorem Gn{x y:Opd}{a b:Int}(hx:ro E x=some (.int a))(hy:ro E y=some (.int b))(hb:0<=b)(h:∀v,v=IntKind.i64.wrap (a*2^(min b.toNat 64))->DPW p base rs Q r W A (qI E dst (.int v)) S nk):DPW p base rs Q (⟨id,dst,.p (.bin .shl x y),none,aid,ws,keep⟩::r) W A E S nk:=
 yP (fun {Z β H F} hE=>⟨.one (.int .i64 (IntKind.i64.wrap (a*2^(min b.toNat 64)))),by simp [qp,xj hE hx,xj hE hy,Zt,show¬b<0 by omega,show IntKind.i64.bits=64 from rfl],yg rfl⟩) (h _ rfl)
theorem Gm{x y:Opd}{k:IntKind}{a b:Int}(hx:ro E x=some (.one (.f (.c (.int k a)))))(hy:ro E y=some (.int b))(hb:0<=b)(h:∀v,v=a.fdiv (2^(min b.toNat k.bits))->DPW p base rs Q r W A (qI E dst (.one (.f (.c (.int k v))))) S nk):DPW p base rs Q (⟨id,dst,.p (.bin .shr x y),none,aid,ws,keep⟩::r) W A E S nk:=
 yP (fun {Z β H F} hE=>⟨.one (.int k (a.fdiv (2^(min b.toNat k.bits)))),by simp [qp,xj hE hx,xj hE hy,Zt,show¬b<0 by omega],yg rfl⟩) (h _ rfl)
theorem QU {α:Type} [Inhabited α] {f:α->List FD} {e i c n:Nat} {l:List α} (y:α) {a v:Opd} {k o:Nat} {d:DV} {q:List FD} (ha:ro E a=some (.one (.ptr k o))) (ho:o=i*e+c) (hv:ro E v=some d) (hl:qq d=some (q.map DC.f)) (hn:q.length=n) (hk:lk S k=some (.data (l.flatMap f))) (hi:i<l.length) (hf:∀x,(f x).length=e) (hc:c+n<=e) (hy:f y=setLs (f (l.getD i default)) c q) (hw:X4 S k W=true)
 (h:DPW p base rs Q r W A (qI E dst .undef) (put k (.data ((l.set i y).flatMap f)) S) nk):DPW p base rs Q (⟨id,dst,.e (.store n a v),none,aid,ws,keep⟩::r) W A E S nk:=by
 have hlen:=qO hf l;have hle:(i+1)*e<=l.length*e:=X1 _ hi;rw [wW,Nat.one_mul] at hle;refine wh ha hv hl (by rw [xX,hn]) hk (by show o+n<=(l.flatMap f).length;omega) hw ?_;rw [show Zw (.data (l.flatMap f)) o (q.map DC.f)=.data ((l.set i y).flatMap f) by simp only [Zw,RZ];rw [ho,e9 hf (by omega) hi hy]];exact h
end
def G9(E0:qk)(S0:Bx)(E:qk)(S:Bx):List (Nat × Nat):=(oE E0 S0 E S).filter fun q=>!(Nat.beq q.1 q.2)
section
variable{p:Par}{E:qk}{S:Bx}
theorem Tm{I:Nat->qk->Bx->Nat->Prop}{m n0:Nat}{E0:qk}{S0:Bx}(h3:I m E0 S0 n0)(h2:Wk p (G9 E0 S0 E S) n0 E0 S0 E S):∃m E0 S0 n0 ρ,Wk p ρ n0 E0 S0 E S/\I m E0 S0 n0:=⟨m,E0,S0,n0,_,h2,h3⟩
theorem sW{I:Nat->qk->Bx->Nat->Prop}{m m' n0:Nat}{E0:qk}{S0:Bx}(h1:m'<m)(h3:I m' E0 S0 n0)(h2:Wk p (G9 E0 S0 E S) n0 E0 S0 E S):∃m',m'<m/\∃E0 S0 n0 ρ,Wk p ρ n0 E0 S0 E S/\I m' E0 S0 n0:=⟨m',h1,E0,S0,n0,_,h2,h3⟩
end
theorem yF{p:Par}{n:Nat}{Q:Exit->qk->Bx->Nat->Prop}{E:qk}{S:Bx}{nk:Nat}{s:SC}{E0:qk}{S0:Bx}{n0:Nat}(hw:Wk p (G9 E0 S0 E S) n0 E0 S0 E S)(h:DPS p n s Q E0 S0 n0):DPS p n s Q E S nk:=W6 _ hw h
theorem O3{p:Par}{base rs:Nat}{Q:qk->Bx->Nat->Prop}{r:List SOper}{A:List Nat}{E:qk}{S:Bx}{nk:Nat}{E0:qk}{S0:Bx}{n0:Nat}(hw:Wk p (G9 E0 S0 E S) n0 E0 S0 E S)(h:DPW p base 0 Q r [] A E0 S0 n0):DPW p base rs Q r [] A E S nk:=Sb _ hw rfl h
abbrev zD{α:Type}(g:α->FD)(R:List (List α)):List (List FD):=R.map (List.map g)
theorem eU{α:Type}{g:α->FD}{R:List (List α)}{i:Nat}(h:i<R.length):(zD g R)[i]?=some ((R.getD i default).map g):=by
 rw [jH,zge h,qT,zge h];rfl
theorem Mx{α:Type}[Inhabited α]{g:α->FD}{r:List α}{i:Nat}(h:i<r.length):(r.map g)[i]?=some (g (r.getD i default)):=by
 rw [jH,zge h,qT,zge h];rfl
theorem lH{α:Type}{g:α->FD}{R:List (List α)}{i:Nat}{r:List α}:(zD g R).set i (r.map g)=zD g (R.set i r):=by
 simp [zD,eQ]
section
variable{p:Par}{base rs:Nat}{Q:qk->Bx->Nat->Prop}{r:List SOper}{W:Wt}{A:List Nat}{E:qk}{S:Bx}{nk:Nat}{id:Nat}{dst:Option Nat}{aid:Option Nat}{ws:List Nat}{keep:Bool}
theorem BA{α:Type}{g:α->FD}{n k o:Nat}{a:Opd}{R:List (List α)}(ha:ro E a=some (.one (.ptr k o)))(hk:lk S k=some (.tree (zD g R)))(ho:o<R.length):jB p E S false n a=some (.one (.trow k o 0 (R.getD o default).length)):=by
 have:=xE (p:=p) (n:=n) ha hk (eU ho)
 rwa [xX] at this
theorem pF{α:Type}[Inhabited α]{g:α->FD}{n k i o:Nat}{a:Opd}{R:List (List α)}(ha:ro E a=some (.one (.tptr k i o)))(hk:lk S k=some (.tree (zD g R)))(hi:i<R.length)(ho:o<(R.getD i default).length):jB p E S false n a=some (.one (.f (g ((R.getD i default).getD o default)))):=
 xF ha hk (eU hi) (Mx ho)
theorem Nx{esz:Nat}{x i:Opd}{k n:Nat}{kd:IntKind}{j:Nat}(hx:ro E x=some (.one (.own k 0 n esz)))(hi:ro E i=some (.one (.f (.c (.int kd (j:Nat))))))(h1:j<n)(h:DPW p base rs Q r W A (qI E dst (.one (.ptr k (j*esz)))) S nk):DPW p base rs Q (⟨id,dst,.p (.iaddr esz x i),none,aid,ws,keep⟩::r) W A E S nk:=kY hx hi oM oM h
theorem FI{x i:Opd}{k n:Nat}{kd:IntKind}{j:Nat}(hx:ro E x=some (.one (.own k 0 n 1)))(hi:ro E i=some (.one (.f (.c (.int kd (j:Nat))))))(h1:j<n)(h:DPW p base rs Q r W A (qI E dst (.one (.ptr k j))) S nk):DPW p base rs Q (⟨id,dst,.p (.iaddr 1 x i),none,aid,ws,keep⟩::r) W A E S nk:=kX hx hi oM oM h
theorem O7{x i:Opd}{k t n:Nat}{kd:IntKind}{j:Nat}(hx:ro E x=some (.one (.trow k t 0 n)))(hi:ro E i=some (.one (.f (.c (.int kd (j:Nat))))))(h1:j<n)(h:DPW p base rs Q r W A (qI E dst (.one (.tptr k t j))) S nk):DPW p base rs Q (⟨id,dst,.p (.iaddr 1 x i),none,aid,ws,keep⟩::r) W A E S nk:=kW hx hi oM oM h
theorem Nw{α:Type}[Inhabited α]{f:α->List FD}{e n:Nat}{l:List α}{x i:Opd}{kd:IntKind}(hx:ro E x=some (.one (.f (.sl e n (l.flatMap f)))))(hi:ro E i=some (.one (.f (.c (.int kd 1)))))(h1:1<l.length)(hn:l.length=n)(he:0<e)(hf:∀a,(f a).length=e)(h:DPW p base rs Q r W A (qI E dst (.one (.fptr (f (l.getD 1 default))))) S nk):DPW p base rs Q (⟨id,dst,.p (.iaddr e x i),none,aid,ws,keep⟩::r) W A E S nk:=vS (j:=1) hx hi h1 hn he hf h
theorem Gs{x i:Opd}{k n:Nat}{kd:IntKind}(hx:ro E x=some (.one (.own k 0 n 1)))(hi:ro E i=some (.one (.f (.c (.int kd 0)))))(h1:0<n)(h:DPW p base rs Q r W A (qI E dst (.one (.ptr k 0))) S nk):DPW p base rs Q (⟨id,dst,.p (.iaddr 1 x i),none,aid,ws,keep⟩::r) W A E S nk:=FI (j:=0) hx hi h1 h
theorem Gq{x i:Opd}{k t n:Nat}{kd:IntKind}(hx:ro E x=some (.one (.trow k t 0 n)))(hi:ro E i=some (.one (.f (.c (.int kd 0)))))(h1:0<n)(h:DPW p base rs Q r W A (qI E dst (.one (.tptr k t 0))) S nk):DPW p base rs Q (⟨id,dst,.p (.iaddr 1 x i),none,aid,ws,keep⟩::r) W A E S nk:=O7 (j:=0) hx hi h1 h
theorem ZS {α:Type} {g:α->FD} {R:List (List α)} {i o k:Nat} (y:α) {a v:Opd} (ha:ro E a=some (.one (.tptr k i o))) (hv:ro E v=some (.one (.f (g y)))) (hk:lk S k=some (.tree (zD g R))) (hi:i<R.length) (ho:o<(R.getD i default).length) (hw:QF S k W=true)
 (h:DPW p base rs Q r W A (qI E dst .undef) (put k (.tree (zD g (R.set i ((R.getD i default).set o y)))) S) nk):DPW p base rs Q (⟨id,dst,.e (.store 1 a v),none,aid,ws,keep⟩::r) W A E S nk:=by
 refine Yq ha hv hk (eU hi) (by rw [xX];exact ho) hw ?_;rw [show ((R.getD i default).map g).set o (g y)=((R.getD i default).set o y).map g by simp [eQ],lH];exact h
theorem Vu{α:Type}{f:α->List FD}{g:α->FD}(hf:∀x,f x=[g x])(l:List α):l.flatMap f=l.map g:=by
 induction l with
 |nil=>rfl
 |cons x l ih=>rw [wB,hf,ih];rfl
theorem pA {α:Type} {f:α->List FD} {g:α->FD} {R:List (List α)} {a v:Opd} {k k' o n:Nat} {q:List α} (hf:∀x,f x=[g x]) (ha:ro E a=some (.one (.ptr k o))) (hv:ro E v=some (.one (.own k' 0 n 1))) (hk:lk S k=some (.tree (zD g R))) (hk':lk S k'=some (.data (q.flatMap f))) (hn:q.length=n) (ho:o<R.length) (hw:QF S k W=true)
 (h:DPW p base rs Q r W A (qI (zx (Md k nk) E) dst .undef) ((nk,.tree (zD g (R.set o q)))::zx (KD k nk) (xP k' (xP k S))) (nk+1)):DPW p base rs Q (⟨id,dst,.e (.store 1 a v),none,aid,ws,keep⟩::r) W A E S nk:=by
 refine AS ha hv hk (by rw [hk',Vu hf]) (by rw [xX];exact hn) (by rw [xX];exact ho) hw ?_;rw [lH];exact h
end
theorem Xl{α:Type}{f:α->List FD}{g:α->FD}(hf:∀x,f x=[g x]):∀R:List (List α),(zD g R).map xn=R.flatMap fun r=>[FD.sl 1 r.length (r.flatMap f)]
 |[]=>rfl
 |r::R=>by
  rw [wB,<-Xl hf R];simp [zD,xn,Vu hf]
theorem SB{α:Type}{f:α->List FD}{g:α->FD}{S:Bx}{k n:Nat}{R:List (List α)}(hf:∀x,f x=[g x])(hk:lk S k=some (.tree (zD g R)))(hn:R.length=n):rR S (.one (.own k 0 n 1)) (.one (.f (.sl 1 R.length (R.flatMap fun r=>[.sl 1 r.length (r.flatMap f)])))):=by
 have hv:V2 S (.own k 0 n 1) (.f (.sl 1 R.length (R.flatMap fun r=>[.sl 1 r.length (r.flatMap f)])))↔(match lk S k with
  |some (.tree rows)=>0=0/\n=rows.length/\1=1/\(DC.f (.sl 1 R.length (R.flatMap fun r=>[.sl 1 r.length (r.flatMap f)])))=.f (.sl 1 n (rows.map xn))
  |_=>∃l q,lk S k=some (.data l)/\xd l 0 (n*1)=some q/\(DC.f (.sl 1 R.length (R.flatMap fun r=>[.sl 1 r.length (r.flatMap f)])))=.f (.sl 1 n q)):=Iff.rfl
 refine⟨_,O,hv.2 ?_⟩;rw [hk];subst hn;exact⟨O,by rw [xX],rfl,by rw [Xl hf]⟩
end Go.Ab
namespace Go.Ai
open Go.Ab Go.Proofs
theorem qc{P Q:Prop}(k:Q)(h:Hid Q->P:=by intro goH;(repeat (first|refine jO O O ?_|refine wO O O ?_|refine wq O ?_|refine wr O O ?_|refine wu O O ?_|refine vK O O ?_|refine vJ O O ?_|refine A4 O O (by first|omega|(simp only [qE,xA,zR,xN,xS,zS];omega)) ?_|refine AQ O O (by first|omega|(simp only [qE,xA,zR,xN,xS,zS];omega)) ?_|refine AZ O O (by omega) ?_|refine mZ O O (by omega) (by omega) ?_|refine mY O O (by omega) ?_|refine AX O (by omega) ?_|refine AY O (by omega) ?_|refine AU O (by omega) ?_|refine AV O (by omega) ?_|refine AW O (by omega) ?_|refine iK O (by omega) ?_|refine zi O ?_|refine xZ O ?_|refine xH O ?_|refine VD O O (by omega) (by first|rfl|omega|simp) (by decide) (fun _=>O) ?_|refine Nw O O (by omega) (by first|rfl|omega|simp) (by decide) (fun _=>O) ?_|refine vS O O (by omega) (by first|rfl|omega|simp) (by decide) (fun _=>O) ?_|refine VC O O (by omega) (by omega) (by first|rfl|omega|simp) (by decide) (fun _=>O) ?_|refine Gq O O (by omega) ?_|refine Gs O O (by omega) ?_|refine O7 O O (by omega) ?_|refine FI O O (by omega) ?_|refine Nx O O (by omega) ?_|refine xZ (BA O O (by omega)) ?_|refine xH (BA O O (by omega)) ?_|refine xZ (pF O O (by omega) (by omega)) ?_|refine xH (pF O O (by omega) (by omega)) ?_|refine kX O O (by omega) (by omega) ?_|refine kY O O (by omega) (by omega) ?_|refine kW O O (by omega) (by omega) ?_|refine xZ (xJ O O (by assumption) O) ?_|refine xH (xJ O O (by assumption) O) ?_|refine xZ (xE O O (by assumption)) ?_|refine xH (xE O O (by assumption)) ?_|refine xZ (xF O O (by assumption) (by assumption)) ?_|refine xH (xF O O (by assumption) (by assumption)) ?_|refine Qf O ?_|refine XU O O O ?_|refine wh O O O O O (jP O) O ?_|refine Ze O O O ⟨O,O,_,O,O⟩ (by first|rfl|omega|simp) (by first|omega|(simp only [qE,xA,zR,xN,xS,zS];omega)) (by first|omega|(simp only [qE,xA,zR,xN,xS,zS];omega)) (by decide) (fun _=>O) O ?_|refine iM _ O O O ⟨O,O,O⟩ (by first|rfl|omega|simp) (by first|omega|(simp only [qE,xA,zR,xN,xS,zS];omega)) (by first|omega|(simp only [qE,xA,zR,xN,xS,zS];omega)) (by decide) O ?_|refine zn _ O O O ⟨O,O,O⟩ (by first|rfl|omega|simp) (by first|rfl|omega|simp) (by first|omega|(simp only [qE,xA,zR,xN,xS,zS];omega)) (by first|omega|(simp only [qE,xA,zR,xN,xS,zS];omega)) (by decide) (fun _=>O) O ?_|refine zn _ O O O ⟨O,O,_,O,qD _ (qO (fun _=>by rfl) _)⟩ (by first|rfl|omega|simp) (by first|rfl|omega|simp) (by first|omega|(simp only [qE,xA,zR,xN,xS,zS];omega)) (by first|omega|(simp only [qE,xA,zR,xN,xS,zS];omega)) (by decide) (fun _=>O) O ?_|refine QV qU (0:Int) O O ⟨O,O,trivial⟩ O (by decide) (by omega) (by omega) (by omega) ?_|refine We qU (0:Int) O O O O ⟨O,O,trivial⟩ O (by decide) (by omega) (by omega) (by omega) ?_|refine QV yL (0:Int) O O ⟨O,O,trivial⟩ O (by decide) (by omega) (by omega) (by omega) ?_|refine QV Zj false O O ⟨O,O,trivial⟩ O (by decide) (by omega) (by omega) (by omega) ?_|refine jd ?_|refine yn ?_|refine yv vB (fun base=>?_)|refine kC ?_|refine jT ?_|refine yW ?_|refine A5 O ?_|refine iO O ?_));first|exact goH.get|(revert base;exact goH.get)):P:=h ⟨k⟩
theorem qS{p:Par}{base rs:Nat}{Q:qk->Bx->Nat->Prop}{r:List SOper}{W:Wt}{A:List Nat}{E:qk}{S:Bx}{nk:Nat}{id:Nat}{dst:Option Nat}{aid:Option Nat}{ws:List Nat}{keep:Bool}{f:FuncId}{args:List Opd}{ds:List DV}{v:DV}{K:Prop}(hvs:Zx E args=some ds)(hf:xa ZB ds=true)(hc:yR p.P p.G p.GH f ds fun d=>d=v)(k:K)(h:Hid K->DPW p base rs Q r W A (qI E dst v) S nk:=by intro goH;refine qc ?_;exact goH.get):DPW p base rs Q (⟨id,dst,.cf f args,none,aid,ws,keep⟩::r) W A E S nk:=qf hvs hf hc (by rintro _ rfl;exact h ⟨k⟩)
theorem jJ{P:Prop}(h:P:=by refine qc ?_;intros;exact qb ⟨_,O,O,O⟩):P:=h
theorem xr{f:FuncId}{ds:List DV}{R:DV->Prop}{n:Nat}{code:SC}{res:List SRes}{K:Prop}(k:K)(hf:yr Tryz.prog GN f=some ⟨n,code,res⟩/\Nat.ble ds.length n=true:=by constructor;(set_option maxRecDepth 100000 in (conv=>lhs;reduce;simp only [Int.reduceOfNat,Int.reduceNegSucc]));rfl)(h:Hid K->∀Z0 lo,DPS (Par.base Tryz.prog GN (H00 1) Z0 lo) n code (Jt (Par.base Tryz.prog GN (H00 1) Z0 lo) res R) (jC ds 0) [] 0:=by intro goH Z0 lo;refine qc ?_;revert Z0 lo;exact goH.get):DK f ds R:=je hf.1 hf.2 ko (h ⟨k⟩)
end Go.Ai
