/- The card of TactileMatchesReference: for every input the law returns true, and the arguments read afterwards as before. -/
import Derived.Test.YtbfbplnghpdmhaaGreatDoorAb22
import Derived.Test.YtbfbplnghpdmhaaGreatDoorCards
import Derived.Test.YtbfbplnghpdmhaaGreatDoorTie
import Derived.WalkKit
import Derived.ProofKit
import Derived.Deep.DeepHandedRow
import Derived.Lib.LaidTab
set_option linter.unusedSimpArgs false
set_option linter.unusedVariables false
namespace Go.Proofs.YtbfbplnghpdmhaaGreatDoor.tactileMatchesReference
open Go.ChangeShapes Go.WideShapes Go.ChangeAt Go.RowKit Go.Ab
theorem own:ownKnob Tryz.prog.godebug=none:=by kernel_rfl
theorem OW:laidOutB Tryz.prog=true:=by kernel_rfl
theorem H0:wO Tryz.prog 8 1 Rows.tactileMatchesReferenceRow.laid ⟨.lf,1⟩=Go.Ag.H00 1:=by kernel_rfl
theorem dsc:Jw Tryz.prog 8 Tryz.f3.params.toList=some [Go.Ag.rawT,.slice (.agg (.pair (.int .u8) (.pair (.int .u8) .unit)))]:=by kernel_rfl
theorem qp4:Tryz.f3.resultTypes=#[4]:=by kernel_rfl
theorem FI:(Tryz.f3.params.toList.all fun t=>Tryz.prog.readableRec t&&decide (t<Tryz.prog.types.size))=true:=by kernel_rfl
theorem OG:Tryz.f3.params.toList.length=2:=by kernel_rfl
set_option maxRecDepth 100000 in
theorem contract (X:Type) (enc:TypeId × Value->X) (W:World) (base:Nat) (args:Array Value) (ds gs:List (DataW X)) (xp:List MemPlace)
 (hval:∀(j:Nat) t v,Tryz.f3.params[j]?=some t->args[j]?=some v->Value.okWide Tryz.prog W .any base t v)
 (hW:DataW.Whole enc Tryz.prog Tryz.f3.params.toList Rows.tactileMatchesReferenceSpec.vars false W args.toList ds gs xp) (hL:laidMetH Tryz.prog Rows.tactileMatchesReferenceRow.laid W):
 Calls Tryz.prog 3 args W fun e W'=>∃v,e=.returned v/\Rows.tactileMatchesReferenceSpec.post enc Tryz.prog Tryz.f3 false true false false W args v W':=by
 refine lO (n:=8) (G:=1) OW FI dsc rfl qp4 Tryz.underlying4 (fun l hl=>?_) H0 W base args _ gs xp ?_ hval hW hL
 ·rw [OG] at hl
  match l,hl with
  |[_,_],_=>rfl
 ·rintro H ⟨a,b,u⟩ vs hw hx-hr -;refine Go.Ab.deep_law (GH:=Go.Ag.H00 1) (fun hok=>?_) hw (fun b bk h=>hx.get b bk h) hr;refine (?_:yg _ _ _ _ [dB _ a,dB _ b] _);have h:=Go.Ag.d_tmatches (L:=Go.Ag.pu8R b) (Go.Ag.rawR_ok hok.1) (Go.Ag.pu8R_ok hok.2.1);exact Go.Ag.conv2 (F:=fun z w=>Go.Ag.DK 3 [z,w] fun d=>d=.bool true) (Go.Ag.rawR_d a) (Go.Ag.pu8R_d b) h
noncomputable def laidWorld (os:Os):World:=
 { World.holding Tryz.prog os ⟨#[],#[],[]⟩ with heap:=(World.holding Tryz.prog os ⟨#[],#[],[]⟩).heap.modify 0 fun
  |.cells _ t frozen=>.cells #[.int .u8 1,.int .u8 3,.int .u8 9,.int .u8 25,.int .u8 17,.int .u8 11,.int .u8 27,.int .u8 19] t frozen
  |o=>o }
def wargs:Array Value:=#[.agg #[.int .u8 0,.int .u8 0,.int .u8 0,.slice none 0 0],.slice none 0 0]
theorem laid_met(os:Os):laidMet Tryz.prog Rows.tactileMatchesReferenceRow.laid ((laidWorld os).forCall (fun _ _=>0) ⟨#[],wargs,[]⟩).memory:=
 laidMet_of_run' 8 (by kernel_rfl) (by kernel_rfl)
theorem reads(os:Os){H:Type}(enc:TypeId × Value->H):∃places,DataW.whole enc Tryz.prog ((laidWorld os).forCall (fun _ _=>0) ⟨#[],wargs,[]⟩).memory Tryz.f3.params.toList Rows.tactileMatchesReferenceSpec.vars false wargs.toList 8=some ([.agg [.lit (.int .u8 0),.lit (.int .u8 0),.lit (.int .u8 0),.nil],.nil],[],places):=
 ⟨[],by kernel_rfl⟩
set_option maxRecDepth 100000 in
theorem lifted(os:Os)(started:os.Started)(H:Type)(enc:TypeId × Value->H)(F:Stop.Interp):
 ReturnsInHanded {} Tryz.checked os 3 .any ((OpenSpec.ofChange Rows.tactileMatchesReferenceSpec).preRow enc Tryz.prog Tryz.f3 Rows.tactileMatchesReferenceRow.domain false Rows.tactileMatchesReferenceRow.laid) (((OpenSpec.ofChange Rows.tactileMatchesReferenceSpec).at F).post enc Tryz.prog Tryz.f3 false true false false):=by
 obtain⟨places,hx⟩:=reads os enc;refine returnsInHanded_of_row (C:=Tryz.checked) (s:=OpenSpec.ofChange Rows.tactileMatchesReferenceSpec) own started (by kernel_rfl) Tryz.func3
  (witness_row_at (enc:=enc) (C:=Tryz.checked) false (laidWorld os) wargs rfl (by kernel_rfl) (by kernel_rfl) (by kernel_rfl)
   (OpenSpec.preRow_of_cond 8 hx (by kernel_rfl) (fun k hk=>by cases hk) (by kernel_rfl) (laid_met os))) ?_
 intro W base args ds gs xp hval hW _ _ _ hL _ _;exact contract H enc W base args ds gs xp hval hW hL
theorem said:Rows.TactileMatchesReferenceSaid:=
 OpenClaim.holds_of_cond 3 Tryz.f3 rfl rfl rfl rfl rfl rfl rfl ⟨rfl,rfl,rfl,rfl,rfl⟩ rfl rfl rfl rfl rfl (by kernel_rfl) Tryz.func3 (by kernel_rfl)
  (xC (by kernel_rfl)) (by unfold Func.isWrapper;first|(rw [if_pos (by decide+kernel)];kernel_rfl)|(rw [if_neg (by decide+kernel)];exact⟨rfl,rfl⟩))
  (fun os started H enc _ F=>by rw [OpenClaim.pre_eq_preRow];exact lifted os started H enc F)
theorem plain(f:FuncId)(fn:Func)(hf:Tryz.pinned.checked.prog.funcNamed Rows.tactileMatchesReferenceRow.func=some f)(hfn:Tryz.pinned.checked.prog.funcs[f]?=some fn):
 false=Tryz.pinned.checked.prog.looks []/\∀(j:Nat) t,fn.params[j]?=some t->Tryz.pinned.checked.prog.wantsStandIn t=false:=by
 obtain rfl:f=3:=zsi ((show Tryz.prog.funcNamed Rows.tactileMatchesReferenceRow.func=some 3 by kernel_rfl).symm.trans hf) |>.symm;obtain rfl:fn=Tryz.f3:=(zsi (Tryz.func3.symm.trans hfn)).symm;refine⟨by kernel_rfl,fun j t ht=>?_⟩;have hall:(Tryz.f3.params.toList.all fun t=>!Tryz.prog.wantsStandIn t)=true:=by kernel_rfl
 have hm:t∈Tryz.f3.params.toList:=by simpa using Array.mem_of_getElem? ht
 have h:=List.all_eq_true.1 hall t hm;have h2:Tryz.prog.wantsStandIn t=false:=by simpa using h
 exact h2
theorem card:Rows.TactileMatchesReferenceCardSaid:=
 Claim7.holds_tied_plain_at .later [] _ _ _ _ said (fun _ h=>by cases h) (by kernel_rfl) (fun _ h=>by cases h) tactileMatchesReference_row_tie rfl ⟨rfl,rfl⟩ (by kernel_rfl) rfl plain (by kernel_rfl)
#print axioms card
end Go.Proofs.YtbfbplnghpdmhaaGreatDoor.tactileMatchesReference
