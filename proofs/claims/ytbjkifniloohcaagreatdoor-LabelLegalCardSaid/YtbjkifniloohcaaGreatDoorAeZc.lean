/- The card of LabelLegal: for every input the law returns true, and the arguments read afterwards as before. -/
import Derived.Test.YtbjkifniloohcaaGreatDoorAb11
import Derived.Test.YtbjkifniloohcaaGreatDoorCards
import Derived.Test.YtbjkifniloohcaaGreatDoorTie
import Derived.WalkKit
import Derived.ProofKit
import Derived.Deep.DeepHandedRow
import Derived.Lib.LaidTab
set_option linter.unusedVariables false
set_option linter.unusedSimpArgs false
namespace Go.Proofs.YtbjkifniloohcaaGreatDoor.labelLegal
open Go.ChangeShapes Go.WideShapes Go.ChangeAt Go.RowKit Go.Ab
theorem own : ownKnob Tryz.prog.godebug = none := by kernel_rfl
theorem laidOut : laidOutB Tryz.prog = true := by kernel_rfl
theorem H0 : layLaid Tryz.prog 8 1 Rows.labelLegalRow.laid ⟨.lf, 1⟩ = Go.Ae.H00 1 := by kernel_rfl
theorem dsc : descs Tryz.prog 8 Tryz.f7.params.toList = some [Go.Ae.rawT, .slice (.agg (.pair (.int .i8) (.pair (.int .i8) .unit))), .agg (.pair (.int .i8) (.pair (.int .i8) (.pair (.int .i8) .unit)))] := by kernel_rfl
theorem resT : Tryz.f7.resultTypes = #[4] := by kernel_rfl
theorem readable : (Tryz.f7.params.toList.all fun t => Tryz.prog.readableRec t && decide (t < Tryz.prog.types.size)) = true := by kernel_rfl
theorem nparams : Tryz.f7.params.toList.length = 3 := by kernel_rfl
set_option maxRecDepth 100000 in
theorem contract (X : Type) (enc : TypeId × Value -> X) (W : World) (base : Nat) (args : Array Value) (ds gs : List (DataW X)) (before : List MemPlace)
  (hval : ∀ (j : Nat) t v, Tryz.f7.params[j]? = some t -> args[j]? = some v -> Value.okWide Tryz.prog W .any base t v)
  (hW : DataW.Whole enc Tryz.prog Tryz.f7.params.toList Rows.labelLegalSpec.vars false W args.toList ds gs before) (hL : laidMetH Tryz.prog Rows.labelLegalRow.laid W) :
  Calls Tryz.prog 7 args W fun e W' => ∃ v, e = .returned v /\ Rows.labelLegalSpec.post enc Tryz.prog Tryz.f7 false true false false W args v W' := by
 refine law_contract (n := 8) (G := 1) laidOut readable dsc rfl resT Tryz.underlying4 (fun l hl => ?_) H0 W base args _ gs before ?_ hval hW hL
 ·rw [nparams] at hl
  match l, hl with
  | [_, _, _], _ => rfl
 ·rintro H ⟨a, b, c, u⟩ vs hw hx - hr -
  refine Go.Ab.deep_law (GH := Go.Ae.H00 1) (fun hok => ?_) hw (fun b bk h => hx.get b bk h) hr
  refine (?_ : DCalls _ _ _ _ [argD _ a, argD _ b, argD _ c] _)
  have h := Go.Ae.d_llegal (L := Go.Ae.pi8R b) (Go.Ae.rawR_ok hok.1) (Go.Ae.pi8R_ok hok.2.1) (Go.Ae.wf_i8 hok.2.2.1.1) (Go.Ae.wf_i8 hok.2.2.1.2.1) (Go.Ae.wf_i8 hok.2.2.1.2.2.1)
  exact Go.Ae.conv2 (F := fun z w => Go.Ae.DK 7 [z, w, _] fun d => d = .bool true) (Go.Ae.rawR_d a) (Go.Ae.pi8R_d b) h
noncomputable def laidWorld (os : Os) : World :=
 { World.holding Tryz.prog os ⟨#[], #[], []⟩ with heap := (World.holding Tryz.prog os ⟨#[], #[], []⟩).heap.modify 0 fun
   | .cells _ t frozen => .cells #[.int .u8 1, .int .u8 3, .int .u8 9, .int .u8 25, .int .u8 17, .int .u8 11, .int .u8 27, .int .u8 19] t frozen
   | o => o }
def wargs : Array Value := #[.agg #[.int .u8 0, .int .u8 0, .int .u8 0, .slice none 0 0], .slice none 0 0, .agg #[.int .i8 0, .int .i8 0, .int .i8 0]]
theorem laid_met (os : Os) : laidMet Tryz.prog Rows.labelLegalRow.laid ((laidWorld os).forCall (fun _ _ => 0) ⟨#[], wargs, []⟩).memory :=
 laidMet_of_run' 8 (by kernel_rfl) (by kernel_rfl)
theorem reads (os : Os) {H : Type} (enc : TypeId × Value -> H) : ∃ places, DataW.whole enc Tryz.prog ((laidWorld os).forCall (fun _ _ => 0) ⟨#[], wargs, []⟩).memory Tryz.f7.params.toList Rows.labelLegalSpec.vars false wargs.toList 8 = some ([.agg [.lit (.int .u8 0), .lit (.int .u8 0), .lit (.int .u8 0), .nil], .nil, .agg [.lit (.int .i8 0), .lit (.int .i8 0), .lit (.int .i8 0)]], [], places) :=
 ⟨[], by kernel_rfl⟩
set_option maxRecDepth 100000 in
theorem lifted (os : Os) (started : os.Started) (H : Type) (enc : TypeId × Value -> H) (F : Stop.Interp) :
  ReturnsInHanded {} Tryz.checked os 7 .any ((OpenSpec.ofChange Rows.labelLegalSpec).preRow enc Tryz.prog Tryz.f7 Rows.labelLegalRow.domain false Rows.labelLegalRow.laid) (((OpenSpec.ofChange Rows.labelLegalSpec).at F).post enc Tryz.prog Tryz.f7 false true false false) := by
 obtain ⟨places, hx⟩ := reads os enc
 refine returnsInHanded_of_row (C := Tryz.checked) (s := OpenSpec.ofChange Rows.labelLegalSpec) own started (by kernel_rfl) Tryz.func7
  (witness_row_at (enc := enc) (C := Tryz.checked) false (laidWorld os) wargs rfl (by kernel_rfl) (by kernel_rfl) (by kernel_rfl)
   (OpenSpec.preRow_of_cond 8 hx (by kernel_rfl) (fun k hk => by cases hk) (by kernel_rfl) (laid_met os))) ?_
 intro W base args ds gs before hval hW _ _ _ hL _ _
 exact contract H enc W base args ds gs before hval hW hL
theorem said : Rows.LabelLegalSaid :=
 OpenClaim.holds_of_cond 7 Tryz.f7 rfl rfl rfl rfl rfl rfl rfl ⟨rfl, rfl, rfl, rfl, rfl⟩ rfl rfl rfl rfl rfl (by kernel_rfl) Tryz.func7 (by kernel_rfl)
  (of_decide_eq_true (by kernel_rfl)) (by unfold Func.isWrapper; first|(rw [if_pos (by decide +kernel)]; kernel_rfl)|(rw [if_neg (by decide +kernel)]; exact ⟨rfl, rfl⟩))
  (fun os started H enc _ F => by rw [OpenClaim.pre_eq_preRow]; exact lifted os started H enc F)
theorem plain (f : FuncId) (fn : Func) (hf : Tryz.pinned.checked.prog.funcNamed Rows.labelLegalRow.func = some f) (hfn : Tryz.pinned.checked.prog.funcs[f]? = some fn) :
  false = Tryz.pinned.checked.prog.looks [] /\ ∀ (j : Nat) t, fn.params[j]? = some t -> Tryz.pinned.checked.prog.wantsStandIn t = false := by
 obtain rfl : f = 7 := Option.some.inj ((show Tryz.prog.funcNamed Rows.labelLegalRow.func = some 7 by kernel_rfl).symm.trans hf) |>.symm
 obtain rfl : fn = Tryz.f7 := (Option.some.inj (Tryz.func7.symm.trans hfn)).symm
 refine ⟨by kernel_rfl, fun j t ht => ?_⟩
 have hall : (Tryz.f7.params.toList.all fun t => !Tryz.prog.wantsStandIn t) = true := by kernel_rfl
 have hm : t ∈ Tryz.f7.params.toList := by simpa using Array.mem_of_getElem? ht
 have h := List.all_eq_true.1 hall t hm
 have h2 : Tryz.prog.wantsStandIn t = false := by simpa using h
 exact h2
theorem card : Rows.LabelLegalCardSaid :=
 Claim7.holds_tied_plain_at .later [] _ _ _ _ said (fun _ h => by cases h) (by kernel_rfl) (fun _ h => by cases h) labelLegal_row_tie rfl ⟨rfl, rfl⟩ (by kernel_rfl) rfl plain (by kernel_rfl)
#print axioms card
end Go.Proofs.YtbjkifniloohcaaGreatDoor.labelLegal
