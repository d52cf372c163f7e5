/- The statement of ApartMoves: for every input the law returns true, and the arguments read afterwards as before. -/
import Derived.Test.YtbjkifniloohcaaGreatAb12
import Derived.WalkKit
import Derived.ProofKit
import Derived.Deep.DeepHandedRow
import Derived.Lib.LaidTab
set_option linter.unusedVariables false
set_option linter.unusedSimpArgs false
namespace Go.Proofs.YtbjkifniloohcaaGreat.apartMoves
open Go.ChangeShapes Go.WideShapes Go.ChangeAt Go.RowKit Go.Ab
theorem own : ownKnob Tryz.prog.godebug = none := by kernel_rfl
theorem laidOut : laidOutB Tryz.prog = true := by kernel_rfl
theorem H0 : layLaid Tryz.prog 8 0 Rows.apartMovesRow.laid ⟨.lf, 0⟩ = Go.Ad.H00 1 := by kernel_rfl
theorem dsc : descs Tryz.prog 8 Tryz.f6.params.toList = some [Go.Ad.rawT, .agg (.pair (.int .u8) (.pair (.int .u8) .unit))] := by kernel_rfl
theorem resT : Tryz.f6.resultTypes = #[4] := by kernel_rfl
theorem readable : (Tryz.f6.params.toList.all fun t => Tryz.prog.readableRec t && decide (t < Tryz.prog.types.size)) = true := by kernel_rfl
theorem nparams : Tryz.f6.params.toList.length = 2 := by kernel_rfl
set_option maxRecDepth 100000 in
theorem contract (X : Type) (enc : TypeId × Value -> X) (W : World) (base : Nat) (args : Array Value) (ds gs : List (DataW X)) (before : List MemPlace)
  (hval : ∀ (j : Nat) t v, Tryz.f6.params[j]? = some t -> args[j]? = some v -> Value.okWide Tryz.prog W .any base t v)
  (hW : DataW.Whole enc Tryz.prog Tryz.f6.params.toList Rows.apartMovesSpec.vars false W args.toList ds gs before) (hL : laidMetH Tryz.prog Rows.apartMovesRow.laid W) :
  Calls Tryz.prog 6 args W fun e W' => ∃ v, e = .returned v /\ Rows.apartMovesSpec.post enc Tryz.prog Tryz.f6 false true false false W args v W' := by
 refine law_contract (n := 8) (G := 0) laidOut readable dsc rfl resT Tryz.underlying4 (fun l hl => ?_) H0 W base args _ gs before ?_ hval hW hL
 ·rw [nparams] at hl
  match l, hl with
  | [_, _], _ => rfl
 ·rintro H ⟨a, b, u⟩ vs hw hx - hr -
  refine Go.Ab.deep_law (GH := Go.Ad.H00 1) (fun hok => ?_) hw (fun b bk h => hx.get b bk h) hr
  refine (?_ : DCalls _ _ _ _ [argD _ a, argD _ b] _)
  rw [<- Go.Ad.rawR_d a]
  exact Go.Ad.d_moves (Go.Ad.rawR_ok hok.1) (Go.Ad.wf_u8 hok.2.1.1) (Go.Ad.wf_u8 hok.2.1.2.1)
noncomputable def laidWorld (os : Os) : World := World.holding Tryz.prog os ⟨#[], #[], []⟩
def wargs : Array Value := #[.agg #[.int .u8 0, .int .u8 0, .int .u8 0, .slice none 0 0], .agg #[.int .u8 0, .int .u8 0]]
theorem laid_met (os : Os) : laidMet Tryz.prog Rows.apartMovesRow.laid ((laidWorld os).forCall (fun _ _ => 0) ⟨#[], wargs, []⟩).memory :=
 laidMet_of_run' 8 (by kernel_rfl) (by kernel_rfl)
theorem reads (os : Os) {H : Type} (enc : TypeId × Value -> H) : ∃ places, DataW.whole enc Tryz.prog ((laidWorld os).forCall (fun _ _ => 0) ⟨#[], wargs, []⟩).memory Tryz.f6.params.toList Rows.apartMovesSpec.vars false wargs.toList 8 = some ([.agg [.lit (.int .u8 0), .lit (.int .u8 0), .lit (.int .u8 0), .nil], .agg [.lit (.int .u8 0), .lit (.int .u8 0)]], [], places) :=
 ⟨[], by kernel_rfl⟩
set_option maxRecDepth 100000 in
theorem lifted (os : Os) (started : os.Started) (H : Type) (enc : TypeId × Value -> H) (F : Stop.Interp) :
  ReturnsInHanded {} Tryz.checked os 6 .any ((OpenSpec.ofChange Rows.apartMovesSpec).preRow enc Tryz.prog Tryz.f6 Rows.apartMovesRow.domain false Rows.apartMovesRow.laid) (((OpenSpec.ofChange Rows.apartMovesSpec).at F).post enc Tryz.prog Tryz.f6 false true false false) := by
 obtain ⟨places, hx⟩ := reads os enc
 refine returnsInHanded_of_row (C := Tryz.checked) (s := OpenSpec.ofChange Rows.apartMovesSpec) own started (by kernel_rfl) Tryz.func6
  (witness_row_at (enc := enc) (C := Tryz.checked) false (laidWorld os) wargs rfl (by kernel_rfl) (by kernel_rfl) (by kernel_rfl)
   (OpenSpec.preRow_of_cond 8 hx (by kernel_rfl) (fun k hk => by cases hk) (by kernel_rfl) (laid_met os))) ?_
 intro W base args ds gs before hval hW _ _ _ hL _ _
 exact contract H enc W base args ds gs before hval hW hL
theorem said : Rows.ApartMovesSaid :=
 OpenClaim.holds_of_cond 6 Tryz.f6 rfl rfl rfl rfl rfl rfl rfl ⟨rfl, rfl, rfl, rfl, rfl⟩ rfl rfl rfl rfl rfl (by kernel_rfl) Tryz.func6 (by kernel_rfl)
  (of_decide_eq_true (by kernel_rfl)) (by unfold Func.isWrapper; first|(rw [if_pos (by decide +kernel)]; kernel_rfl)|(rw [if_neg (by decide +kernel)]; exact ⟨rfl, rfl⟩))
  (fun os started H enc _ F => by rw [OpenClaim.pre_eq_preRow]; exact lifted os started H enc F)
#print axioms said
end Go.Proofs.YtbjkifniloohcaaGreat.apartMoves
