/- The card of BookLimits: for every input the law returns true, and the arguments read afterwards as before. -/
import Derived.Test.YtandgamnamkkhaaGreatDoorAb16
import Derived.Test.YtandgamnamkkhaaGreatDoorCards
import Derived.Test.YtandgamnamkkhaaGreatDoorTie
import Derived.WalkKit
import Derived.ProofKit
import Derived.Deep.DeepHandedRow
import Derived.Lib.LaidTab
set_option linter.unusedVariables false
set_option linter.unusedSimpArgs false
namespace Go.Proofs.YtandgamnamkkhaaGreatDoor.bookLimits
open Go.ChangeShapes Go.WideShapes Go.ChangeAt Go.RowKit Go.Ab
theorem own : ownKnob Tryz.prog.godebug = none := by kernel_rfl
theorem laidOut : laidOutB Tryz.prog = true := by kernel_rfl
noncomputable def HL : Hp := layLaid Tryz.prog 8 7 Rows.bookLimitsRow.laid ⟨.lf, 7⟩
theorem H0 : layLaid Tryz.prog 8 7 Rows.bookLimitsRow.laid ⟨.lf, 7⟩ = HL := rfl
theorem HL4 : HL.get 4 = some Go.Ah.digs := by kernel_rfl
theorem HL_sub (b : Nat) (bk : B) (h : (Go.Ah.H00 1).get b = some bk) : HL.get b = some bk := by
 have e : (Go.Ah.H00 1).get b = if b = 4 then some Go.Ah.digs else none := by
  show (T.lf.set 4 (some Go.Ah.digs)).get b = _
  rw [T.get_set, T.get_lf]
 rw [e] at h
 split at h
 ·rename_i hb; rw [hb, HL4]; exact h
 ·cases h
theorem dsc : descs Tryz.prog 8 Tryz.f7.params.toList = some [Go.Ah.a4, .int .i16, .int .u8] := by kernel_rfl
theorem resT : Tryz.f7.resultTypes = #[4] := by kernel_rfl
theorem readable : (Tryz.f7.params.toList.all fun t => Tryz.prog.readableRec t && decide (t < Tryz.prog.types.size)) = true := by kernel_rfl
theorem nparams : Tryz.f7.params.toList.length = 3 := by kernel_rfl
set_option maxRecDepth 100000 in
theorem contract (X : Type) (enc : TypeId × Value -> X) (W : World) (base : Nat) (args : Array Value) (ds gs : List (DataW X)) (before : List MemPlace)
  (hval : ∀ (j : Nat) t v, Tryz.f7.params[j]? = some t -> args[j]? = some v -> Value.okWide Tryz.prog W .any base t v)
  (hW : DataW.Whole enc Tryz.prog Tryz.f7.params.toList Rows.bookLimitsSpec.vars false W args.toList ds gs before) (hL : laidMetH Tryz.prog Rows.bookLimitsRow.laid W) :
  Calls Tryz.prog 7 args W fun e W' => ∃ v, e = .returned v /\ Rows.bookLimitsSpec.post enc Tryz.prog Tryz.f7 false true false false W args v W' := by
 refine law_contract (n := 8) (G := 7) laidOut readable dsc rfl resT Tryz.underlying4 (fun l hl => ?_) H0 W base args _ gs before ?_ hval hW hL
 ·rw [nparams] at hl
  match l, hl with
  | [_, _, _], _ => rfl
 ·rintro H ⟨w, page, n, u⟩ vs hw hx - hr -
  exact Go.Ab.deep_law (GH := Go.Ah.H00 1) (fun hok => Go.Ah.limits_law hok) hw (fun b bk h => hx.get b bk (HL_sub b bk h)) hr
noncomputable def cell1 : DataW Unit -> List Value
 | .lit (.int k n) => [.int k n]
 | _ => []
noncomputable def cell2 : DataW Unit -> List Value
 | .agg l => l.flatMap fun
  | .agg m => m.flatMap cell1
  | x => cell1 x
 | x => cell1 x
noncomputable def layW : List (String × DataW Unit) -> Array Obj -> Array Obj
 | [], a => a
 | (s, d) :: r, a => match Tryz.prog.globalNamed s with
  | some g => layW r (a.modify g fun
   | .cells _ t frozen => .cells (cell2 d).toArray t frozen
   | o => o)
  | none => layW r a
noncomputable def laidWorld (os : Os) : World :=
 { World.holding Tryz.prog os ⟨#[], #[], []⟩ with heap := layW Rows.bookLimitsRow.laid (World.holding Tryz.prog os ⟨#[], #[], []⟩).heap }
def wargs : Array Value := #[.agg #[.int .u8 0, .int .u8 0, .int .u8 0, .int .u8 0], .int .i16 0, .int .u8 0]
theorem laid_met (os : Os) : laidMet Tryz.prog Rows.bookLimitsRow.laid ((laidWorld os).forCall (fun _ _ => 0) ⟨#[], wargs, []⟩).memory :=
 laidMet_of_run' 8 (by kernel_rfl) (by kernel_rfl)
theorem reads (os : Os) {H : Type} (enc : TypeId × Value -> H) : ∃ places, DataW.whole enc Tryz.prog ((laidWorld os).forCall (fun _ _ => 0) ⟨#[], wargs, []⟩).memory Tryz.f7.params.toList Rows.bookLimitsSpec.vars false wargs.toList 8 = some ([.agg [.lit (.int .u8 0), .lit (.int .u8 0), .lit (.int .u8 0), .lit (.int .u8 0)], .lit (.int .i16 0), .lit (.int .u8 0)], [], places) :=
 ⟨[], by kernel_rfl⟩
set_option maxRecDepth 100000 in
theorem lifted (os : Os) (started : os.Started) (H : Type) (enc : TypeId × Value -> H) (F : Stop.Interp) :
  ReturnsInHanded {} Tryz.checked os 7 .any ((OpenSpec.ofChange Rows.bookLimitsSpec).preRow enc Tryz.prog Tryz.f7 Rows.bookLimitsRow.domain false Rows.bookLimitsRow.laid) (((OpenSpec.ofChange Rows.bookLimitsSpec).at F).post enc Tryz.prog Tryz.f7 false true false false) := by
 obtain ⟨places, hx⟩ := reads os enc
 refine returnsInHanded_of_row (C := Tryz.checked) (s := OpenSpec.ofChange Rows.bookLimitsSpec) own started (by kernel_rfl) Tryz.func7
  (witness_row_at (enc := enc) (C := Tryz.checked) false (laidWorld os) wargs rfl (by kernel_rfl) (by kernel_rfl) (by kernel_rfl)
   (OpenSpec.preRow_of_cond 8 hx (by kernel_rfl) (fun k hk => by cases hk) (by kernel_rfl) (laid_met os))) ?_
 intro W base args ds gs before hval hW _ _ _ hL _ _
 exact contract H enc W base args ds gs before hval hW hL
theorem said : Rows.BookLimitsSaid :=
 OpenClaim.holds_of_cond 7 Tryz.f7 rfl rfl rfl rfl rfl rfl rfl ⟨rfl, rfl, rfl, rfl, rfl⟩ rfl rfl rfl rfl rfl (by kernel_rfl) Tryz.func7 (by kernel_rfl)
  (of_decide_eq_true (by kernel_rfl)) (by unfold Func.isWrapper; first|(rw [if_pos (by decide +kernel)]; kernel_rfl)|(rw [if_neg (by decide +kernel)]; exact ⟨rfl, rfl⟩))
  (fun os started H enc _ F => by rw [OpenClaim.pre_eq_preRow]; exact lifted os started H enc F)
theorem plain (f : FuncId) (fn : Func) (hf : Tryz.pinned.checked.prog.funcNamed Rows.bookLimitsRow.func = some f) (hfn : Tryz.pinned.checked.prog.funcs[f]? = some fn) :
  false = Tryz.pinned.checked.prog.looks [] /\ ∀ (j : Nat) t, fn.params[j]? = some t -> Tryz.pinned.checked.prog.wantsStandIn t = false := by
 obtain rfl : f = 7 := Option.some.inj ((show Tryz.prog.funcNamed Rows.bookLimitsRow.func = some 7 by kernel_rfl).symm.trans hf) |>.symm
 obtain rfl : fn = Tryz.f7 := (Option.some.inj (Tryz.func7.symm.trans hfn)).symm
 refine ⟨by kernel_rfl, fun j t ht => ?_⟩
 have hall : (Tryz.f7.params.toList.all fun t => !Tryz.prog.wantsStandIn t) = true := by kernel_rfl
 have hm : t ∈ Tryz.f7.params.toList := by simpa using Array.mem_of_getElem? ht
 have h := List.all_eq_true.1 hall t hm
 have h2 : Tryz.prog.wantsStandIn t = false := by simpa using h
 exact h2
theorem card : Rows.BookLimitsCardSaid :=
 Claim7.holds_tied_plain_at .later [] _ _ _ _ said (fun _ h => by cases h) (by kernel_rfl) (fun _ h => by cases h) bookLimits_row_tie rfl ⟨rfl, rfl⟩ (by kernel_rfl) rfl plain (by kernel_rfl)
#print axioms card
end Go.Proofs.YtandgamnamkkhaaGreatDoor.bookLimits
