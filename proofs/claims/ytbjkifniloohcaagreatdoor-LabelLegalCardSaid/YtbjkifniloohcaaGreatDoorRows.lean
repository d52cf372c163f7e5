/-
  NARROWER THAN 'FOR EVERY INPUT', by the rows' own cells (each row's printed sentence says how): LabelMatchesReference: laid · LabelPlaces: laid · LabelFirst: laid · LabelFails: laid · LabelLegal: laid.
  DERIVED. THE GIVEN ROWS OF THIS SEAT. 5 by the template 'for every input the law returns true; each argument reads behind the call as it read before'; 0 by the template 'total and deterministic' (their statements: YtbjkifniloohcaaGreatDoorTotals.lean).
  GIVEN WITH THE SEED: the statements are not yours to turn. If you find one false, say at which input.
  Laid BY PROGRAM, IN A SANDBOX (cutbox-rows.mjs): the forced cells as the released guide's own fill.sh prints them over the translation f6760d167f0c6224… (all of the seat's roots in one cut). By AI agents, Wed Nov 11 2026. No macro, syntax, notation, axiom, sorry.
-/
import Derived.Test.YtbjkifniloohcaaGreatDoorChecked
import GoSem.Claim
import GoSem.ClaimJoined
import GoSem.ClaimMapViews
import Derived.JoinedTies
import Derived.KernelRfl
namespace Go.Proofs.YtbjkifniloohcaaGreatDoor
/- THE CELL 'sum', in the pinned program and in every row, IS THE sha256 OF THE DUMP (.gsa) THAT YtbjkifniloohcaaGreatDoorProg.lean LOADS. Nothing in Lean hashes anything: it is a label: what it is worth is what the hold of that sum in a sandbox is worth. -/
noncomputable def Tryz.pinned : Pinned := { name := "ytbjkifniloohcaagreatdoor", sum := "f6760d167f0c622448338bb574e0b4b4ba866099e1a7178975db0bb716f0b48f", checked := Tryz.checked }
namespace Rows
def none {H : Type} : Left H := { results := [], args := [] }

/- WHAT THE LISTED PACKAGE-LEVEL VARIABLES READ AS WHEN THE CALL BEGINS. Each datum BY PROGRAM (the guide's laid-datum.mjs) off the statement by which the dump's own 'gosem.cut.vars' lays the variable. In a bare row this is a premise. The card (YtbjkifniloohcaaGreatDoorCards.lean) ties it to the program's text. -/
def laid_sixdot_label_digits {H : Type} : DataW H := .agg [.lit (.int .u8 1), .lit (.int .u8 3), .lit (.int .u8 9), .lit (.int .u8 25), .lit (.int .u8 17), .lit (.int .u8 11), .lit (.int .u8 27), .lit (.int .u8 19)]

/-- 'sixdotlaw15.LabelMatchesReference': WHATEVER THE INPUT: true; the input reads as it did. -/
def labelMatchesReferenceSpec : ChangeSpec := { name := "labelMatchesReference", fn := fun _ => fun
  | [d1, d2, d3] => { results := [.lit (.bool true)], args := [d1, d2, d3] }
  | _ => none }
def labelMatchesReferenceRow : OpenClaim := { program := "ytbjkifniloohcaagreatdoor", sum := "f6760d167f0c622448338bb574e0b4b4ba866099e1a7178975db0bb716f0b48f", func := "sixdot/sixdotlaw15.LabelMatchesReference", spec := "labelMatchesReference", unfollowed := true, recurses := true, named := ["sixdot/label.digits"], plainKeys := false, apart := false, laid := [("sixdot/label.digits", laid_sixdot_label_digits)] }
def LabelMatchesReferenceSaid : Prop := labelMatchesReferenceRow.holds Tryz.pinned (OpenSpec.ofChange labelMatchesReferenceSpec)

/-- ITS FALSE NEIGHBOUR: 'it returns false'. Refute it at one input. -/
def labelMatchesReferenceWrong : ChangeSpec := { name := "labelMatchesReference", fn := fun _ => fun
  | [d1, d2, d3] => { results := [.lit (.bool false)], args := [d1, d2, d3] }
  | _ => none }
def LabelMatchesReferenceWrongFalsely : Prop := labelMatchesReferenceRow.holds Tryz.pinned (OpenSpec.ofChange labelMatchesReferenceWrong)

/-- 'sixdotlaw15.LabelPlaces': WHATEVER THE INPUT: true; the input reads as it did. -/
def labelPlacesSpec : ChangeSpec := { name := "labelPlaces", fn := fun _ => fun
  | [d] => { results := [.lit (.bool true)], args := [d] }
  | _ => none }
def labelPlacesRow : OpenClaim := { program := "ytbjkifniloohcaagreatdoor", sum := "f6760d167f0c622448338bb574e0b4b4ba866099e1a7178975db0bb716f0b48f", func := "sixdot/sixdotlaw15.LabelPlaces", spec := "labelPlaces", unfollowed := true, recurses := true, named := ["sixdot/label.digits"], plainKeys := false, apart := false, laid := [("sixdot/label.digits", laid_sixdot_label_digits)] }
def LabelPlacesSaid : Prop := labelPlacesRow.holds Tryz.pinned (OpenSpec.ofChange labelPlacesSpec)

/-- ITS FALSE NEIGHBOUR: 'it returns false'. Refute it at one input. -/
def labelPlacesWrong : ChangeSpec := { name := "labelPlaces", fn := fun _ => fun
  | [d] => { results := [.lit (.bool false)], args := [d] }
  | _ => none }
def LabelPlacesWrongFalsely : Prop := labelPlacesRow.holds Tryz.pinned (OpenSpec.ofChange labelPlacesWrong)

/-- 'sixdotlaw15.LabelFirst': WHATEVER THE INPUT: true; the input reads as it did. -/
def labelFirstSpec : ChangeSpec := { name := "labelFirst", fn := fun _ => fun
  | [d1, d2] => { results := [.lit (.bool true)], args := [d1, d2] }
  | _ => none }
def labelFirstRow : OpenClaim := { program := "ytbjkifniloohcaagreatdoor", sum := "f6760d167f0c622448338bb574e0b4b4ba866099e1a7178975db0bb716f0b48f", func := "sixdot/sixdotlaw15.LabelFirst", spec := "labelFirst", unfollowed := true, recurses := true, named := ["sixdot/label.digits"], plainKeys := false, apart := false, laid := [("sixdot/label.digits", laid_sixdot_label_digits)] }
def LabelFirstSaid : Prop := labelFirstRow.holds Tryz.pinned (OpenSpec.ofChange labelFirstSpec)

/-- ITS FALSE NEIGHBOUR: 'it returns false'. Refute it at one input. -/
def labelFirstWrong : ChangeSpec := { name := "labelFirst", fn := fun _ => fun
  | [d1, d2] => { results := [.lit (.bool false)], args := [d1, d2] }
  | _ => none }
def LabelFirstWrongFalsely : Prop := labelFirstRow.holds Tryz.pinned (OpenSpec.ofChange labelFirstWrong)

/-- 'sixdotlaw15.LabelFails': WHATEVER THE INPUT: true; the input reads as it did. -/
def labelFailsSpec : ChangeSpec := { name := "labelFails", fn := fun _ => fun
  | [d] => { results := [.lit (.bool true)], args := [d] }
  | _ => none }
def labelFailsRow : OpenClaim := { program := "ytbjkifniloohcaagreatdoor", sum := "f6760d167f0c622448338bb574e0b4b4ba866099e1a7178975db0bb716f0b48f", func := "sixdot/sixdotlaw15.LabelFails", spec := "labelFails", unfollowed := true, recurses := true, named := ["sixdot/label.digits"], plainKeys := false, apart := false, laid := [("sixdot/label.digits", laid_sixdot_label_digits)] }
def LabelFailsSaid : Prop := labelFailsRow.holds Tryz.pinned (OpenSpec.ofChange labelFailsSpec)

/-- ITS FALSE NEIGHBOUR: 'it returns false'. Refute it at one input. -/
def labelFailsWrong : ChangeSpec := { name := "labelFails", fn := fun _ => fun
  | [d] => { results := [.lit (.bool false)], args := [d] }
  | _ => none }
def LabelFailsWrongFalsely : Prop := labelFailsRow.holds Tryz.pinned (OpenSpec.ofChange labelFailsWrong)

/-- 'sixdotlaw15.LabelLegal': WHATEVER THE INPUT: true; the input reads as it did. -/
def labelLegalSpec : ChangeSpec := { name := "labelLegal", fn := fun _ => fun
  | [d1, d2, d3] => { results := [.lit (.bool true)], args := [d1, d2, d3] }
  | _ => none }
def labelLegalRow : OpenClaim := { program := "ytbjkifniloohcaagreatdoor", sum := "f6760d167f0c622448338bb574e0b4b4ba866099e1a7178975db0bb716f0b48f", func := "sixdot/sixdotlaw15.LabelLegal", spec := "labelLegal", unfollowed := true, recurses := true, named := ["sixdot/label.digits"], plainKeys := false, apart := false, laid := [("sixdot/label.digits", laid_sixdot_label_digits)] }
def LabelLegalSaid : Prop := labelLegalRow.holds Tryz.pinned (OpenSpec.ofChange labelLegalSpec)

/-- ITS FALSE NEIGHBOUR: 'it returns false'. Refute it at one input. -/
def labelLegalWrong : ChangeSpec := { name := "labelLegal", fn := fun _ => fun
  | [d1, d2, d3] => { results := [.lit (.bool false)], args := [d1, d2, d3] }
  | _ => none }
def LabelLegalWrongFalsely : Prop := labelLegalRow.holds Tryz.pinned (OpenSpec.ofChange labelLegalWrong)

/- THE SECOND FORM. 'bulk': how many values and letters a reading holds, each counted each time it is reached (what is shared counts as often as it is met; a slice's spare places count too). A statement '..UptoSaid' is the law's where the arguments, and the package variables that the reading takes, are together of bulk at most 1048576: NARROWER than '..Said'. Prove '..Said' where nothing that the law and all that it calls make is longer than what came in: it says more and counts as full. Else prove '..UptoSaid'. A law counts once. -/
mutual
def uptoBulk {H : Type} : DataW H → Nat
  | .lit (.string bytes) => bytes.length + 1
  | .lit _ => 1
  | .nil => 1
  | .ptr d => uptoBulk d + 1
  | .slice elems spare => uptoBulkAll elems + uptoBulkAll spare + 1
  | .agg parts => uptoBulkAll parts + 1
  | .iface _ d => uptoBulk d + 1
  | .map entries => uptoBulkEntries entries + 1
  | .held _ => 1
def uptoBulkAll {H : Type} : List (DataW H) → Nat
  | [] => 0
  | d :: r => uptoBulk d + uptoBulkAll r
def uptoBulkEntries {H : Type} : List (Lit × DataW H) → Nat
  | [] => 0
  | x :: r => uptoBulkEntry x + uptoBulkEntries r
def uptoBulkEntry {H : Type} : Lit × DataW H → Nat
  | (.string bytes, d) => bytes.length + uptoBulk d + 1
  | (_, d) => uptoBulk d + 1
 end
def uptoSmall : (H : Type) → List (DataW H) → Bool := fun _ ds => decide (uptoBulkAll ds ≤ 1048576)
def OpenSpec.upto (s : _root_.Go.ChangeSpec) : _root_.Go.OpenSpec := { _root_.Go.OpenSpec.ofChange s with cond := some uptoSmall }

/-- 'sixdotlaw15.LabelMatchesReference', WHERE WHAT IT READS IS OF BULK AT MOST 1048576: true; the input reads as it did. -/
def labelMatchesReferenceUptoRow : OpenClaim := { program := "ytbjkifniloohcaagreatdoor", sum := "f6760d167f0c622448338bb574e0b4b4ba866099e1a7178975db0bb716f0b48f", func := "sixdot/sixdotlaw15.LabelMatchesReference", spec := "labelMatchesReference", unfollowed := true, recurses := true, named := ["sixdot/label.digits"], plainKeys := false, apart := false, laid := [("sixdot/label.digits", laid_sixdot_label_digits)], narrowed := true }
def LabelMatchesReferenceUptoSaid : Prop := labelMatchesReferenceUptoRow.holds Tryz.pinned (OpenSpec.upto labelMatchesReferenceSpec)

/-- 'sixdotlaw15.LabelPlaces', WHERE WHAT IT READS IS OF BULK AT MOST 1048576: true; the input reads as it did. -/
def labelPlacesUptoRow : OpenClaim := { program := "ytbjkifniloohcaagreatdoor", sum := "f6760d167f0c622448338bb574e0b4b4ba866099e1a7178975db0bb716f0b48f", func := "sixdot/sixdotlaw15.LabelPlaces", spec := "labelPlaces", unfollowed := true, recurses := true, named := ["sixdot/label.digits"], plainKeys := false, apart := false, laid := [("sixdot/label.digits", laid_sixdot_label_digits)], narrowed := true }
def LabelPlacesUptoSaid : Prop := labelPlacesUptoRow.holds Tryz.pinned (OpenSpec.upto labelPlacesSpec)

/-- 'sixdotlaw15.LabelFirst', WHERE WHAT IT READS IS OF BULK AT MOST 1048576: true; the input reads as it did. -/
def labelFirstUptoRow : OpenClaim := { program := "ytbjkifniloohcaagreatdoor", sum := "f6760d167f0c622448338bb574e0b4b4ba866099e1a7178975db0bb716f0b48f", func := "sixdot/sixdotlaw15.LabelFirst", spec := "labelFirst", unfollowed := true, recurses := true, named := ["sixdot/label.digits"], plainKeys := false, apart := false, laid := [("sixdot/label.digits", laid_sixdot_label_digits)], narrowed := true }
def LabelFirstUptoSaid : Prop := labelFirstUptoRow.holds Tryz.pinned (OpenSpec.upto labelFirstSpec)

/-- 'sixdotlaw15.LabelFails', WHERE WHAT IT READS IS OF BULK AT MOST 1048576: true; the input reads as it did. -/
def labelFailsUptoRow : OpenClaim := { program := "ytbjkifniloohcaagreatdoor", sum := "f6760d167f0c622448338bb574e0b4b4ba866099e1a7178975db0bb716f0b48f", func := "sixdot/sixdotlaw15.LabelFails", spec := "labelFails", unfollowed := true, recurses := true, named := ["sixdot/label.digits"], plainKeys := false, apart := false, laid := [("sixdot/label.digits", laid_sixdot_label_digits)], narrowed := true }
def LabelFailsUptoSaid : Prop := labelFailsUptoRow.holds Tryz.pinned (OpenSpec.upto labelFailsSpec)

/-- 'sixdotlaw15.LabelLegal', WHERE WHAT IT READS IS OF BULK AT MOST 1048576: true; the input reads as it did. -/
def labelLegalUptoRow : OpenClaim := { program := "ytbjkifniloohcaagreatdoor", sum := "f6760d167f0c622448338bb574e0b4b4ba866099e1a7178975db0bb716f0b48f", func := "sixdot/sixdotlaw15.LabelLegal", spec := "labelLegal", unfollowed := true, recurses := true, named := ["sixdot/label.digits"], plainKeys := false, apart := false, laid := [("sixdot/label.digits", laid_sixdot_label_digits)], narrowed := true }
def LabelLegalUptoSaid : Prop := labelLegalUptoRow.holds Tryz.pinned (OpenSpec.upto labelLegalSpec)

end Rows
end Go.Proofs.YtbjkifniloohcaaGreatDoor
