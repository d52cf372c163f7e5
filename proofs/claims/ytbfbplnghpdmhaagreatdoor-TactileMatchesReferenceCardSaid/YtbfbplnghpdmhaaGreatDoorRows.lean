/-
  NARROWER THAN 'FOR EVERY INPUT', by the rows' own cells (each row's printed sentence says how): TactileMatchesReference: laid · TactileDraws: laid · TactileReads: laid · TactileInCells: laid.
  DERIVED. THE GIVEN ROWS OF THIS SEAT. 4 by the template 'for every input the law returns true; each argument reads behind the call as it read before'; 0 by the template 'total and deterministic' (their statements: YtbfbplnghpdmhaaGreatDoorTotals.lean).
  GIVEN WITH THE SEED: the statements are not yours to turn. If you find one false, say at which input.
  Laid BY PROGRAM, IN A SANDBOX (cutbox-rows.mjs): the forced cells as the released guide's own fill.sh prints them over the translation 2492302eed482a10… (all of the seat's roots in one cut). By AI agents, Wed Nov 11 2026. No macro, syntax, notation, axiom, sorry.
-/
import Derived.Test.YtbfbplnghpdmhaaGreatDoorChecked
import GoSem.Claim
import GoSem.ClaimJoined
import GoSem.ClaimMapViews
import Derived.JoinedTies
import Derived.KernelRfl
namespace Go.Proofs.YtbfbplnghpdmhaaGreatDoor
/- THE CELL 'sum', in the pinned program and in every row, IS THE sha256 OF THE DUMP (.gsa) THAT YtbfbplnghpdmhaaGreatDoorProg.lean LOADS. Nothing in Lean hashes anything: it is a label: what it is worth is what the hold of that sum in a sandbox is worth. -/
noncomputable def Tryz.pinned : Pinned := { name := "ytbfbplnghpdmhaagreatdoor", sum := "2492302eed482a100a337dffadaa5474abf02f909f7919fd4da39e33e483dd08", checked := Tryz.checked }
namespace Rows
def none {H : Type} : Left H := { results := [], args := [] }

/- WHAT THE LISTED PACKAGE-LEVEL VARIABLES READ AS WHEN THE CALL BEGINS. Each datum BY PROGRAM (the guide's laid-datum.mjs) off the statement by which the dump's own 'gosem.cut.vars' lays the variable. In a bare row this is a premise. The card (YtbfbplnghpdmhaaGreatDoorCards.lean) ties it to the program's text. -/
def laid_sixdot_label_digits {H : Type} : DataW H := .agg [.lit (.int .u8 1), .lit (.int .u8 3), .lit (.int .u8 9), .lit (.int .u8 25), .lit (.int .u8 17), .lit (.int .u8 11), .lit (.int .u8 27), .lit (.int .u8 19)]

/-- 'sixdotlaw16.TactileMatchesReference': WHATEVER THE INPUT: true; the input reads as it did. -/
def tactileMatchesReferenceSpec : ChangeSpec := { name := "tactileMatchesReference", fn := fun _ => fun
  | [d1, d2] => { results := [.lit (.bool true)], args := [d1, d2] }
  | _ => none }
def tactileMatchesReferenceRow : OpenClaim := { program := "ytbfbplnghpdmhaagreatdoor", sum := "2492302eed482a100a337dffadaa5474abf02f909f7919fd4da39e33e483dd08", func := "sixdot/sixdotlaw16.TactileMatchesReference", spec := "tactileMatchesReference", unfollowed := true, recurses := true, named := ["sixdot/label.digits"], plainKeys := false, apart := false, laid := [("sixdot/label.digits", laid_sixdot_label_digits)] }
def TactileMatchesReferenceSaid : Prop := tactileMatchesReferenceRow.holds Tryz.pinned (OpenSpec.ofChange tactileMatchesReferenceSpec)

/-- ITS FALSE NEIGHBOUR: 'it returns false'. Refute it at one input. -/
def tactileMatchesReferenceWrong : ChangeSpec := { name := "tactileMatchesReference", fn := fun _ => fun
  | [d1, d2] => { results := [.lit (.bool false)], args := [d1, d2] }
  | _ => none }
def TactileMatchesReferenceWrongFalsely : Prop := tactileMatchesReferenceRow.holds Tryz.pinned (OpenSpec.ofChange tactileMatchesReferenceWrong)

/-- 'sixdotlaw16.TactileDraws': WHATEVER THE INPUT: true; the input reads as it did. -/
def tactileDrawsSpec : ChangeSpec := { name := "tactileDraws", fn := fun _ => fun
  | [d] => { results := [.lit (.bool true)], args := [d] }
  | _ => none }
def tactileDrawsRow : OpenClaim := { program := "ytbfbplnghpdmhaagreatdoor", sum := "2492302eed482a100a337dffadaa5474abf02f909f7919fd4da39e33e483dd08", func := "sixdot/sixdotlaw16.TactileDraws", spec := "tactileDraws", unfollowed := true, recurses := true, named := ["sixdot/label.digits"], plainKeys := false, apart := false, laid := [("sixdot/label.digits", laid_sixdot_label_digits)] }
def TactileDrawsSaid : Prop := tactileDrawsRow.holds Tryz.pinned (OpenSpec.ofChange tactileDrawsSpec)

/-- ITS FALSE NEIGHBOUR: 'it returns false'. Refute it at one input. -/
def tactileDrawsWrong : ChangeSpec := { name := "tactileDraws", fn := fun _ => fun
  | [d] => { results := [.lit (.bool false)], args := [d] }
  | _ => none }
def TactileDrawsWrongFalsely : Prop := tactileDrawsRow.holds Tryz.pinned (OpenSpec.ofChange tactileDrawsWrong)

/-- 'sixdotlaw16.TactileReads': WHATEVER THE INPUT: true; the input reads as it did. -/
def tactileReadsSpec : ChangeSpec := { name := "tactileReads", fn := fun _ => fun
  | [d] => { results := [.lit (.bool true)], args := [d] }
  | _ => none }
def tactileReadsRow : OpenClaim := { program := "ytbfbplnghpdmhaagreatdoor", sum := "2492302eed482a100a337dffadaa5474abf02f909f7919fd4da39e33e483dd08", func := "sixdot/sixdotlaw16.TactileReads", spec := "tactileReads", unfollowed := true, recurses := true, named := ["sixdot/label.digits"], plainKeys := false, apart := false, laid := [("sixdot/label.digits", laid_sixdot_label_digits)] }
def TactileReadsSaid : Prop := tactileReadsRow.holds Tryz.pinned (OpenSpec.ofChange tactileReadsSpec)

/-- ITS FALSE NEIGHBOUR: 'it returns false'. Refute it at one input. -/
def tactileReadsWrong : ChangeSpec := { name := "tactileReads", fn := fun _ => fun
  | [d] => { results := [.lit (.bool false)], args := [d] }
  | _ => none }
def TactileReadsWrongFalsely : Prop := tactileReadsRow.holds Tryz.pinned (OpenSpec.ofChange tactileReadsWrong)

/-- 'sixdotlaw16.TactileInCells': WHATEVER THE INPUT: true; the input reads as it did. -/
def tactileInCellsSpec : ChangeSpec := { name := "tactileInCells", fn := fun _ => fun
  | [d] => { results := [.lit (.bool true)], args := [d] }
  | _ => none }
def tactileInCellsRow : OpenClaim := { program := "ytbfbplnghpdmhaagreatdoor", sum := "2492302eed482a100a337dffadaa5474abf02f909f7919fd4da39e33e483dd08", func := "sixdot/sixdotlaw16.TactileInCells", spec := "tactileInCells", unfollowed := true, recurses := true, named := ["sixdot/label.digits"], plainKeys := false, apart := false, laid := [("sixdot/label.digits", laid_sixdot_label_digits)] }
def TactileInCellsSaid : Prop := tactileInCellsRow.holds Tryz.pinned (OpenSpec.ofChange tactileInCellsSpec)

/-- ITS FALSE NEIGHBOUR: 'it returns false'. Refute it at one input. -/
def tactileInCellsWrong : ChangeSpec := { name := "tactileInCells", fn := fun _ => fun
  | [d] => { results := [.lit (.bool false)], args := [d] }
  | _ => none }
def TactileInCellsWrongFalsely : Prop := tactileInCellsRow.holds Tryz.pinned (OpenSpec.ofChange tactileInCellsWrong)

/- THE SECOND FORM. 'bulk': how many values and letters a reading holds, each counted each time it is reached (what is shared counts as often as it is met; a slice's spare places count too). A statement '..UptoSaid' is the law's where the arguments, and the package variables that the reading takes, are together of bulk at most 1048576: NARROWER than '..Said'. Prove '..Said' where nothing that the law and all that it calls make is longer than what came in: it says more and counts as full. Else prove '..UptoSaid'. A law counts once. -/
mutual
def uptoBulk {H : Type} : DataW H → Nat
  | .lit (.string bytes) => bytes.length + 1
  | .lit _ => 1
  | .nil => 1
  | .ptr d => uptoBulk d + 1
  | .slice elems spare => uptoBulkAll elems + uptoBulkAll spare + 1
  | .agg parts => uptoBulkAll parts + 1
  | .iface _ d => uptoBulk d + 1
  | .map entries => uptoBulkEntries entries + 1
  | .held _ => 1
def uptoBulkAll {H : Type} : List (DataW H) → Nat
  | [] => 0
  | d :: r => uptoBulk d + uptoBulkAll r
def uptoBulkEntries {H : Type} : List (Lit × DataW H) → Nat
  | [] => 0
  | x :: r => uptoBulkEntry x + uptoBulkEntries r
def uptoBulkEntry {H : Type} : Lit × DataW H → Nat
  | (.string bytes, d) => bytes.length + uptoBulk d + 1
  | (_, d) => uptoBulk d + 1
 end
def uptoSmall : (H : Type) → List (DataW H) → Bool := fun _ ds => decide (uptoBulkAll ds ≤ 1048576)
def OpenSpec.upto (s : _root_.Go.ChangeSpec) : _root_.Go.OpenSpec := { _root_.Go.OpenSpec.ofChange s with cond := some uptoSmall }

/-- 'sixdotlaw16.TactileMatchesReference', WHERE WHAT IT READS IS OF BULK AT MOST 1048576: true; the input reads as it did. -/
def tactileMatchesReferenceUptoRow : OpenClaim := { program := "ytbfbplnghpdmhaagreatdoor", sum := "2492302eed482a100a337dffadaa5474abf02f909f7919fd4da39e33e483dd08", func := "sixdot/sixdotlaw16.TactileMatchesReference", spec := "tactileMatchesReference", unfollowed := true, recurses := true, named := ["sixdot/label.digits"], plainKeys := false, apart := false, laid := [("sixdot/label.digits", laid_sixdot_label_digits)], narrowed := true }
def TactileMatchesReferenceUptoSaid : Prop := tactileMatchesReferenceUptoRow.holds Tryz.pinned (OpenSpec.upto tactileMatchesReferenceSpec)

/-- 'sixdotlaw16.TactileDraws', WHERE WHAT IT READS IS OF BULK AT MOST 1048576: true; the input reads as it did. -/
def tactileDrawsUptoRow : OpenClaim := { program := "ytbfbplnghpdmhaagreatdoor", sum := "2492302eed482a100a337dffadaa5474abf02f909f7919fd4da39e33e483dd08", func := "sixdot/sixdotlaw16.TactileDraws", spec := "tactileDraws", unfollowed := true, recurses := true, named := ["sixdot/label.digits"], plainKeys := false, apart := false, laid := [("sixdot/label.digits", laid_sixdot_label_digits)], narrowed := true }
def TactileDrawsUptoSaid : Prop := tactileDrawsUptoRow.holds Tryz.pinned (OpenSpec.upto tactileDrawsSpec)

/-- 'sixdotlaw16.TactileReads', WHERE WHAT IT READS IS OF BULK AT MOST 1048576: true; the input reads as it did. -/
def tactileReadsUptoRow : OpenClaim := { program := "ytbfbplnghpdmhaagreatdoor", sum := "2492302eed482a100a337dffadaa5474abf02f909f7919fd4da39e33e483dd08", func := "sixdot/sixdotlaw16.TactileReads", spec := "tactileReads", unfollowed := true, recurses := true, named := ["sixdot/label.digits"], plainKeys := false, apart := false, laid := [("sixdot/label.digits", laid_sixdot_label_digits)], narrowed := true }
def TactileReadsUptoSaid : Prop := tactileReadsUptoRow.holds Tryz.pinned (OpenSpec.upto tactileReadsSpec)

/-- 'sixdotlaw16.TactileInCells', WHERE WHAT IT READS IS OF BULK AT MOST 1048576: true; the input reads as it did. -/
def tactileInCellsUptoRow : OpenClaim := { program := "ytbfbplnghpdmhaagreatdoor", sum := "2492302eed482a100a337dffadaa5474abf02f909f7919fd4da39e33e483dd08", func := "sixdot/sixdotlaw16.TactileInCells", spec := "tactileInCells", unfollowed := true, recurses := true, named := ["sixdot/label.digits"], plainKeys := false, apart := false, laid := [("sixdot/label.digits", laid_sixdot_label_digits)], narrowed := true }
def TactileInCellsUptoSaid : Prop := tactileInCellsUptoRow.holds Tryz.pinned (OpenSpec.upto tactileInCellsSpec)

end Rows
end Go.Proofs.YtbfbplnghpdmhaaGreatDoor
