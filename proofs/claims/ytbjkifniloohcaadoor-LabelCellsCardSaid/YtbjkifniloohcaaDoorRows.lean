/-
  NARROWER THAN 'FOR EVERY INPUT', by the rows' own cells (each row's printed sentence says how): LabelCells: laid.
  DERIVED. THE GIVEN ROWS OF THIS SEAT. 1 by the template 'for every input the law returns true; each argument reads behind the call as it read before'; 0 by the template 'total and deterministic' (their statements: YtbjkifniloohcaaDoorTotals.lean).
  GIVEN WITH THE SEED: the statements are not yours to turn. If you find one false, say at which input.
  Laid BY PROGRAM, IN A SANDBOX (cutbox-rows.mjs): the forced cells as the released guide's own fill.sh prints them over the translation a27815aa261e55c6… (all of the seat's roots in one cut). By AI agents, Wed Nov 11 2026. No macro, syntax, notation, axiom, sorry.
-/
import Derived.Test.YtbjkifniloohcaaDoorChecked
import GoSem.Claim
import GoSem.ClaimJoined
import GoSem.ClaimMapViews
import Derived.JoinedTies
import Derived.KernelRfl
namespace Go.Proofs.YtbjkifniloohcaaDoor
/- THE CELL 'sum', in the pinned program and in every row, IS THE sha256 OF THE DUMP (.gsa) THAT YtbjkifniloohcaaDoorProg.lean LOADS. Nothing in Lean hashes anything: it is a label: what it is worth is what the hold of that sum in a sandbox is worth. -/
noncomputable def Tryd.pinned : Pinned := { name := "ytbjkifniloohcaadoor", sum := "a27815aa261e55c6c18edc25e118630de3627dcbd25caee2607d16f40cd9ff50", checked := Tryd.checked }
namespace Rows
def none {H : Type} : Left H := { results := [], args := [] }

/- WHAT THE LISTED PACKAGE-LEVEL VARIABLES READ AS WHEN THE CALL BEGINS. Each datum BY PROGRAM (the guide's laid-datum.mjs) off the statement by which the dump's own 'gosem.cut.vars' lays the variable. In a bare row this is a premise. The card (YtbjkifniloohcaaDoorCards.lean) ties it to the program's text. -/
def laid_sixdot_label_digits {H : Type} : DataW H := .agg [.lit (.int .u8 1), .lit (.int .u8 3), .lit (.int .u8 9), .lit (.int .u8 25), .lit (.int .u8 17), .lit (.int .u8 11), .lit (.int .u8 27), .lit (.int .u8 19)]

/-- 'sixdotlaw15.LabelCells': WHATEVER THE INPUT: true; the input reads as it did. -/
def labelCellsSpec : ChangeSpec := { name := "labelCells", fn := fun _ => fun
  | [d1, d2, d3] => { results := [.lit (.bool true)], args := [d1, d2, d3] }
  | _ => none }
def labelCellsRow : OpenClaim := { program := "ytbjkifniloohcaadoor", sum := "a27815aa261e55c6c18edc25e118630de3627dcbd25caee2607d16f40cd9ff50", func := "sixdot/sixdotlaw15.LabelCells", spec := "labelCells", unfollowed := true, recurses := true, named := ["sixdot/label.digits"], plainKeys := false, apart := false, laid := [("sixdot/label.digits", laid_sixdot_label_digits)] }
def LabelCellsSaid : Prop := labelCellsRow.holds Tryd.pinned (OpenSpec.ofChange labelCellsSpec)

/-- ITS FALSE NEIGHBOUR: 'it returns false'. Refute it at one input. -/
def labelCellsWrong : ChangeSpec := { name := "labelCells", fn := fun _ => fun
  | [d1, d2, d3] => { results := [.lit (.bool false)], args := [d1, d2, d3] }
  | _ => none }
def LabelCellsWrongFalsely : Prop := labelCellsRow.holds Tryd.pinned (OpenSpec.ofChange labelCellsWrong)

/- THE SECOND FORM. 'bulk': how many values and letters a reading holds, each counted each time it is reached (what is shared counts as often as it is met; a slice's spare places count too). A statement '..UptoSaid' is the law's where the arguments, and the package variables that the reading takes, are together of bulk at most 1048576: NARROWER than '..Said'. Prove '..Said' where nothing that the law and all that it calls make is longer than what came in: it says more and counts as full. Else prove '..UptoSaid'. A law counts once. -/
mutual
def uptoBulk {H : Type} : DataW H → Nat
  | .lit (.string bytes) => bytes.length + 1
  | .lit _ => 1
  | .nil => 1
  | .ptr d => uptoBulk d + 1
  | .slice elems spare => uptoBulkAll elems + uptoBulkAll spare + 1
  | .agg parts => uptoBulkAll parts + 1
  | .iface _ d => uptoBulk d + 1
  | .map entries => uptoBulkEntries entries + 1
  | .held _ => 1
def uptoBulkAll {H : Type} : List (DataW H) → Nat
  | [] => 0
  | d :: r => uptoBulk d + uptoBulkAll r
def uptoBulkEntries {H : Type} : List (Lit × DataW H) → Nat
  | [] => 0
  | x :: r => uptoBulkEntry x + uptoBulkEntries r
def uptoBulkEntry {H : Type} : Lit × DataW H → Nat
  | (.string bytes, d) => bytes.length + uptoBulk d + 1
  | (_, d) => uptoBulk d + 1
 end
def uptoSmall : (H : Type) → List (DataW H) → Bool := fun _ ds => decide (uptoBulkAll ds ≤ 1048576)
def OpenSpec.upto (s : _root_.Go.ChangeSpec) : _root_.Go.OpenSpec := { _root_.Go.OpenSpec.ofChange s with cond := some uptoSmall }

/-- 'sixdotlaw15.LabelCells', WHERE WHAT IT READS IS OF BULK AT MOST 1048576: true; the input reads as it did. -/
def labelCellsUptoRow : OpenClaim := { program := "ytbjkifniloohcaadoor", sum := "a27815aa261e55c6c18edc25e118630de3627dcbd25caee2607d16f40cd9ff50", func := "sixdot/sixdotlaw15.LabelCells", spec := "labelCells", unfollowed := true, recurses := true, named := ["sixdot/label.digits"], plainKeys := false, apart := false, laid := [("sixdot/label.digits", laid_sixdot_label_digits)], narrowed := true }
def LabelCellsUptoSaid : Prop := labelCellsUptoRow.holds Tryd.pinned (OpenSpec.upto labelCellsSpec)

end Rows
end Go.Proofs.YtbjkifniloohcaaDoor
