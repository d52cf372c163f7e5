/-
  NARROWER THAN 'FOR EVERY INPUT', by the rows' own cells (each row's printed sentence says how): GridValid: laid · GridLines: laid · GridDistances: laid · GridClusters: laid · GridCells: laid · GridMatchesReference: laid · GridPlots: laid.
  DERIVED. THE GIVEN ROWS OF THIS SEAT. 7 by the template 'for every input the law returns true; each argument reads behind the call as it read before'; 0 by the template 'total and deterministic' (their statements: YtejpbhindcglpaaDoorTotals.lean).
  GIVEN WITH THE SEED: the statements are not yours to turn. If you find one false, say at which input.
  Laid BY PROGRAM, IN A SANDBOX (cutbox-rows.mjs): the forced cells as the released guide's own fill.sh prints them over the translation 677c78b5530dbb13… (all of the seat's roots in one cut). By AI agents, Wed Nov 11 2026. No macro, syntax, notation, axiom, sorry.
-/
import Derived.Test.YtejpbhindcglpaaDoorChecked
import GoSem.Claim
import GoSem.ClaimJoined
import GoSem.ClaimMapViews
import Derived.JoinedTies
import Derived.KernelRfl
namespace Go.Proofs.YtejpbhindcglpaaDoor
/- THE CELL 'sum', in the pinned program and in every row, IS THE sha256 OF THE DUMP (.gsa) THAT YtejpbhindcglpaaDoorProg.lean LOADS. Nothing in Lean hashes anything: it is a label: what it is worth is what the hold of that sum in a sandbox is worth. -/
noncomputable def Tryd.pinned : Pinned := { name := "ytejpbhindcglpaadoor", sum := "677c78b5530dbb13542b4cd4ea75878ba4217e0b9ef6037ff91167c8cfa4d879", checked := Tryd.checked }
namespace Rows
def none {H : Type} : Left H := { results := [], args := [] }

/- WHAT THE LISTED PACKAGE-LEVEL VARIABLES READ AS WHEN THE CALL BEGINS. Each datum BY PROGRAM (the guide's laid-datum.mjs) off the statement by which the dump's own 'gosem.cut.vars' lays the variable. In a bare row this is a premise. The card (YtejpbhindcglpaaDoorCards.lean) ties it to the program's text. -/
def laid_sixdot_grid_offsets {H : Type} : DataW H := .agg [.agg [.lit (.int .i64 0), .lit (.int .i64 0)], .agg [.lit (.int .i64 0), .lit (.int .i64 1)], .agg [.lit (.int .i64 0), .lit (.int .i64 2)], .agg [.lit (.int .i64 1), .lit (.int .i64 0)], .agg [.lit (.int .i64 1), .lit (.int .i64 1)], .agg [.lit (.int .i64 1), .lit (.int .i64 2)]]

/-- 'sixdotlaw12.GridValid': WHATEVER THE INPUT: true; the input reads as it did. -/
def gridValidSpec : ChangeSpec := { name := "gridValid", fn := fun _ => fun
  | [d1, d2] => { results := [.lit (.bool true)], args := [d1, d2] }
  | _ => none }
def gridValidRow : OpenClaim := { program := "ytejpbhindcglpaadoor", sum := "677c78b5530dbb13542b4cd4ea75878ba4217e0b9ef6037ff91167c8cfa4d879", func := "sixdot/sixdotlaw12.GridValid", spec := "gridValid", unfollowed := true, recurses := true, named := ["sixdot/grid.offsets"], apart := false, laid := [("sixdot/grid.offsets", laid_sixdot_grid_offsets)] }
def GridValidSaid : Prop := gridValidRow.holds Tryd.pinned (OpenSpec.ofChange gridValidSpec)

/-- ITS FALSE NEIGHBOUR: 'it returns false'. Refute it at one input. -/
def gridValidWrong : ChangeSpec := { name := "gridValid", fn := fun _ => fun
  | [d1, d2] => { results := [.lit (.bool false)], args := [d1, d2] }
  | _ => none }
def GridValidWrongFalsely : Prop := gridValidRow.holds Tryd.pinned (OpenSpec.ofChange gridValidWrong)

/-- 'sixdotlaw12.GridLines': WHATEVER THE INPUT: true; the input reads as it did. -/
def gridLinesSpec : ChangeSpec := { name := "gridLines", fn := fun _ => fun
  | [d1, d2, d3] => { results := [.lit (.bool true)], args := [d1, d2, d3] }
  | _ => none }
def gridLinesRow : OpenClaim := { program := "ytejpbhindcglpaadoor", sum := "677c78b5530dbb13542b4cd4ea75878ba4217e0b9ef6037ff91167c8cfa4d879", func := "sixdot/sixdotlaw12.GridLines", spec := "gridLines", unfollowed := true, recurses := true, named := ["sixdot/grid.offsets"], apart := false, laid := [("sixdot/grid.offsets", laid_sixdot_grid_offsets)] }
def GridLinesSaid : Prop := gridLinesRow.holds Tryd.pinned (OpenSpec.ofChange gridLinesSpec)

/-- ITS FALSE NEIGHBOUR: 'it returns false'. Refute it at one input. -/
def gridLinesWrong : ChangeSpec := { name := "gridLines", fn := fun _ => fun
  | [d1, d2, d3] => { results := [.lit (.bool false)], args := [d1, d2, d3] }
  | _ => none }
def GridLinesWrongFalsely : Prop := gridLinesRow.holds Tryd.pinned (OpenSpec.ofChange gridLinesWrong)

/-- 'sixdotlaw12.GridDistances': WHATEVER THE INPUT: true; the input reads as it did. -/
def gridDistancesSpec : ChangeSpec := { name := "gridDistances", fn := fun _ => fun
  | [d1, d2, d3] => { results := [.lit (.bool true)], args := [d1, d2, d3] }
  | _ => none }
def gridDistancesRow : OpenClaim := { program := "ytejpbhindcglpaadoor", sum := "677c78b5530dbb13542b4cd4ea75878ba4217e0b9ef6037ff91167c8cfa4d879", func := "sixdot/sixdotlaw12.GridDistances", spec := "gridDistances", unfollowed := true, recurses := true, named := ["sixdot/grid.offsets"], apart := false, laid := [("sixdot/grid.offsets", laid_sixdot_grid_offsets)] }
def GridDistancesSaid : Prop := gridDistancesRow.holds Tryd.pinned (OpenSpec.ofChange gridDistancesSpec)

/-- ITS FALSE NEIGHBOUR: 'it returns false'. Refute it at one input. -/
def gridDistancesWrong : ChangeSpec := { name := "gridDistances", fn := fun _ => fun
  | [d1, d2, d3] => { results := [.lit (.bool false)], args := [d1, d2, d3] }
  | _ => none }
def GridDistancesWrongFalsely : Prop := gridDistancesRow.holds Tryd.pinned (OpenSpec.ofChange gridDistancesWrong)

/-- 'sixdotlaw12.GridClusters': WHATEVER THE INPUT: true; the input reads as it did. -/
def gridClustersSpec : ChangeSpec := { name := "gridClusters", fn := fun _ => fun
  | [d1, d2, d3] => { results := [.lit (.bool true)], args := [d1, d2, d3] }
  | _ => none }
def gridClustersRow : OpenClaim := { program := "ytejpbhindcglpaadoor", sum := "677c78b5530dbb13542b4cd4ea75878ba4217e0b9ef6037ff91167c8cfa4d879", func := "sixdot/sixdotlaw12.GridClusters", spec := "gridClusters", unfollowed := true, recurses := true, named := ["sixdot/grid.offsets"], apart := false, laid := [("sixdot/grid.offsets", laid_sixdot_grid_offsets)] }
def GridClustersSaid : Prop := gridClustersRow.holds Tryd.pinned (OpenSpec.ofChange gridClustersSpec)

/-- ITS FALSE NEIGHBOUR: 'it returns false'. Refute it at one input. -/
def gridClustersWrong : ChangeSpec := { name := "gridClusters", fn := fun _ => fun
  | [d1, d2, d3] => { results := [.lit (.bool false)], args := [d1, d2, d3] }
  | _ => none }
def GridClustersWrongFalsely : Prop := gridClustersRow.holds Tryd.pinned (OpenSpec.ofChange gridClustersWrong)

/-- 'sixdotlaw12.GridCells': WHATEVER THE INPUT: true; the input reads as it did. -/
def gridCellsSpec : ChangeSpec := { name := "gridCells", fn := fun _ => fun
  | [d1, d2, d3] => { results := [.lit (.bool true)], args := [d1, d2, d3] }
  | _ => none }
def gridCellsRow : OpenClaim := { program := "ytejpbhindcglpaadoor", sum := "677c78b5530dbb13542b4cd4ea75878ba4217e0b9ef6037ff91167c8cfa4d879", func := "sixdot/sixdotlaw12.GridCells", spec := "gridCells", unfollowed := true, recurses := true, named := ["sixdot/grid.offsets"], apart := false, laid := [("sixdot/grid.offsets", laid_sixdot_grid_offsets)] }
def GridCellsSaid : Prop := gridCellsRow.holds Tryd.pinned (OpenSpec.ofChange gridCellsSpec)

/-- ITS FALSE NEIGHBOUR: 'it returns false'. Refute it at one input. -/
def gridCellsWrong : ChangeSpec := { name := "gridCells", fn := fun _ => fun
  | [d1, d2, d3] => { results := [.lit (.bool false)], args := [d1, d2, d3] }
  | _ => none }
def GridCellsWrongFalsely : Prop := gridCellsRow.holds Tryd.pinned (OpenSpec.ofChange gridCellsWrong)

/-- 'sixdotlaw12.GridMatchesReference': WHATEVER THE INPUT: true; the input reads as it did. -/
def gridMatchesReferenceSpec : ChangeSpec := { name := "gridMatchesReference", fn := fun _ => fun
  | [d1, d2, d3] => { results := [.lit (.bool true)], args := [d1, d2, d3] }
  | _ => none }
def gridMatchesReferenceRow : OpenClaim := { program := "ytejpbhindcglpaadoor", sum := "677c78b5530dbb13542b4cd4ea75878ba4217e0b9ef6037ff91167c8cfa4d879", func := "sixdot/sixdotlaw12.GridMatchesReference", spec := "gridMatchesReference", unfollowed := true, recurses := true, named := ["sixdot/grid.offsets"], apart := false, laid := [("sixdot/grid.offsets", laid_sixdot_grid_offsets)] }
def GridMatchesReferenceSaid : Prop := gridMatchesReferenceRow.holds Tryd.pinned (OpenSpec.ofChange gridMatchesReferenceSpec)

/-- ITS FALSE NEIGHBOUR: 'it returns false'. Refute it at one input. -/
def gridMatchesReferenceWrong : ChangeSpec := { name := "gridMatchesReference", fn := fun _ => fun
  | [d1, d2, d3] => { results := [.lit (.bool false)], args := [d1, d2, d3] }
  | _ => none }
def GridMatchesReferenceWrongFalsely : Prop := gridMatchesReferenceRow.holds Tryd.pinned (OpenSpec.ofChange gridMatchesReferenceWrong)

/-- 'sixdotlaw12.GridPlots': WHATEVER THE INPUT: true; the input reads as it did. -/
def gridPlotsSpec : ChangeSpec := { name := "gridPlots", fn := fun _ => fun
  | [d1, d2, d3] => { results := [.lit (.bool true)], args := [d1, d2, d3] }
  | _ => none }
def gridPlotsRow : OpenClaim := { program := "ytejpbhindcglpaadoor", sum := "677c78b5530dbb13542b4cd4ea75878ba4217e0b9ef6037ff91167c8cfa4d879", func := "sixdot/sixdotlaw12.GridPlots", spec := "gridPlots", unfollowed := true, recurses := true, named := ["sixdot/grid.offsets"], apart := false, laid := [("sixdot/grid.offsets", laid_sixdot_grid_offsets)] }
def GridPlotsSaid : Prop := gridPlotsRow.holds Tryd.pinned (OpenSpec.ofChange gridPlotsSpec)

/-- ITS FALSE NEIGHBOUR: 'it returns false'. Refute it at one input. -/
def gridPlotsWrong : ChangeSpec := { name := "gridPlots", fn := fun _ => fun
  | [d1, d2, d3] => { results := [.lit (.bool false)], args := [d1, d2, d3] }
  | _ => none }
def GridPlotsWrongFalsely : Prop := gridPlotsRow.holds Tryd.pinned (OpenSpec.ofChange gridPlotsWrong)

/- THE SECOND FORM. 'bulk': how many values and letters a reading holds, each counted each time it is reached (what is shared counts as often as it is met; a slice's spare places count too). A statement '..UptoSaid' is the law's where the arguments, and the package variables that the reading takes, are together of bulk at most 1048576: NARROWER than '..Said'. Prove '..Said' where nothing that the law and all that it calls make is longer than what came in: it says more and counts as full. Else prove '..UptoSaid'. A law counts once. -/
mutual
def uptoBulk {H : Type} : DataW H → Nat
  | .lit (.string bytes) => bytes.length + 1
  | .lit _ => 1
  | .nil => 1
  | .ptr d => uptoBulk d + 1
  | .slice elems spare => uptoBulkAll elems + uptoBulkAll spare + 1
  | .agg parts => uptoBulkAll parts + 1
  | .iface _ d => uptoBulk d + 1
  | .map entries => uptoBulkEntries entries + 1
  | .held _ => 1
def uptoBulkAll {H : Type} : List (DataW H) → Nat
  | [] => 0
  | d :: r => uptoBulk d + uptoBulkAll r
def uptoBulkEntries {H : Type} : List (Lit × DataW H) → Nat
  | [] => 0
  | x :: r => uptoBulkEntry x + uptoBulkEntries r
def uptoBulkEntry {H : Type} : Lit × DataW H → Nat
  | (.string bytes, d) => bytes.length + uptoBulk d + 1
  | (_, d) => uptoBulk d + 1
 end
def uptoSmall : (H : Type) → List (DataW H) → Bool := fun _ ds => decide (uptoBulkAll ds ≤ 1048576)
def OpenSpec.upto (s : _root_.Go.ChangeSpec) : _root_.Go.OpenSpec := { _root_.Go.OpenSpec.ofChange s with cond := some uptoSmall }

/-- 'sixdotlaw12.GridValid', WHERE WHAT IT READS IS OF BULK AT MOST 1048576: true; the input reads as it did. -/
def gridValidUptoRow : OpenClaim := { program := "ytejpbhindcglpaadoor", sum := "677c78b5530dbb13542b4cd4ea75878ba4217e0b9ef6037ff91167c8cfa4d879", func := "sixdot/sixdotlaw12.GridValid", spec := "gridValid", unfollowed := true, recurses := true, named := ["sixdot/grid.offsets"], apart := false, laid := [("sixdot/grid.offsets", laid_sixdot_grid_offsets)], narrowed := true }
def GridValidUptoSaid : Prop := gridValidUptoRow.holds Tryd.pinned (OpenSpec.upto gridValidSpec)

/-- 'sixdotlaw12.GridLines', WHERE WHAT IT READS IS OF BULK AT MOST 1048576: true; the input reads as it did. -/
def gridLinesUptoRow : OpenClaim := { program := "ytejpbhindcglpaadoor", sum := "677c78b5530dbb13542b4cd4ea75878ba4217e0b9ef6037ff91167c8cfa4d879", func := "sixdot/sixdotlaw12.GridLines", spec := "gridLines", unfollowed := true, recurses := true, named := ["sixdot/grid.offsets"], apart := false, laid := [("sixdot/grid.offsets", laid_sixdot_grid_offsets)], narrowed := true }
def GridLinesUptoSaid : Prop := gridLinesUptoRow.holds Tryd.pinned (OpenSpec.upto gridLinesSpec)

/-- 'sixdotlaw12.GridDistances', WHERE WHAT IT READS IS OF BULK AT MOST 1048576: true; the input reads as it did. -/
def gridDistancesUptoRow : OpenClaim := { program := "ytejpbhindcglpaadoor", sum := "677c78b5530dbb13542b4cd4ea75878ba4217e0b9ef6037ff91167c8cfa4d879", func := "sixdot/sixdotlaw12.GridDistances", spec := "gridDistances", unfollowed := true, recurses := true, named := ["sixdot/grid.offsets"], apart := false, laid := [("sixdot/grid.offsets", laid_sixdot_grid_offsets)], narrowed := true }
def GridDistancesUptoSaid : Prop := gridDistancesUptoRow.holds Tryd.pinned (OpenSpec.upto gridDistancesSpec)

/-- 'sixdotlaw12.GridClusters', WHERE WHAT IT READS IS OF BULK AT MOST 1048576: true; the input reads as it did. -/
def gridClustersUptoRow : OpenClaim := { program := "ytejpbhindcglpaadoor", sum := "677c78b5530dbb13542b4cd4ea75878ba4217e0b9ef6037ff91167c8cfa4d879", func := "sixdot/sixdotlaw12.GridClusters", spec := "gridClusters", unfollowed := true, recurses := true, named := ["sixdot/grid.offsets"], apart := false, laid := [("sixdot/grid.offsets", laid_sixdot_grid_offsets)], narrowed := true }
def GridClustersUptoSaid : Prop := gridClustersUptoRow.holds Tryd.pinned (OpenSpec.upto gridClustersSpec)

/-- 'sixdotlaw12.GridCells', WHERE WHAT IT READS IS OF BULK AT MOST 1048576: true; the input reads as it did. -/
def gridCellsUptoRow : OpenClaim := { program := "ytejpbhindcglpaadoor", sum := "677c78b5530dbb13542b4cd4ea75878ba4217e0b9ef6037ff91167c8cfa4d879", func := "sixdot/sixdotlaw12.GridCells", spec := "gridCells", unfollowed := true, recurses := true, named := ["sixdot/grid.offsets"], apart := false, laid := [("sixdot/grid.offsets", laid_sixdot_grid_offsets)], narrowed := true }
def GridCellsUptoSaid : Prop := gridCellsUptoRow.holds Tryd.pinned (OpenSpec.upto gridCellsSpec)

/-- 'sixdotlaw12.GridMatchesReference', WHERE WHAT IT READS IS OF BULK AT MOST 1048576: true; the input reads as it did. -/
def gridMatchesReferenceUptoRow : OpenClaim := { program := "ytejpbhindcglpaadoor", sum := "677c78b5530dbb13542b4cd4ea75878ba4217e0b9ef6037ff91167c8cfa4d879", func := "sixdot/sixdotlaw12.GridMatchesReference", spec := "gridMatchesReference", unfollowed := true, recurses := true, named := ["sixdot/grid.offsets"], apart := false, laid := [("sixdot/grid.offsets", laid_sixdot_grid_offsets)], narrowed := true }
def GridMatchesReferenceUptoSaid : Prop := gridMatchesReferenceUptoRow.holds Tryd.pinned (OpenSpec.upto gridMatchesReferenceSpec)

/-- 'sixdotlaw12.GridPlots', WHERE WHAT IT READS IS OF BULK AT MOST 1048576: true; the input reads as it did. -/
def gridPlotsUptoRow : OpenClaim := { program := "ytejpbhindcglpaadoor", sum := "677c78b5530dbb13542b4cd4ea75878ba4217e0b9ef6037ff91167c8cfa4d879", func := "sixdot/sixdotlaw12.GridPlots", spec := "gridPlots", unfollowed := true, recurses := true, named := ["sixdot/grid.offsets"], apart := false, laid := [("sixdot/grid.offsets", laid_sixdot_grid_offsets)], narrowed := true }
def GridPlotsUptoSaid : Prop := gridPlotsUptoRow.holds Tryd.pinned (OpenSpec.upto gridPlotsSpec)

end Rows
end Go.Proofs.YtejpbhindcglpaaDoor
