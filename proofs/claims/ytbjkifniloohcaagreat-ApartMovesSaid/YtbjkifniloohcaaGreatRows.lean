/-
  No cell of these rows narrows 'for every input' (looked for: loops, veiled, ifaces, maps, wideKeys, modest, calm, conditions, laid).
  DERIVED. THE GIVEN ROWS OF THIS SEAT. 6 by the template 'for every input the law returns true; each argument reads behind the call as it read before'; 0 by the template 'total and deterministic' (their statements: YtbjkifniloohcaaGreatTotals.lean).
  GIVEN WITH THE SEED: the statements are not yours to turn. If you find one false, say at which input.
  Laid BY PROGRAM, IN A SANDBOX (cutbox-rows.mjs): the forced cells as the released guide's own fill.sh prints them over the translation 54c578aed3e5f124… (all of the seat's roots in one cut). By AI agents, Wed Nov 11 2026. No macro, syntax, notation, axiom, sorry.
-/
import Derived.Test.YtbjkifniloohcaaGreatChecked
import GoSem.Claim
import GoSem.ClaimJoined
import GoSem.ClaimMapViews
import Derived.JoinedTies
import Derived.KernelRfl
namespace Go.Proofs.YtbjkifniloohcaaGreat
/- THE CELL 'sum', in the pinned program and in every row, IS THE sha256 OF THE DUMP (.gsa) THAT YtbjkifniloohcaaGreatProg.lean LOADS. Nothing in Lean hashes anything: it is a label: what it is worth is what the hold of that sum in a sandbox is worth. -/
noncomputable def Tryz.pinned : Pinned := { name := "ytbjkifniloohcaagreat", sum := "54c578aed3e5f124b29bb2137367c6628b95c78daa1a1931446149d67eb43787", checked := Tryz.checked }
namespace Rows
def none {H : Type} : Left H := { results := [], args := [] }

/-- 'sixdotlaw14.ApartMatchesReference': WHATEVER THE INPUT: true; the input reads as it did. -/
def apartMatchesReferenceSpec : ChangeSpec := { name := "apartMatchesReference", fn := fun _ => fun
  | [d1, d2] => { results := [.lit (.bool true)], args := [d1, d2] }
  | _ => none }
def apartMatchesReferenceRow : OpenClaim := { program := "ytbjkifniloohcaagreat", sum := "54c578aed3e5f124b29bb2137367c6628b95c78daa1a1931446149d67eb43787", func := "sixdot/sixdotlaw14.ApartMatchesReference", spec := "apartMatchesReference", unfollowed := true, recurses := true, plainKeys := false, apart := false }
def ApartMatchesReferenceSaid : Prop := apartMatchesReferenceRow.holds Tryz.pinned (OpenSpec.ofChange apartMatchesReferenceSpec)

/-- ITS FALSE NEIGHBOUR: 'it returns false'. Refute it at one input. -/
def apartMatchesReferenceWrong : ChangeSpec := { name := "apartMatchesReference", fn := fun _ => fun
  | [d1, d2] => { results := [.lit (.bool false)], args := [d1, d2] }
  | _ => none }
def ApartMatchesReferenceWrongFalsely : Prop := apartMatchesReferenceRow.holds Tryz.pinned (OpenSpec.ofChange apartMatchesReferenceWrong)

/-- 'sixdotlaw14.ApartMeasures': WHATEVER THE INPUT: true; the input reads as it did. -/
def apartMeasuresSpec : ChangeSpec := { name := "apartMeasures", fn := fun _ => fun
  | [d1, d2] => { results := [.lit (.bool true)], args := [d1, d2] }
  | _ => none }
def apartMeasuresRow : OpenClaim := { program := "ytbjkifniloohcaagreat", sum := "54c578aed3e5f124b29bb2137367c6628b95c78daa1a1931446149d67eb43787", func := "sixdot/sixdotlaw14.ApartMeasures", spec := "apartMeasures", unfollowed := true, recurses := true, plainKeys := false, apart := false }
def ApartMeasuresSaid : Prop := apartMeasuresRow.holds Tryz.pinned (OpenSpec.ofChange apartMeasuresSpec)

/-- ITS FALSE NEIGHBOUR: 'it returns false'. Refute it at one input. -/
def apartMeasuresWrong : ChangeSpec := { name := "apartMeasures", fn := fun _ => fun
  | [d1, d2] => { results := [.lit (.bool false)], args := [d1, d2] }
  | _ => none }
def ApartMeasuresWrongFalsely : Prop := apartMeasuresRow.holds Tryz.pinned (OpenSpec.ofChange apartMeasuresWrong)

/-- 'sixdotlaw14.ApartClusters': WHATEVER THE INPUT: true; the input reads as it did. -/
def apartClustersSpec : ChangeSpec := { name := "apartClusters", fn := fun _ => fun
  | [d] => { results := [.lit (.bool true)], args := [d] }
  | _ => none }
def apartClustersRow : OpenClaim := { program := "ytbjkifniloohcaagreat", sum := "54c578aed3e5f124b29bb2137367c6628b95c78daa1a1931446149d67eb43787", func := "sixdot/sixdotlaw14.ApartClusters", spec := "apartClusters", unfollowed := true, recurses := true, plainKeys := false, apart := false }
def ApartClustersSaid : Prop := apartClustersRow.holds Tryz.pinned (OpenSpec.ofChange apartClustersSpec)

/-- ITS FALSE NEIGHBOUR: 'it returns false'. Refute it at one input. -/
def apartClustersWrong : ChangeSpec := { name := "apartClusters", fn := fun _ => fun
  | [d] => { results := [.lit (.bool false)], args := [d] }
  | _ => none }
def ApartClustersWrongFalsely : Prop := apartClustersRow.holds Tryz.pinned (OpenSpec.ofChange apartClustersWrong)

/-- 'sixdotlaw14.ApartMoves': WHATEVER THE INPUT: true; the input reads as it did. -/
def apartMovesSpec : ChangeSpec := { name := "apartMoves", fn := fun _ => fun
  | [d1, d2] => { results := [.lit (.bool true)], args := [d1, d2] }
  | _ => none }
def apartMovesRow : OpenClaim := { program := "ytbjkifniloohcaagreat", sum := "54c578aed3e5f124b29bb2137367c6628b95c78daa1a1931446149d67eb43787", func := "sixdot/sixdotlaw14.ApartMoves", spec := "apartMoves", unfollowed := true, recurses := true, plainKeys := false, apart := false }
def ApartMovesSaid : Prop := apartMovesRow.holds Tryz.pinned (OpenSpec.ofChange apartMovesSpec)

/-- ITS FALSE NEIGHBOUR: 'it returns false'. Refute it at one input. -/
def apartMovesWrong : ChangeSpec := { name := "apartMoves", fn := fun _ => fun
  | [d1, d2] => { results := [.lit (.bool false)], args := [d1, d2] }
  | _ => none }
def ApartMovesWrongFalsely : Prop := apartMovesRow.holds Tryz.pinned (OpenSpec.ofChange apartMovesWrong)

/-- 'sixdotlaw14.ApartGaps': WHATEVER THE INPUT: true; the input reads as it did. -/
def apartGapsSpec : ChangeSpec := { name := "apartGaps", fn := fun _ => fun
  | [d] => { results := [.lit (.bool true)], args := [d] }
  | _ => none }
def apartGapsRow : OpenClaim := { program := "ytbjkifniloohcaagreat", sum := "54c578aed3e5f124b29bb2137367c6628b95c78daa1a1931446149d67eb43787", func := "sixdot/sixdotlaw14.ApartGaps", spec := "apartGaps", unfollowed := true, recurses := true, plainKeys := false, apart := false }
def ApartGapsSaid : Prop := apartGapsRow.holds Tryz.pinned (OpenSpec.ofChange apartGapsSpec)

/-- ITS FALSE NEIGHBOUR: 'it returns false'. Refute it at one input. -/
def apartGapsWrong : ChangeSpec := { name := "apartGaps", fn := fun _ => fun
  | [d] => { results := [.lit (.bool false)], args := [d] }
  | _ => none }
def ApartGapsWrongFalsely : Prop := apartGapsRow.holds Tryz.pinned (OpenSpec.ofChange apartGapsWrong)

/-- 'sixdotlaw14.ApartOrders': WHATEVER THE INPUT: true; the input reads as it did. -/
def apartOrdersSpec : ChangeSpec := { name := "apartOrders", fn := fun _ => fun
  | [d1, d2] => { results := [.lit (.bool true)], args := [d1, d2] }
  | _ => none }
def apartOrdersRow : OpenClaim := { program := "ytbjkifniloohcaagreat", sum := "54c578aed3e5f124b29bb2137367c6628b95c78daa1a1931446149d67eb43787", func := "sixdot/sixdotlaw14.ApartOrders", spec := "apartOrders", unfollowed := true, recurses := true, plainKeys := false, apart := false }
def ApartOrdersSaid : Prop := apartOrdersRow.holds Tryz.pinned (OpenSpec.ofChange apartOrdersSpec)

/-- ITS FALSE NEIGHBOUR: 'it returns false'. Refute it at one input. -/
def apartOrdersWrong : ChangeSpec := { name := "apartOrders", fn := fun _ => fun
  | [d1, d2] => { results := [.lit (.bool false)], args := [d1, d2] }
  | _ => none }
def ApartOrdersWrongFalsely : Prop := apartOrdersRow.holds Tryz.pinned (OpenSpec.ofChange apartOrdersWrong)

/- THE SECOND FORM. 'bulk': how many values and letters a reading holds, each counted each time it is reached (what is shared counts as often as it is met; a slice's spare places count too). A statement '..UptoSaid' is the law's where the arguments, and the package variables that the reading takes, are together of bulk at most 1048576: NARROWER than '..Said'. Prove '..Said' where nothing that the law and all that it calls make is longer than what came in: it says more and counts as full. Else prove '..UptoSaid'. A law counts once. -/
mutual
def uptoBulk {H : Type} : DataW H → Nat
  | .lit (.string bytes) => bytes.length + 1
  | .lit _ => 1
  | .nil => 1
  | .ptr d => uptoBulk d + 1
  | .slice elems spare => uptoBulkAll elems + uptoBulkAll spare + 1
  | .agg parts => uptoBulkAll parts + 1
  | .iface _ d => uptoBulk d + 1
  | .map entries => uptoBulkEntries entries + 1
  | .held _ => 1
def uptoBulkAll {H : Type} : List (DataW H) → Nat
  | [] => 0
  | d :: r => uptoBulk d + uptoBulkAll r
def uptoBulkEntries {H : Type} : List (Lit × DataW H) → Nat
  | [] => 0
  | x :: r => uptoBulkEntry x + uptoBulkEntries r
def uptoBulkEntry {H : Type} : Lit × DataW H → Nat
  | (.string bytes, d) => bytes.length + uptoBulk d + 1
  | (_, d) => uptoBulk d + 1
 end
def uptoSmall : (H : Type) → List (DataW H) → Bool := fun _ ds => decide (uptoBulkAll ds ≤ 1048576)
def OpenSpec.upto (s : _root_.Go.ChangeSpec) : _root_.Go.OpenSpec := { _root_.Go.OpenSpec.ofChange s with cond := some uptoSmall }

/-- 'sixdotlaw14.ApartMatchesReference', WHERE WHAT IT READS IS OF BULK AT MOST 1048576: true; the input reads as it did. -/
def apartMatchesReferenceUptoRow : OpenClaim := { program := "ytbjkifniloohcaagreat", sum := "54c578aed3e5f124b29bb2137367c6628b95c78daa1a1931446149d67eb43787", func := "sixdot/sixdotlaw14.ApartMatchesReference", spec := "apartMatchesReference", unfollowed := true, recurses := true, plainKeys := false, apart := false, narrowed := true }
def ApartMatchesReferenceUptoSaid : Prop := apartMatchesReferenceUptoRow.holds Tryz.pinned (OpenSpec.upto apartMatchesReferenceSpec)

/-- 'sixdotlaw14.ApartMeasures', WHERE WHAT IT READS IS OF BULK AT MOST 1048576: true; the input reads as it did. -/
def apartMeasuresUptoRow : OpenClaim := { program := "ytbjkifniloohcaagreat", sum := "54c578aed3e5f124b29bb2137367c6628b95c78daa1a1931446149d67eb43787", func := "sixdot/sixdotlaw14.ApartMeasures", spec := "apartMeasures", unfollowed := true, recurses := true, plainKeys := false, apart := false, narrowed := true }
def ApartMeasuresUptoSaid : Prop := apartMeasuresUptoRow.holds Tryz.pinned (OpenSpec.upto apartMeasuresSpec)

/-- 'sixdotlaw14.ApartClusters', WHERE WHAT IT READS IS OF BULK AT MOST 1048576: true; the input reads as it did. -/
def apartClustersUptoRow : OpenClaim := { program := "ytbjkifniloohcaagreat", sum := "54c578aed3e5f124b29bb2137367c6628b95c78daa1a1931446149d67eb43787", func := "sixdot/sixdotlaw14.ApartClusters", spec := "apartClusters", unfollowed := true, recurses := true, plainKeys := false, apart := false, narrowed := true }
def ApartClustersUptoSaid : Prop := apartClustersUptoRow.holds Tryz.pinned (OpenSpec.upto apartClustersSpec)

/-- 'sixdotlaw14.ApartMoves', WHERE WHAT IT READS IS OF BULK AT MOST 1048576: true; the input reads as it did. -/
def apartMovesUptoRow : OpenClaim := { program := "ytbjkifniloohcaagreat", sum := "54c578aed3e5f124b29bb2137367c6628b95c78daa1a1931446149d67eb43787", func := "sixdot/sixdotlaw14.ApartMoves", spec := "apartMoves", unfollowed := true, recurses := true, plainKeys := false, apart := false, narrowed := true }
def ApartMovesUptoSaid : Prop := apartMovesUptoRow.holds Tryz.pinned (OpenSpec.upto apartMovesSpec)

/-- 'sixdotlaw14.ApartGaps', WHERE WHAT IT READS IS OF BULK AT MOST 1048576: true; the input reads as it did. -/
def apartGapsUptoRow : OpenClaim := { program := "ytbjkifniloohcaagreat", sum := "54c578aed3e5f124b29bb2137367c6628b95c78daa1a1931446149d67eb43787", func := "sixdot/sixdotlaw14.ApartGaps", spec := "apartGaps", unfollowed := true, recurses := true, plainKeys := false, apart := false, narrowed := true }
def ApartGapsUptoSaid : Prop := apartGapsUptoRow.holds Tryz.pinned (OpenSpec.upto apartGapsSpec)

/-- 'sixdotlaw14.ApartOrders', WHERE WHAT IT READS IS OF BULK AT MOST 1048576: true; the input reads as it did. -/
def apartOrdersUptoRow : OpenClaim := { program := "ytbjkifniloohcaagreat", sum := "54c578aed3e5f124b29bb2137367c6628b95c78daa1a1931446149d67eb43787", func := "sixdot/sixdotlaw14.ApartOrders", spec := "apartOrders", unfollowed := true, recurses := true, plainKeys := false, apart := false, narrowed := true }
def ApartOrdersUptoSaid : Prop := apartOrdersUptoRow.holds Tryz.pinned (OpenSpec.upto apartOrdersSpec)

end Rows
end Go.Proofs.YtbjkifniloohcaaGreat
