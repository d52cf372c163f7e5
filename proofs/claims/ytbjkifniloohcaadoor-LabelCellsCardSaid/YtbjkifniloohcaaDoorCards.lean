/-
  DERIVED. GIVEN WITH THE SEED: THE CARDS: each row of YtbjkifniloohcaaDoorRows.lean that lists a variable, with what it lists TIED to the program's text (the seventh form; the later family's looks); each row that meets fmt, with fmt's text TOLD by the authors' own Lean function (tested against real Go, not proved from fmt's source: count such statements apart). THE CARD IS WHAT COUNTS. Prove the row's statement (the work); the ties are given (YtbjkifniloohcaaDoorTie.lean); close each card by the builder's one call (the guide's Derived/Test/ToyasCard.lean, 'card_holds'). Laid BY PROGRAM, IN A SANDBOX (cutbox-door.mjs). By AI agents, Wed Nov 11 2026. No macro, syntax, notation, axiom, sorry.
-/
import Derived.Test.YtbjkifniloohcaaDoorRows
import GoSem.ClaimSeven
namespace Go.Proofs.YtbjkifniloohcaaDoor
namespace Rows

/-- THE TIED CARD OF 'sixdotlaw15.LabelCells'. -/
def labelCellsCard : Claim7 := { stood := { row := labelCellsRow, standIns := [], harness := (true, "f881edab52ee1ac45515dbd2453b00596464d1488df3b705bfe853ad78ca0c63"), looks := false }, kinds := [], alts := [], laidByText := true, laidKinds := [.data], laidTests := true, laidLooks := .later }
def LabelCellsCardSaid : Prop := Claim7.holds Tryd.pinned (.plain (OpenSpec.ofChange labelCellsSpec)) labelCellsCard

/-- THE SECOND FORM's CARD OF 'sixdotlaw15.LabelCells'. -/
def labelCellsUptoCard : Claim7 := { stood := { row := labelCellsUptoRow, standIns := [], harness := (true, "f881edab52ee1ac45515dbd2453b00596464d1488df3b705bfe853ad78ca0c63"), looks := false }, kinds := [], alts := [], laidByText := true, laidKinds := [.data], laidTests := true, laidLooks := .later }
def LabelCellsUptoCardSaid : Prop := Claim7.holds Tryd.pinned (.plain (OpenSpec.upto labelCellsSpec)) labelCellsUptoCard
end Rows
end Go.Proofs.YtbjkifniloohcaaDoor
