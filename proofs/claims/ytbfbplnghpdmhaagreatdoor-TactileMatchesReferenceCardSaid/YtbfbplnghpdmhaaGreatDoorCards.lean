/-
  DERIVED. GIVEN WITH THE SEED: THE CARDS: each row of YtbfbplnghpdmhaaGreatDoorRows.lean that lists a variable, with what it lists TIED to the program's text (the seventh form; the later family's looks); each row that meets fmt, with fmt's text TOLD by the authors' own Lean function (tested against real Go, not proved from fmt's source: count such statements apart). THE CARD IS WHAT COUNTS. Prove the row's statement (the work); the ties are given (YtbfbplnghpdmhaaGreatDoorTie.lean); close each card by the builder's one call (the guide's Derived/Test/ToyasCard.lean, 'card_holds'). Laid BY PROGRAM, IN A SANDBOX (cutbox-door.mjs). By AI agents, Wed Nov 11 2026. No macro, syntax, notation, axiom, sorry.
-/
import Derived.Test.YtbfbplnghpdmhaaGreatDoorRows
import GoSem.ClaimSeven
namespace Go.Proofs.YtbfbplnghpdmhaaGreatDoor
namespace Rows

/-- THE TIED CARD OF 'sixdotlaw16.TactileMatchesReference'. -/
def tactileMatchesReferenceCard : Claim7 := { stood := { row := tactileMatchesReferenceRow, standIns := [], harness := (true, "b81c57f8a6541d71ca7a999903e632ee1969b765e720f2e5d3c04ea5e4f9a9a2"), looks := false }, kinds := [], alts := [], laidByText := true, laidKinds := [.data], laidTests := true, laidLooks := .later }
def TactileMatchesReferenceCardSaid : Prop := Claim7.holds Tryz.pinned (.plain (OpenSpec.ofChange tactileMatchesReferenceSpec)) tactileMatchesReferenceCard

/-- THE TIED CARD OF 'sixdotlaw16.TactileDraws'. -/
def tactileDrawsCard : Claim7 := { stood := { row := tactileDrawsRow, standIns := [], harness := (true, "b81c57f8a6541d71ca7a999903e632ee1969b765e720f2e5d3c04ea5e4f9a9a2"), looks := false }, kinds := [], alts := [], laidByText := true, laidKinds := [.data], laidTests := true, laidLooks := .later }
def TactileDrawsCardSaid : Prop := Claim7.holds Tryz.pinned (.plain (OpenSpec.ofChange tactileDrawsSpec)) tactileDrawsCard

/-- THE TIED CARD OF 'sixdotlaw16.TactileReads'. -/
def tactileReadsCard : Claim7 := { stood := { row := tactileReadsRow, standIns := [], harness := (true, "b81c57f8a6541d71ca7a999903e632ee1969b765e720f2e5d3c04ea5e4f9a9a2"), looks := false }, kinds := [], alts := [], laidByText := true, laidKinds := [.data], laidTests := true, laidLooks := .later }
def TactileReadsCardSaid : Prop := Claim7.holds Tryz.pinned (.plain (OpenSpec.ofChange tactileReadsSpec)) tactileReadsCard

/-- THE TIED CARD OF 'sixdotlaw16.TactileInCells'. -/
def tactileInCellsCard : Claim7 := { stood := { row := tactileInCellsRow, standIns := [], harness := (true, "b81c57f8a6541d71ca7a999903e632ee1969b765e720f2e5d3c04ea5e4f9a9a2"), looks := false }, kinds := [], alts := [], laidByText := true, laidKinds := [.data], laidTests := true, laidLooks := .later }
def TactileInCellsCardSaid : Prop := Claim7.holds Tryz.pinned (.plain (OpenSpec.ofChange tactileInCellsSpec)) tactileInCellsCard

/-- THE SECOND FORM's CARD OF 'sixdotlaw16.TactileMatchesReference'. -/
def tactileMatchesReferenceUptoCard : Claim7 := { stood := { row := tactileMatchesReferenceUptoRow, standIns := [], harness := (true, "b81c57f8a6541d71ca7a999903e632ee1969b765e720f2e5d3c04ea5e4f9a9a2"), looks := false }, kinds := [], alts := [], laidByText := true, laidKinds := [.data], laidTests := true, laidLooks := .later }
def TactileMatchesReferenceUptoCardSaid : Prop := Claim7.holds Tryz.pinned (.plain (OpenSpec.upto tactileMatchesReferenceSpec)) tactileMatchesReferenceUptoCard

/-- THE SECOND FORM's CARD OF 'sixdotlaw16.TactileDraws'. -/
def tactileDrawsUptoCard : Claim7 := { stood := { row := tactileDrawsUptoRow, standIns := [], harness := (true, "b81c57f8a6541d71ca7a999903e632ee1969b765e720f2e5d3c04ea5e4f9a9a2"), looks := false }, kinds := [], alts := [], laidByText := true, laidKinds := [.data], laidTests := true, laidLooks := .later }
def TactileDrawsUptoCardSaid : Prop := Claim7.holds Tryz.pinned (.plain (OpenSpec.upto tactileDrawsSpec)) tactileDrawsUptoCard

/-- THE SECOND FORM's CARD OF 'sixdotlaw16.TactileReads'. -/
def tactileReadsUptoCard : Claim7 := { stood := { row := tactileReadsUptoRow, standIns := [], harness := (true, "b81c57f8a6541d71ca7a999903e632ee1969b765e720f2e5d3c04ea5e4f9a9a2"), looks := false }, kinds := [], alts := [], laidByText := true, laidKinds := [.data], laidTests := true, laidLooks := .later }
def TactileReadsUptoCardSaid : Prop := Claim7.holds Tryz.pinned (.plain (OpenSpec.upto tactileReadsSpec)) tactileReadsUptoCard

/-- THE SECOND FORM's CARD OF 'sixdotlaw16.TactileInCells'. -/
def tactileInCellsUptoCard : Claim7 := { stood := { row := tactileInCellsUptoRow, standIns := [], harness := (true, "b81c57f8a6541d71ca7a999903e632ee1969b765e720f2e5d3c04ea5e4f9a9a2"), looks := false }, kinds := [], alts := [], laidByText := true, laidKinds := [.data], laidTests := true, laidLooks := .later }
def TactileInCellsUptoCardSaid : Prop := Claim7.holds Tryz.pinned (.plain (OpenSpec.upto tactileInCellsSpec)) tactileInCellsUptoCard
end Rows
end Go.Proofs.YtbfbplnghpdmhaaGreatDoor
