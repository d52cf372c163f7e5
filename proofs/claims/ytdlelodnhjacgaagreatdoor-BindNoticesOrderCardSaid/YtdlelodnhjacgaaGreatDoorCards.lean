/-
  DERIVED. GIVEN WITH THE SEED: THE CARDS: each row of YtdlelodnhjacgaaGreatDoorRows.lean that lists a variable, with what it lists TIED to the program's text (the seventh form; the later family's looks); each row that meets fmt, with fmt's text TOLD by the authors' own Lean function (tested against real Go, not proved from fmt's source: count such statements apart). THE CARD IS WHAT COUNTS. Prove the row's statement (the work); the ties are given (YtdlelodnhjacgaaGreatDoorTie.lean); close each card by the builder's one call (the guide's Derived/Test/ToyasCard.lean, 'card_holds'). Laid BY PROGRAM, IN A SANDBOX (cutbox-door.mjs). By AI agents, Wed Nov 11 2026. No macro, syntax, notation, axiom, sorry.
-/
import Derived.Test.YtdlelodnhjacgaaGreatDoorRows
import GoSem.ClaimSeven
namespace Go.Proofs.YtdlelodnhjacgaaGreatDoor
namespace Rows

/-- THE TIED CARD OF 'sixdotlaw34.BindNoticesOrder'. -/
def bindNoticesOrderCard : Claim7 := { stood := { row := bindNoticesOrderRow, standIns := [], harness := (true, "3afc4e9810c7f1bba444d8c7a65fd6a2e10384e281f796b39f56c7df2bccd2dd"), looks := false }, kinds := [], alts := [], laidByText := true, laidKinds := [.data, .data, .data, .data, .data, .data], laidTests := true, laidLooks := .later }
def BindNoticesOrderCardSaid : Prop := Claim7.holds Tryz.pinned (.plain (OpenSpec.ofChange bindNoticesOrderSpec)) bindNoticesOrderCard

/-- THE SECOND FORM's CARD OF 'sixdotlaw34.BindNoticesOrder'. -/
def bindNoticesOrderUptoCard : Claim7 := { stood := { row := bindNoticesOrderUptoRow, standIns := [], harness := (true, "3afc4e9810c7f1bba444d8c7a65fd6a2e10384e281f796b39f56c7df2bccd2dd"), looks := false }, kinds := [], alts := [], laidByText := true, laidKinds := [.data, .data, .data, .data, .data, .data], laidTests := true, laidLooks := .later }
def BindNoticesOrderUptoCardSaid : Prop := Claim7.holds Tryz.pinned (.plain (OpenSpec.upto bindNoticesOrderSpec)) bindNoticesOrderUptoCard
end Rows
end Go.Proofs.YtdlelodnhjacgaaGreatDoor
