/-
  DERIVED. GIVEN WITH THE SEED: THE CARDS: each row of YtodegnniljbflaaDoorRows.lean that lists a variable, with what it lists TIED to the program's text (the seventh form; the later family's looks); each row that meets fmt, with fmt's text TOLD by the authors' own Lean function (tested against real Go, not proved from fmt's source: count such statements apart). THE CARD IS WHAT COUNTS. Prove the row's statement (the work); the ties are given (YtodegnniljbflaaDoorTie.lean); close each card by the builder's one call (the guide's Derived/Test/ToyasCard.lean, 'card_holds'). Laid BY PROGRAM, IN A SANDBOX (cutbox-door.mjs). By AI agents, Wed Nov 11 2026. No macro, syntax, notation, axiom, sorry.
-/
import Derived.Test.YtodegnniljbflaaDoorRows
import GoSem.ClaimSeven
namespace Go.Proofs.YtodegnniljbflaaDoor
namespace Rows

/-- THE TIED CARD OF 'sixdotlaw34.BindBeginnings'. -/
def bindBeginningsCard : Claim7 := { stood := { row := bindBeginningsRow, standIns := [], harness := (true, "a886eff0688e7af0e0ad5f23e04200d1e2ff82ff4723aa7a410562aee0286dff"), looks := false }, kinds := [], alts := [], laidByText := true, laidKinds := [.data, .data, .data, .data, .data, .data], laidTests := true, laidLooks := .later }
def BindBeginningsCardSaid : Prop := Claim7.holds Tryd.pinned (.plain (OpenSpec.ofChange bindBeginningsSpec)) bindBeginningsCard

/-- THE TIED CARD OF 'sixdotlaw34.BindInserted'. -/
def bindInsertedCard : Claim7 := { stood := { row := bindInsertedRow, standIns := [], harness := (true, "a886eff0688e7af0e0ad5f23e04200d1e2ff82ff4723aa7a410562aee0286dff"), looks := false }, kinds := [], alts := [], laidByText := true, laidKinds := [.data, .data, .data, .data, .data, .data], laidTests := true, laidLooks := .later }
def BindInsertedCardSaid : Prop := Claim7.holds Tryd.pinned (.plain (OpenSpec.ofChange bindInsertedSpec)) bindInsertedCard

/-- THE SECOND FORM's CARD OF 'sixdotlaw34.BindBeginnings'. -/
def bindBeginningsUptoCard : Claim7 := { stood := { row := bindBeginningsUptoRow, standIns := [], harness := (true, "a886eff0688e7af0e0ad5f23e04200d1e2ff82ff4723aa7a410562aee0286dff"), looks := false }, kinds := [], alts := [], laidByText := true, laidKinds := [.data, .data, .data, .data, .data, .data], laidTests := true, laidLooks := .later }
def BindBeginningsUptoCardSaid : Prop := Claim7.holds Tryd.pinned (.plain (OpenSpec.upto bindBeginningsSpec)) bindBeginningsUptoCard

/-- THE SECOND FORM's CARD OF 'sixdotlaw34.BindInserted'. -/
def bindInsertedUptoCard : Claim7 := { stood := { row := bindInsertedUptoRow, standIns := [], harness := (true, "a886eff0688e7af0e0ad5f23e04200d1e2ff82ff4723aa7a410562aee0286dff"), looks := false }, kinds := [], alts := [], laidByText := true, laidKinds := [.data, .data, .data, .data, .data, .data], laidTests := true, laidLooks := .later }
def BindInsertedUptoCardSaid : Prop := Claim7.holds Tryd.pinned (.plain (OpenSpec.upto bindInsertedSpec)) bindInsertedUptoCard
end Rows
end Go.Proofs.YtodegnniljbflaaDoor
