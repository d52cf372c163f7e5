/-
  DERIVED. GIVEN WITH THE SEED: THE CARDS: each row of YtandgamnamkkhaaGreatDoorRows.lean that lists a variable, with what it lists TIED to the program's text (the seventh form; the later family's looks); each row that meets fmt, with fmt's text TOLD by the authors' own Lean function (tested against real Go, not proved from fmt's source: count such statements apart). THE CARD IS WHAT COUNTS. Prove the row's statement (the work); the ties are given (YtandgamnamkkhaaGreatDoorTie.lean); close each card by the builder's one call (the guide's Derived/Test/ToyasCard.lean, 'card_holds'). Laid BY PROGRAM, IN A SANDBOX (cutbox-door.mjs). By AI agents, Wed Nov 11 2026. No macro, syntax, notation, axiom, sorry.
-/
import Derived.Test.YtandgamnamkkhaaGreatDoorRows
import GoSem.ClaimSeven
namespace Go.Proofs.YtandgamnamkkhaaGreatDoor
namespace Rows

/-- THE TIED CARD OF 'sixdotlaw17.BookChecks'. -/
def bookChecksCard : Claim7 := { stood := { row := bookChecksRow, standIns := [], harness := (true, "4a021c562dc3fa8b9367e0c11937fc8086ba2dcefdad4c0265b17ea208a0b127"), looks := false }, kinds := [], alts := [], laidByText := true, laidKinds := [.data, .data, .data, .data, .data, .pinned], laidTests := true, laidLooks := .later }
def BookChecksCardSaid : Prop := Claim7.holds Tryz.pinned (.plain (OpenSpec.ofChange bookChecksSpec)) bookChecksCard

/-- THE TIED CARD OF 'sixdotlaw17.BookRoundTrips'. -/
def bookRoundTripsCard : Claim7 := { stood := { row := bookRoundTripsRow, standIns := [], harness := (true, "4a021c562dc3fa8b9367e0c11937fc8086ba2dcefdad4c0265b17ea208a0b127"), looks := false }, kinds := [], alts := [], laidByText := true, laidKinds := [.data, .data, .data, .data, .data, .pinned], laidTests := true, laidLooks := .later }
def BookRoundTripsCardSaid : Prop := Claim7.holds Tryz.pinned (.plain (OpenSpec.ofChange bookRoundTripsSpec)) bookRoundTripsCard

/-- THE TIED CARD OF 'sixdotlaw17.BookBegins'. -/
def bookBeginsCard : Claim7 := { stood := { row := bookBeginsRow, standIns := [], harness := (true, "4a021c562dc3fa8b9367e0c11937fc8086ba2dcefdad4c0265b17ea208a0b127"), looks := false }, kinds := [], alts := [], laidByText := true, laidKinds := [.data, .data, .data, .data, .data, .pinned], laidTests := true, laidLooks := .later }
def BookBeginsCardSaid : Prop := Claim7.holds Tryz.pinned (.plain (OpenSpec.ofChange bookBeginsSpec)) bookBeginsCard

/-- THE TIED CARD OF 'sixdotlaw17.BookJoins'. -/
def bookJoinsCard : Claim7 := { stood := { row := bookJoinsRow, standIns := [], harness := (true, "4a021c562dc3fa8b9367e0c11937fc8086ba2dcefdad4c0265b17ea208a0b127"), looks := false }, kinds := [], alts := [], laidByText := true, laidKinds := [.data, .data, .data, .data, .data, .pinned], laidTests := true, laidLooks := .later }
def BookJoinsCardSaid : Prop := Claim7.holds Tryz.pinned (.plain (OpenSpec.ofChange bookJoinsSpec)) bookJoinsCard

/-- THE TIED CARD OF 'sixdotlaw17.BookLimits'. -/
def bookLimitsCard : Claim7 := { stood := { row := bookLimitsRow, standIns := [], harness := (true, "4a021c562dc3fa8b9367e0c11937fc8086ba2dcefdad4c0265b17ea208a0b127"), looks := false }, kinds := [], alts := [], laidByText := true, laidKinds := [.data, .data, .data, .data, .data, .pinned], laidTests := true, laidLooks := .later }
def BookLimitsCardSaid : Prop := Claim7.holds Tryz.pinned (.plain (OpenSpec.ofChange bookLimitsSpec)) bookLimitsCard

/-- THE SECOND FORM's CARD OF 'sixdotlaw17.BookChecks'. -/
def bookChecksUptoCard : Claim7 := { stood := { row := bookChecksUptoRow, standIns := [], harness := (true, "4a021c562dc3fa8b9367e0c11937fc8086ba2dcefdad4c0265b17ea208a0b127"), looks := false }, kinds := [], alts := [], laidByText := true, laidKinds := [.data, .data, .data, .data, .data, .pinned], laidTests := true, laidLooks := .later }
def BookChecksUptoCardSaid : Prop := Claim7.holds Tryz.pinned (.plain (OpenSpec.upto bookChecksSpec)) bookChecksUptoCard

/-- THE SECOND FORM's CARD OF 'sixdotlaw17.BookRoundTrips'. -/
def bookRoundTripsUptoCard : Claim7 := { stood := { row := bookRoundTripsUptoRow, standIns := [], harness := (true, "4a021c562dc3fa8b9367e0c11937fc8086ba2dcefdad4c0265b17ea208a0b127"), looks := false }, kinds := [], alts := [], laidByText := true, laidKinds := [.data, .data, .data, .data, .data, .pinned], laidTests := true, laidLooks := .later }
def BookRoundTripsUptoCardSaid : Prop := Claim7.holds Tryz.pinned (.plain (OpenSpec.upto bookRoundTripsSpec)) bookRoundTripsUptoCard

/-- THE SECOND FORM's CARD OF 'sixdotlaw17.BookBegins'. -/
def bookBeginsUptoCard : Claim7 := { stood := { row := bookBeginsUptoRow, standIns := [], harness := (true, "4a021c562dc3fa8b9367e0c11937fc8086ba2dcefdad4c0265b17ea208a0b127"), looks := false }, kinds := [], alts := [], laidByText := true, laidKinds := [.data, .data, .data, .data, .data, .pinned], laidTests := true, laidLooks := .later }
def BookBeginsUptoCardSaid : Prop := Claim7.holds Tryz.pinned (.plain (OpenSpec.upto bookBeginsSpec)) bookBeginsUptoCard

/-- THE SECOND FORM's CARD OF 'sixdotlaw17.BookJoins'. -/
def bookJoinsUptoCard : Claim7 := { stood := { row := bookJoinsUptoRow, standIns := [], harness := (true, "4a021c562dc3fa8b9367e0c11937fc8086ba2dcefdad4c0265b17ea208a0b127"), looks := false }, kinds := [], alts := [], laidByText := true, laidKinds := [.data, .data, .data, .data, .data, .pinned], laidTests := true, laidLooks := .later }
def BookJoinsUptoCardSaid : Prop := Claim7.holds Tryz.pinned (.plain (OpenSpec.upto bookJoinsSpec)) bookJoinsUptoCard

/-- THE SECOND FORM's CARD OF 'sixdotlaw17.BookLimits'. -/
def bookLimitsUptoCard : Claim7 := { stood := { row := bookLimitsUptoRow, standIns := [], harness := (true, "4a021c562dc3fa8b9367e0c11937fc8086ba2dcefdad4c0265b17ea208a0b127"), looks := false }, kinds := [], alts := [], laidByText := true, laidKinds := [.data, .data, .data, .data, .data, .pinned], laidTests := true, laidLooks := .later }
def BookLimitsUptoCardSaid : Prop := Claim7.holds Tryz.pinned (.plain (OpenSpec.upto bookLimitsSpec)) bookLimitsUptoCard
end Rows
end Go.Proofs.YtandgamnamkkhaaGreatDoor
