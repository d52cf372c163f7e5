/-
  DERIVED. GIVEN WITH THE SEED: THE CARDS: each row of YtbjkifniloohcaaGreatDoorRows.lean that lists a variable, with what it lists TIED to the program's text (the seventh form; the later family's looks); each row that meets fmt, with fmt's text TOLD by the authors' own Lean function (tested against real Go, not proved from fmt's source: count such statements apart). THE CARD IS WHAT COUNTS. Prove the row's statement (the work); the ties are given (YtbjkifniloohcaaGreatDoorTie.lean); close each card by the builder's one call (the guide's Derived/Test/ToyasCard.lean, 'card_holds'). Laid BY PROGRAM, IN A SANDBOX (cutbox-door.mjs). By AI agents, Wed Nov 11 2026. No macro, syntax, notation, axiom, sorry.
-/
import Derived.Test.YtbjkifniloohcaaGreatDoorRows
import GoSem.ClaimSeven
namespace Go.Proofs.YtbjkifniloohcaaGreatDoor
namespace Rows

/-- THE TIED CARD OF 'sixdotlaw15.LabelMatchesReference'. -/
def labelMatchesReferenceCard : Claim7 := { stood := { row := labelMatchesReferenceRow, standIns := [], harness := (true, "b4e5c2a35ea054941f706e156c1571f28bcb6ec52785c73c45f63ca5632b4ab0"), looks := false }, kinds := [], alts := [], laidByText := true, laidKinds := [.data], laidTests := true, laidLooks := .later }
def LabelMatchesReferenceCardSaid : Prop := Claim7.holds Tryz.pinned (.plain (OpenSpec.ofChange labelMatchesReferenceSpec)) labelMatchesReferenceCard

/-- THE TIED CARD OF 'sixdotlaw15.LabelPlaces'. -/
def labelPlacesCard : Claim7 := { stood := { row := labelPlacesRow, standIns := [], harness := (true, "b4e5c2a35ea054941f706e156c1571f28bcb6ec52785c73c45f63ca5632b4ab0"), looks := false }, kinds := [], alts := [], laidByText := true, laidKinds := [.data], laidTests := true, laidLooks := .later }
def LabelPlacesCardSaid : Prop := Claim7.holds Tryz.pinned (.plain (OpenSpec.ofChange labelPlacesSpec)) labelPlacesCard

/-- THE TIED CARD OF 'sixdotlaw15.LabelFirst'. -/
def labelFirstCard : Claim7 := { stood := { row := labelFirstRow, standIns := [], harness := (true, "b4e5c2a35ea054941f706e156c1571f28bcb6ec52785c73c45f63ca5632b4ab0"), looks := false }, kinds := [], alts := [], laidByText := true, laidKinds := [.data], laidTests := true, laidLooks := .later }
def LabelFirstCardSaid : Prop := Claim7.holds Tryz.pinned (.plain (OpenSpec.ofChange labelFirstSpec)) labelFirstCard

/-- THE TIED CARD OF 'sixdotlaw15.LabelFails'. -/
def labelFailsCard : Claim7 := { stood := { row := labelFailsRow, standIns := [], harness := (true, "b4e5c2a35ea054941f706e156c1571f28bcb6ec52785c73c45f63ca5632b4ab0"), looks := false }, kinds := [], alts := [], laidByText := true, laidKinds := [.data], laidTests := true, laidLooks := .later }
def LabelFailsCardSaid : Prop := Claim7.holds Tryz.pinned (.plain (OpenSpec.ofChange labelFailsSpec)) labelFailsCard

/-- THE TIED CARD OF 'sixdotlaw15.LabelLegal'. -/
def labelLegalCard : Claim7 := { stood := { row := labelLegalRow, standIns := [], harness := (true, "b4e5c2a35ea054941f706e156c1571f28bcb6ec52785c73c45f63ca5632b4ab0"), looks := false }, kinds := [], alts := [], laidByText := true, laidKinds := [.data], laidTests := true, laidLooks := .later }
def LabelLegalCardSaid : Prop := Claim7.holds Tryz.pinned (.plain (OpenSpec.ofChange labelLegalSpec)) labelLegalCard

/-- THE SECOND FORM's CARD OF 'sixdotlaw15.LabelMatchesReference'. -/
def labelMatchesReferenceUptoCard : Claim7 := { stood := { row := labelMatchesReferenceUptoRow, standIns := [], harness := (true, "b4e5c2a35ea054941f706e156c1571f28bcb6ec52785c73c45f63ca5632b4ab0"), looks := false }, kinds := [], alts := [], laidByText := true, laidKinds := [.data], laidTests := true, laidLooks := .later }
def LabelMatchesReferenceUptoCardSaid : Prop := Claim7.holds Tryz.pinned (.plain (OpenSpec.upto labelMatchesReferenceSpec)) labelMatchesReferenceUptoCard

/-- THE SECOND FORM's CARD OF 'sixdotlaw15.LabelPlaces'. -/
def labelPlacesUptoCard : Claim7 := { stood := { row := labelPlacesUptoRow, standIns := [], harness := (true, "b4e5c2a35ea054941f706e156c1571f28bcb6ec52785c73c45f63ca5632b4ab0"), looks := false }, kinds := [], alts := [], laidByText := true, laidKinds := [.data], laidTests := true, laidLooks := .later }
def LabelPlacesUptoCardSaid : Prop := Claim7.holds Tryz.pinned (.plain (OpenSpec.upto labelPlacesSpec)) labelPlacesUptoCard

/-- THE SECOND FORM's CARD OF 'sixdotlaw15.LabelFirst'. -/
def labelFirstUptoCard : Claim7 := { stood := { row := labelFirstUptoRow, standIns := [], harness := (true, "b4e5c2a35ea054941f706e156c1571f28bcb6ec52785c73c45f63ca5632b4ab0"), looks := false }, kinds := [], alts := [], laidByText := true, laidKinds := [.data], laidTests := true, laidLooks := .later }
def LabelFirstUptoCardSaid : Prop := Claim7.holds Tryz.pinned (.plain (OpenSpec.upto labelFirstSpec)) labelFirstUptoCard

/-- THE SECOND FORM's CARD OF 'sixdotlaw15.LabelFails'. -/
def labelFailsUptoCard : Claim7 := { stood := { row := labelFailsUptoRow, standIns := [], harness := (true, "b4e5c2a35ea054941f706e156c1571f28bcb6ec52785c73c45f63ca5632b4ab0"), looks := false }, kinds := [], alts := [], laidByText := true, laidKinds := [.data], laidTests := true, laidLooks := .later }
def LabelFailsUptoCardSaid : Prop := Claim7.holds Tryz.pinned (.plain (OpenSpec.upto labelFailsSpec)) labelFailsUptoCard

/-- THE SECOND FORM's CARD OF 'sixdotlaw15.LabelLegal'. -/
def labelLegalUptoCard : Claim7 := { stood := { row := labelLegalUptoRow, standIns := [], harness := (true, "b4e5c2a35ea054941f706e156c1571f28bcb6ec52785c73c45f63ca5632b4ab0"), looks := false }, kinds := [], alts := [], laidByText := true, laidKinds := [.data], laidTests := true, laidLooks := .later }
def LabelLegalUptoCardSaid : Prop := Claim7.holds Tryz.pinned (.plain (OpenSpec.upto labelLegalSpec)) labelLegalUptoCard
end Rows
end Go.Proofs.YtbjkifniloohcaaGreatDoor
