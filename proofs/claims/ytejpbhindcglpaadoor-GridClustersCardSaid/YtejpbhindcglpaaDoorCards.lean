/-
  DERIVED. GIVEN WITH THE SEED: THE CARDS: each row of YtejpbhindcglpaaDoorRows.lean that lists a variable, with what it lists TIED to the program's text (the seventh form; the later family's looks); each row that meets fmt, with fmt's text TOLD by the authors' own Lean function (tested against real Go, not proved from fmt's source: count such statements apart). THE CARD IS WHAT COUNTS. Prove the row's statement (the work); the ties are given (YtejpbhindcglpaaDoorTie.lean); close each card by the builder's one call (the guide's Derived/Test/ToyasCard.lean, 'card_holds'). Laid BY PROGRAM, IN A SANDBOX (cutbox-door.mjs). By AI agents, Wed Nov 11 2026. No macro, syntax, notation, axiom, sorry.
-/
import Derived.Test.YtejpbhindcglpaaDoorRows
import GoSem.ClaimSeven
namespace Go.Proofs.YtejpbhindcglpaaDoor
namespace Rows

/-- THE TIED CARD OF 'sixdotlaw12.GridValid'. -/
def gridValidCard : Claim7 := { stood := { row := gridValidRow, standIns := [], harness := (true, "a8a081fb620c7a8de0e98528ae059968cd7dc1a521f8cded803ff82d56492aa2"), looks := false }, kinds := [], alts := [], laidByText := true, laidKinds := [.data], laidTests := true, laidLooks := .later }
def GridValidCardSaid : Prop := Claim7.holds Tryd.pinned (.plain (OpenSpec.ofChange gridValidSpec)) gridValidCard

/-- THE TIED CARD OF 'sixdotlaw12.GridLines'. -/
def gridLinesCard : Claim7 := { stood := { row := gridLinesRow, standIns := [], harness := (true, "a8a081fb620c7a8de0e98528ae059968cd7dc1a521f8cded803ff82d56492aa2"), looks := false }, kinds := [], alts := [], laidByText := true, laidKinds := [.data], laidTests := true, laidLooks := .later }
def GridLinesCardSaid : Prop := Claim7.holds Tryd.pinned (.plain (OpenSpec.ofChange gridLinesSpec)) gridLinesCard

/-- THE TIED CARD OF 'sixdotlaw12.GridDistances'. -/
def gridDistancesCard : Claim7 := { stood := { row := gridDistancesRow, standIns := [], harness := (true, "a8a081fb620c7a8de0e98528ae059968cd7dc1a521f8cded803ff82d56492aa2"), looks := false }, kinds := [], alts := [], laidByText := true, laidKinds := [.data], laidTests := true, laidLooks := .later }
def GridDistancesCardSaid : Prop := Claim7.holds Tryd.pinned (.plain (OpenSpec.ofChange gridDistancesSpec)) gridDistancesCard

/-- THE TIED CARD OF 'sixdotlaw12.GridClusters'. -/
def gridClustersCard : Claim7 := { stood := { row := gridClustersRow, standIns := [], harness := (true, "a8a081fb620c7a8de0e98528ae059968cd7dc1a521f8cded803ff82d56492aa2"), looks := false }, kinds := [], alts := [], laidByText := true, laidKinds := [.data], laidTests := true, laidLooks := .later }
def GridClustersCardSaid : Prop := Claim7.holds Tryd.pinned (.plain (OpenSpec.ofChange gridClustersSpec)) gridClustersCard

/-- THE TIED CARD OF 'sixdotlaw12.GridCells'. -/
def gridCellsCard : Claim7 := { stood := { row := gridCellsRow, standIns := [], harness := (true, "a8a081fb620c7a8de0e98528ae059968cd7dc1a521f8cded803ff82d56492aa2"), looks := false }, kinds := [], alts := [], laidByText := true, laidKinds := [.data], laidTests := true, laidLooks := .later }
def GridCellsCardSaid : Prop := Claim7.holds Tryd.pinned (.plain (OpenSpec.ofChange gridCellsSpec)) gridCellsCard

/-- THE TIED CARD OF 'sixdotlaw12.GridMatchesReference'. -/
def gridMatchesReferenceCard : Claim7 := { stood := { row := gridMatchesReferenceRow, standIns := [], harness := (true, "a8a081fb620c7a8de0e98528ae059968cd7dc1a521f8cded803ff82d56492aa2"), looks := false }, kinds := [], alts := [], laidByText := true, laidKinds := [.data], laidTests := true, laidLooks := .later }
def GridMatchesReferenceCardSaid : Prop := Claim7.holds Tryd.pinned (.plain (OpenSpec.ofChange gridMatchesReferenceSpec)) gridMatchesReferenceCard

/-- THE TIED CARD OF 'sixdotlaw12.GridPlots'. -/
def gridPlotsCard : Claim7 := { stood := { row := gridPlotsRow, standIns := [], harness := (true, "a8a081fb620c7a8de0e98528ae059968cd7dc1a521f8cded803ff82d56492aa2"), looks := false }, kinds := [], alts := [], laidByText := true, laidKinds := [.data], laidTests := true, laidLooks := .later }
def GridPlotsCardSaid : Prop := Claim7.holds Tryd.pinned (.plain (OpenSpec.ofChange gridPlotsSpec)) gridPlotsCard

/-- THE SECOND FORM's CARD OF 'sixdotlaw12.GridValid'. -/
def gridValidUptoCard : Claim7 := { stood := { row := gridValidUptoRow, standIns := [], harness := (true, "a8a081fb620c7a8de0e98528ae059968cd7dc1a521f8cded803ff82d56492aa2"), looks := false }, kinds := [], alts := [], laidByText := true, laidKinds := [.data], laidTests := true, laidLooks := .later }
def GridValidUptoCardSaid : Prop := Claim7.holds Tryd.pinned (.plain (OpenSpec.upto gridValidSpec)) gridValidUptoCard

/-- THE SECOND FORM's CARD OF 'sixdotlaw12.GridLines'. -/
def gridLinesUptoCard : Claim7 := { stood := { row := gridLinesUptoRow, standIns := [], harness := (true, "a8a081fb620c7a8de0e98528ae059968cd7dc1a521f8cded803ff82d56492aa2"), looks := false }, kinds := [], alts := [], laidByText := true, laidKinds := [.data], laidTests := true, laidLooks := .later }
def GridLinesUptoCardSaid : Prop := Claim7.holds Tryd.pinned (.plain (OpenSpec.upto gridLinesSpec)) gridLinesUptoCard

/-- THE SECOND FORM's CARD OF 'sixdotlaw12.GridDistances'. -/
def gridDistancesUptoCard : Claim7 := { stood := { row := gridDistancesUptoRow, standIns := [], harness := (true, "a8a081fb620c7a8de0e98528ae059968cd7dc1a521f8cded803ff82d56492aa2"), looks := false }, kinds := [], alts := [], laidByText := true, laidKinds := [.data], laidTests := true, laidLooks := .later }
def GridDistancesUptoCardSaid : Prop := Claim7.holds Tryd.pinned (.plain (OpenSpec.upto gridDistancesSpec)) gridDistancesUptoCard

/-- THE SECOND FORM's CARD OF 'sixdotlaw12.GridClusters'. -/
def gridClustersUptoCard : Claim7 := { stood := { row := gridClustersUptoRow, standIns := [], harness := (true, "a8a081fb620c7a8de0e98528ae059968cd7dc1a521f8cded803ff82d56492aa2"), looks := false }, kinds := [], alts := [], laidByText := true, laidKinds := [.data], laidTests := true, laidLooks := .later }
def GridClustersUptoCardSaid : Prop := Claim7.holds Tryd.pinned (.plain (OpenSpec.upto gridClustersSpec)) gridClustersUptoCard

/-- THE SECOND FORM's CARD OF 'sixdotlaw12.GridCells'. -/
def gridCellsUptoCard : Claim7 := { stood := { row := gridCellsUptoRow, standIns := [], harness := (true, "a8a081fb620c7a8de0e98528ae059968cd7dc1a521f8cded803ff82d56492aa2"), looks := false }, kinds := [], alts := [], laidByText := true, laidKinds := [.data], laidTests := true, laidLooks := .later }
def GridCellsUptoCardSaid : Prop := Claim7.holds Tryd.pinned (.plain (OpenSpec.upto gridCellsSpec)) gridCellsUptoCard

/-- THE SECOND FORM's CARD OF 'sixdotlaw12.GridMatchesReference'. -/
def gridMatchesReferenceUptoCard : Claim7 := { stood := { row := gridMatchesReferenceUptoRow, standIns := [], harness := (true, "a8a081fb620c7a8de0e98528ae059968cd7dc1a521f8cded803ff82d56492aa2"), looks := false }, kinds := [], alts := [], laidByText := true, laidKinds := [.data], laidTests := true, laidLooks := .later }
def GridMatchesReferenceUptoCardSaid : Prop := Claim7.holds Tryd.pinned (.plain (OpenSpec.upto gridMatchesReferenceSpec)) gridMatchesReferenceUptoCard

/-- THE SECOND FORM's CARD OF 'sixdotlaw12.GridPlots'. -/
def gridPlotsUptoCard : Claim7 := { stood := { row := gridPlotsUptoRow, standIns := [], harness := (true, "a8a081fb620c7a8de0e98528ae059968cd7dc1a521f8cded803ff82d56492aa2"), looks := false }, kinds := [], alts := [], laidByText := true, laidKinds := [.data], laidTests := true, laidLooks := .later }
def GridPlotsUptoCardSaid : Prop := Claim7.holds Tryd.pinned (.plain (OpenSpec.upto gridPlotsSpec)) gridPlotsUptoCard
end Rows
end Go.Proofs.YtejpbhindcglpaaDoor
