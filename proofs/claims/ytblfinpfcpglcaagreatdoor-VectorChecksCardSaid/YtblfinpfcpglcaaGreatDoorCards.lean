/-
  DERIVED. GIVEN WITH THE SEED: THE CARDS: each row of YtblfinpfcpglcaaGreatDoorRows.lean that lists a variable, with what it lists TIED to the program's text (the seventh form; the later family's looks); each row that meets fmt, with fmt's text TOLD by the authors' own Lean function (tested against real Go, not proved from fmt's source: count such statements apart). THE CARD IS WHAT COUNTS. Prove the row's statement (the work); the ties are given (YtblfinpfcpglcaaGreatDoorTie.lean); close each card by the builder's one call (the guide's Derived/Test/ToyasCard.lean, 'card_holds'). Laid BY PROGRAM, IN A SANDBOX (cutbox-door.mjs). By AI agents, Wed Nov 11 2026. No macro, syntax, notation, axiom, sorry.
-/
import Derived.Test.YtblfinpfcpglcaaGreatDoorRows
import GoSem.ClaimSeven
namespace Go.Proofs.YtblfinpfcpglcaaGreatDoor
namespace Rows

/-- THE TIED CARD OF 'metrolablaw07.VectorDistances'. -/
def vectorDistancesCard : Claim7 := { stood := { row := vectorDistancesRow, standIns := [], harness := (true, "66a19b420da7a6ade5a876ec01c7be38db28fa17d6001cd5a28ec729812d2141"), looks := true }, kinds := [], alts := [], laidByText := true, laidKinds := [.data, .data, .data, .data, .sentinel, .sentinel, .pinned], laidTests := true, laidLooks := .later }
def VectorDistancesCardSaid : Prop := Claim7.holds Tryz.pinned (.plain (OpenSpec.ofChange vectorDistancesSpec)) vectorDistancesCard

/-- THE TIED CARD OF 'metrolablaw07.VectorSolids'. -/
def vectorSolidsCard : Claim7 := { stood := { row := vectorSolidsRow, standIns := [], harness := (true, "66a19b420da7a6ade5a876ec01c7be38db28fa17d6001cd5a28ec729812d2141"), looks := true }, kinds := [], alts := [], laidByText := true, laidKinds := [.data, .data, .data, .data, .sentinel, .sentinel, .pinned], laidTests := true, laidLooks := .later }
def VectorSolidsCardSaid : Prop := Claim7.holds Tryz.pinned (.plain (OpenSpec.ofChange vectorSolidsSpec)) vectorSolidsCard

/-- THE TIED CARD OF 'metrolablaw07.VectorNormals'. -/
def vectorNormalsCard : Claim7 := { stood := { row := vectorNormalsRow, standIns := [], harness := (true, "66a19b420da7a6ade5a876ec01c7be38db28fa17d6001cd5a28ec729812d2141"), looks := true }, kinds := [], alts := [], laidByText := true, laidKinds := [.data, .data, .data, .data, .sentinel, .sentinel, .pinned], laidTests := true, laidLooks := .later }
def VectorNormalsCardSaid : Prop := Claim7.holds Tryz.pinned (.plain (OpenSpec.ofChange vectorNormalsSpec)) vectorNormalsCard

/-- THE TIED CARD OF 'metrolablaw07.VectorSpaces'. -/
def vectorSpacesCard : Claim7 := { stood := { row := vectorSpacesRow, standIns := [], harness := (true, "66a19b420da7a6ade5a876ec01c7be38db28fa17d6001cd5a28ec729812d2141"), looks := true }, kinds := [], alts := [], laidByText := true, laidKinds := [.data, .data, .data, .data, .sentinel, .sentinel, .pinned], laidTests := true, laidLooks := .later }
def VectorSpacesCardSaid : Prop := Claim7.holds Tryz.pinned (.plain (OpenSpec.ofChange vectorSpacesSpec)) vectorSpacesCard

/-- THE TIED CARD OF 'metrolablaw07.VectorProducts'. -/
def vectorProductsCard : Claim7 := { stood := { row := vectorProductsRow, standIns := [], harness := (true, "66a19b420da7a6ade5a876ec01c7be38db28fa17d6001cd5a28ec729812d2141"), looks := true }, kinds := [], alts := [], laidByText := true, laidKinds := [.data, .data, .data, .data, .sentinel, .sentinel, .pinned], laidTests := true, laidLooks := .later }
def VectorProductsCardSaid : Prop := Claim7.holds Tryz.pinned (.plain (OpenSpec.ofChange vectorProductsSpec)) vectorProductsCard

/-- THE TIED CARD OF 'metrolablaw07.VectorSplits'. -/
def vectorSplitsCard : Claim7 := { stood := { row := vectorSplitsRow, standIns := [], harness := (true, "66a19b420da7a6ade5a876ec01c7be38db28fa17d6001cd5a28ec729812d2141"), looks := true }, kinds := [], alts := [], laidByText := true, laidKinds := [.data, .data, .data, .data, .sentinel, .sentinel, .pinned], laidTests := true, laidLooks := .later }
def VectorSplitsCardSaid : Prop := Claim7.holds Tryz.pinned (.plain (OpenSpec.ofChange vectorSplitsSpec)) vectorSplitsCard

/-- THE TIED CARD OF 'metrolablaw07.VectorTurns'. -/
def vectorTurnsCard : Claim7 := { stood := { row := vectorTurnsRow, standIns := [], harness := (true, "66a19b420da7a6ade5a876ec01c7be38db28fa17d6001cd5a28ec729812d2141"), looks := true }, kinds := [], alts := [], laidByText := true, laidKinds := [.data, .data, .data, .data, .sentinel, .sentinel, .pinned], laidTests := true, laidLooks := .later }
def VectorTurnsCardSaid : Prop := Claim7.holds Tryz.pinned (.plain (OpenSpec.ofChange vectorTurnsSpec)) vectorTurnsCard

/-- THE TIED CARD OF 'metrolablaw07.VectorNearer'. -/
def vectorNearerCard : Claim7 := { stood := { row := vectorNearerRow, standIns := [], harness := (true, "66a19b420da7a6ade5a876ec01c7be38db28fa17d6001cd5a28ec729812d2141"), looks := true }, kinds := [], alts := [], laidByText := true, laidKinds := [.data, .data, .data, .data, .sentinel, .sentinel, .pinned], laidTests := true, laidLooks := .later }
def VectorNearerCardSaid : Prop := Claim7.holds Tryz.pinned (.plain (OpenSpec.ofChange vectorNearerSpec)) vectorNearerCard

/-- THE TIED CARD OF 'metrolablaw07.VectorChecks'. -/
def vectorChecksCard : Claim7 := { stood := { row := vectorChecksRow, standIns := [], harness := (true, "66a19b420da7a6ade5a876ec01c7be38db28fa17d6001cd5a28ec729812d2141"), looks := true }, kinds := [], alts := [], laidByText := true, laidKinds := [.data, .data, .data, .data, .sentinel, .sentinel, .pinned], laidTests := true, laidLooks := .later }
def VectorChecksCardSaid : Prop := Claim7.holds Tryz.pinned (.plain (OpenSpec.ofChange vectorChecksSpec)) vectorChecksCard

/-- THE SECOND FORM's CARD OF 'metrolablaw07.VectorDistances'. -/
def vectorDistancesUptoCard : Claim7 := { stood := { row := vectorDistancesUptoRow, standIns := [], harness := (true, "66a19b420da7a6ade5a876ec01c7be38db28fa17d6001cd5a28ec729812d2141"), looks := true }, kinds := [], alts := [], laidByText := true, laidKinds := [.data, .data, .data, .data, .sentinel, .sentinel, .pinned], laidTests := true, laidLooks := .later }
def VectorDistancesUptoCardSaid : Prop := Claim7.holds Tryz.pinned (.plain (OpenSpec.upto vectorDistancesSpec)) vectorDistancesUptoCard

/-- THE SECOND FORM's CARD OF 'metrolablaw07.VectorSolids'. -/
def vectorSolidsUptoCard : Claim7 := { stood := { row := vectorSolidsUptoRow, standIns := [], harness := (true, "66a19b420da7a6ade5a876ec01c7be38db28fa17d6001cd5a28ec729812d2141"), looks := true }, kinds := [], alts := [], laidByText := true, laidKinds := [.data, .data, .data, .data, .sentinel, .sentinel, .pinned], laidTests := true, laidLooks := .later }
def VectorSolidsUptoCardSaid : Prop := Claim7.holds Tryz.pinned (.plain (OpenSpec.upto vectorSolidsSpec)) vectorSolidsUptoCard

/-- THE SECOND FORM's CARD OF 'metrolablaw07.VectorNormals'. -/
def vectorNormalsUptoCard : Claim7 := { stood := { row := vectorNormalsUptoRow, standIns := [], harness := (true, "66a19b420da7a6ade5a876ec01c7be38db28fa17d6001cd5a28ec729812d2141"), looks := true }, kinds := [], alts := [], laidByText := true, laidKinds := [.data, .data, .data, .data, .sentinel, .sentinel, .pinned], laidTests := true, laidLooks := .later }
def VectorNormalsUptoCardSaid : Prop := Claim7.holds Tryz.pinned (.plain (OpenSpec.upto vectorNormalsSpec)) vectorNormalsUptoCard

/-- THE SECOND FORM's CARD OF 'metrolablaw07.VectorSpaces'. -/
def vectorSpacesUptoCard : Claim7 := { stood := { row := vectorSpacesUptoRow, standIns := [], harness := (true, "66a19b420da7a6ade5a876ec01c7be38db28fa17d6001cd5a28ec729812d2141"), looks := true }, kinds := [], alts := [], laidByText := true, laidKinds := [.data, .data, .data, .data, .sentinel, .sentinel, .pinned], laidTests := true, laidLooks := .later }
def VectorSpacesUptoCardSaid : Prop := Claim7.holds Tryz.pinned (.plain (OpenSpec.upto vectorSpacesSpec)) vectorSpacesUptoCard

/-- THE SECOND FORM's CARD OF 'metrolablaw07.VectorProducts'. -/
def vectorProductsUptoCard : Claim7 := { stood := { row := vectorProductsUptoRow, standIns := [], harness := (true, "66a19b420da7a6ade5a876ec01c7be38db28fa17d6001cd5a28ec729812d2141"), looks := true }, kinds := [], alts := [], laidByText := true, laidKinds := [.data, .data, .data, .data, .sentinel, .sentinel, .pinned], laidTests := true, laidLooks := .later }
def VectorProductsUptoCardSaid : Prop := Claim7.holds Tryz.pinned (.plain (OpenSpec.upto vectorProductsSpec)) vectorProductsUptoCard

/-- THE SECOND FORM's CARD OF 'metrolablaw07.VectorSplits'. -/
def vectorSplitsUptoCard : Claim7 := { stood := { row := vectorSplitsUptoRow, standIns := [], harness := (true, "66a19b420da7a6ade5a876ec01c7be38db28fa17d6001cd5a28ec729812d2141"), looks := true }, kinds := [], alts := [], laidByText := true, laidKinds := [.data, .data, .data, .data, .sentinel, .sentinel, .pinned], laidTests := true, laidLooks := .later }
def VectorSplitsUptoCardSaid : Prop := Claim7.holds Tryz.pinned (.plain (OpenSpec.upto vectorSplitsSpec)) vectorSplitsUptoCard

/-- THE SECOND FORM's CARD OF 'metrolablaw07.VectorTurns'. -/
def vectorTurnsUptoCard : Claim7 := { stood := { row := vectorTurnsUptoRow, standIns := [], harness := (true, "66a19b420da7a6ade5a876ec01c7be38db28fa17d6001cd5a28ec729812d2141"), looks := true }, kinds := [], alts := [], laidByText := true, laidKinds := [.data, .data, .data, .data, .sentinel, .sentinel, .pinned], laidTests := true, laidLooks := .later }
def VectorTurnsUptoCardSaid : Prop := Claim7.holds Tryz.pinned (.plain (OpenSpec.upto vectorTurnsSpec)) vectorTurnsUptoCard

/-- THE SECOND FORM's CARD OF 'metrolablaw07.VectorNearer'. -/
def vectorNearerUptoCard : Claim7 := { stood := { row := vectorNearerUptoRow, standIns := [], harness := (true, "66a19b420da7a6ade5a876ec01c7be38db28fa17d6001cd5a28ec729812d2141"), looks := true }, kinds := [], alts := [], laidByText := true, laidKinds := [.data, .data, .data, .data, .sentinel, .sentinel, .pinned], laidTests := true, laidLooks := .later }
def VectorNearerUptoCardSaid : Prop := Claim7.holds Tryz.pinned (.plain (OpenSpec.upto vectorNearerSpec)) vectorNearerUptoCard

/-- THE SECOND FORM's CARD OF 'metrolablaw07.VectorChecks'. -/
def vectorChecksUptoCard : Claim7 := { stood := { row := vectorChecksUptoRow, standIns := [], harness := (true, "66a19b420da7a6ade5a876ec01c7be38db28fa17d6001cd5a28ec729812d2141"), looks := true }, kinds := [], alts := [], laidByText := true, laidKinds := [.data, .data, .data, .data, .sentinel, .sentinel, .pinned], laidTests := true, laidLooks := .later }
def VectorChecksUptoCardSaid : Prop := Claim7.holds Tryz.pinned (.plain (OpenSpec.upto vectorChecksSpec)) vectorChecksUptoCard
end Rows
end Go.Proofs.YtblfinpfcpglcaaGreatDoor
