/-
  DERIVED. GIVEN WITH THE SEED: THE CARDS: each row of YtendaaghmeoddaaGreatDoorRows.lean that lists a variable, with what it lists TIED to the program's text (the seventh form; the later family's looks); each row that meets fmt, with fmt's text TOLD by the authors' own Lean function (tested against real Go, not proved from fmt's source: count such statements apart). THE CARD IS WHAT COUNTS. Prove the row's statement (the work); the ties are given (YtendaaghmeoddaaGreatDoorTie.lean); close each card by the builder's one call (the guide's Derived/Test/ToyasCard.lean, 'card_holds'). Laid BY PROGRAM, IN A SANDBOX (cutbox-door.mjs). By AI agents, Wed Nov 11 2026. No macro, syntax, notation, axiom, sorry.
-/
import Derived.Test.YtendaaghmeoddaaGreatDoorRows
import GoSem.ClaimSeven
namespace Go.Proofs.YtendaaghmeoddaaGreatDoor
namespace Rows

/-- THE TIED CARD OF 'metrolablaw37.ProfileSides'. -/
def profileSidesCard : Claim7 := { stood := { row := profileSidesRow, standIns := [], harness := (true, "688fc5cc820597c373b10608c3463e9ea9b80cecd667f530857fecd7fe1c0a00"), looks := true }, kinds := [], alts := [], laidByText := true, laidKinds := [.data, .data, .data, .data, .sentinel, .sentinel, .pinned], laidTests := true, laidLooks := .later }
def ProfileSidesCardSaid : Prop := Claim7.holds Tryz.pinned (.plain (OpenSpec.ofChange profileSidesSpec)) profileSidesCard

/-- THE TIED CARD OF 'metrolablaw37.ProfileNear'. -/
def profileNearCard : Claim7 := { stood := { row := profileNearRow, standIns := [], harness := (true, "688fc5cc820597c373b10608c3463e9ea9b80cecd667f530857fecd7fe1c0a00"), looks := true }, kinds := [], alts := [], laidByText := true, laidKinds := [.data, .data, .data, .data, .sentinel, .sentinel, .pinned], laidTests := true, laidLooks := .later }
def ProfileNearCardSaid : Prop := Claim7.holds Tryz.pinned (.plain (OpenSpec.ofChange profileNearSpec)) profileNearCard

/-- THE TIED CARD OF 'metrolablaw37.ProfileUnequal'. -/
def profileUnequalCard : Claim7 := { stood := { row := profileUnequalRow, standIns := [], harness := (true, "688fc5cc820597c373b10608c3463e9ea9b80cecd667f530857fecd7fe1c0a00"), looks := true }, kinds := [], alts := [], laidByText := true, laidKinds := [.data, .data, .data, .data, .sentinel, .sentinel, .pinned], laidTests := true, laidLooks := .later }
def ProfileUnequalCardSaid : Prop := Claim7.holds Tryz.pinned (.plain (OpenSpec.ofChange profileUnequalSpec)) profileUnequalCard

/-- THE TIED CARD OF 'metrolablaw37.ProfileSorts'. -/
def profileSortsCard : Claim7 := { stood := { row := profileSortsRow, standIns := [], harness := (true, "688fc5cc820597c373b10608c3463e9ea9b80cecd667f530857fecd7fe1c0a00"), looks := true }, kinds := [], alts := [], laidByText := true, laidKinds := [.data, .data, .data, .data, .sentinel, .sentinel, .pinned], laidTests := true, laidLooks := .later }
def ProfileSortsCardSaid : Prop := Claim7.holds Tryz.pinned (.plain (OpenSpec.ofChange profileSortsSpec)) profileSortsCard

/-- THE TIED CARD OF 'metrolablaw37.ProfileParts'. -/
def profilePartsCard : Claim7 := { stood := { row := profilePartsRow, standIns := [], harness := (true, "688fc5cc820597c373b10608c3463e9ea9b80cecd667f530857fecd7fe1c0a00"), looks := true }, kinds := [], alts := [], laidByText := true, laidKinds := [.data, .data, .data, .data, .sentinel, .sentinel, .pinned], laidTests := true, laidLooks := .later }
def ProfilePartsCardSaid : Prop := Claim7.holds Tryz.pinned (.plain (OpenSpec.ofChange profilePartsSpec)) profilePartsCard

/-- THE TIED CARD OF 'metrolablaw37.ProfileTurns'. -/
def profileTurnsCard : Claim7 := { stood := { row := profileTurnsRow, standIns := [], harness := (true, "688fc5cc820597c373b10608c3463e9ea9b80cecd667f530857fecd7fe1c0a00"), looks := true }, kinds := [], alts := [], laidByText := true, laidKinds := [.data, .data, .data, .data, .sentinel, .sentinel, .pinned], laidTests := true, laidLooks := .later }
def ProfileTurnsCardSaid : Prop := Claim7.holds Tryz.pinned (.plain (OpenSpec.ofChange profileTurnsSpec)) profileTurnsCard

/-- THE TIED CARD OF 'metrolablaw37.ProfileGrows'. -/
def profileGrowsCard : Claim7 := { stood := { row := profileGrowsRow, standIns := [], harness := (true, "688fc5cc820597c373b10608c3463e9ea9b80cecd667f530857fecd7fe1c0a00"), looks := true }, kinds := [], alts := [], laidByText := true, laidKinds := [.data, .data, .data, .data, .sentinel, .sentinel, .pinned], laidTests := true, laidLooks := .later }
def ProfileGrowsCardSaid : Prop := Claim7.holds Tryz.pinned (.plain (OpenSpec.ofChange profileGrowsSpec)) profileGrowsCard

/-- THE TIED CARD OF 'metrolablaw37.ProfileHulls'. -/
def profileHullsCard : Claim7 := { stood := { row := profileHullsRow, standIns := [], harness := (true, "688fc5cc820597c373b10608c3463e9ea9b80cecd667f530857fecd7fe1c0a00"), looks := true }, kinds := [], alts := [], laidByText := true, laidKinds := [.data, .data, .data, .data, .sentinel, .sentinel, .pinned], laidTests := true, laidLooks := .later }
def ProfileHullsCardSaid : Prop := Claim7.holds Tryz.pinned (.plain (OpenSpec.ofChange profileHullsSpec)) profileHullsCard

/-- THE SECOND FORM's CARD OF 'metrolablaw37.ProfileSides'. -/
def profileSidesUptoCard : Claim7 := { stood := { row := profileSidesUptoRow, standIns := [], harness := (true, "688fc5cc820597c373b10608c3463e9ea9b80cecd667f530857fecd7fe1c0a00"), looks := true }, kinds := [], alts := [], laidByText := true, laidKinds := [.data, .data, .data, .data, .sentinel, .sentinel, .pinned], laidTests := true, laidLooks := .later }
def ProfileSidesUptoCardSaid : Prop := Claim7.holds Tryz.pinned (.plain (OpenSpec.upto profileSidesSpec)) profileSidesUptoCard

/-- THE SECOND FORM's CARD OF 'metrolablaw37.ProfileNear'. -/
def profileNearUptoCard : Claim7 := { stood := { row := profileNearUptoRow, standIns := [], harness := (true, "688fc5cc820597c373b10608c3463e9ea9b80cecd667f530857fecd7fe1c0a00"), looks := true }, kinds := [], alts := [], laidByText := true, laidKinds := [.data, .data, .data, .data, .sentinel, .sentinel, .pinned], laidTests := true, laidLooks := .later }
def ProfileNearUptoCardSaid : Prop := Claim7.holds Tryz.pinned (.plain (OpenSpec.upto profileNearSpec)) profileNearUptoCard

/-- THE SECOND FORM's CARD OF 'metrolablaw37.ProfileUnequal'. -/
def profileUnequalUptoCard : Claim7 := { stood := { row := profileUnequalUptoRow, standIns := [], harness := (true, "688fc5cc820597c373b10608c3463e9ea9b80cecd667f530857fecd7fe1c0a00"), looks := true }, kinds := [], alts := [], laidByText := true, laidKinds := [.data, .data, .data, .data, .sentinel, .sentinel, .pinned], laidTests := true, laidLooks := .later }
def ProfileUnequalUptoCardSaid : Prop := Claim7.holds Tryz.pinned (.plain (OpenSpec.upto profileUnequalSpec)) profileUnequalUptoCard

/-- THE SECOND FORM's CARD OF 'metrolablaw37.ProfileSorts'. -/
def profileSortsUptoCard : Claim7 := { stood := { row := profileSortsUptoRow, standIns := [], harness := (true, "688fc5cc820597c373b10608c3463e9ea9b80cecd667f530857fecd7fe1c0a00"), looks := true }, kinds := [], alts := [], laidByText := true, laidKinds := [.data, .data, .data, .data, .sentinel, .sentinel, .pinned], laidTests := true, laidLooks := .later }
def ProfileSortsUptoCardSaid : Prop := Claim7.holds Tryz.pinned (.plain (OpenSpec.upto profileSortsSpec)) profileSortsUptoCard

/-- THE SECOND FORM's CARD OF 'metrolablaw37.ProfileParts'. -/
def profilePartsUptoCard : Claim7 := { stood := { row := profilePartsUptoRow, standIns := [], harness := (true, "688fc5cc820597c373b10608c3463e9ea9b80cecd667f530857fecd7fe1c0a00"), looks := true }, kinds := [], alts := [], laidByText := true, laidKinds := [.data, .data, .data, .data, .sentinel, .sentinel, .pinned], laidTests := true, laidLooks := .later }
def ProfilePartsUptoCardSaid : Prop := Claim7.holds Tryz.pinned (.plain (OpenSpec.upto profilePartsSpec)) profilePartsUptoCard

/-- THE SECOND FORM's CARD OF 'metrolablaw37.ProfileTurns'. -/
def profileTurnsUptoCard : Claim7 := { stood := { row := profileTurnsUptoRow, standIns := [], harness := (true, "688fc5cc820597c373b10608c3463e9ea9b80cecd667f530857fecd7fe1c0a00"), looks := true }, kinds := [], alts := [], laidByText := true, laidKinds := [.data, .data, .data, .data, .sentinel, .sentinel, .pinned], laidTests := true, laidLooks := .later }
def ProfileTurnsUptoCardSaid : Prop := Claim7.holds Tryz.pinned (.plain (OpenSpec.upto profileTurnsSpec)) profileTurnsUptoCard

/-- THE SECOND FORM's CARD OF 'metrolablaw37.ProfileGrows'. -/
def profileGrowsUptoCard : Claim7 := { stood := { row := profileGrowsUptoRow, standIns := [], harness := (true, "688fc5cc820597c373b10608c3463e9ea9b80cecd667f530857fecd7fe1c0a00"), looks := true }, kinds := [], alts := [], laidByText := true, laidKinds := [.data, .data, .data, .data, .sentinel, .sentinel, .pinned], laidTests := true, laidLooks := .later }
def ProfileGrowsUptoCardSaid : Prop := Claim7.holds Tryz.pinned (.plain (OpenSpec.upto profileGrowsSpec)) profileGrowsUptoCard

/-- THE SECOND FORM's CARD OF 'metrolablaw37.ProfileHulls'. -/
def profileHullsUptoCard : Claim7 := { stood := { row := profileHullsUptoRow, standIns := [], harness := (true, "688fc5cc820597c373b10608c3463e9ea9b80cecd667f530857fecd7fe1c0a00"), looks := true }, kinds := [], alts := [], laidByText := true, laidKinds := [.data, .data, .data, .data, .sentinel, .sentinel, .pinned], laidTests := true, laidLooks := .later }
def ProfileHullsUptoCardSaid : Prop := Claim7.holds Tryz.pinned (.plain (OpenSpec.upto profileHullsSpec)) profileHullsUptoCard
end Rows
end Go.Proofs.YtendaaghmeoddaaGreatDoor
