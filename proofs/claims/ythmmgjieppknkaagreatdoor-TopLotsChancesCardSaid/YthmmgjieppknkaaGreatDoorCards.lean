/-
  DERIVED. GIVEN WITH THE SEED: THE CARDS: each row of YthmmgjieppknkaaGreatDoorRows.lean that lists a variable, with what it lists TIED to the program's text (the seventh form; the later family's looks); each row that meets fmt, with fmt's text TOLD by the authors' own Lean function (tested against real Go, not proved from fmt's source: count such statements apart). THE CARD IS WHAT COUNTS. Prove the row's statement (the work); the ties are given (YthmmgjieppknkaaGreatDoorTie.lean); close each card by the builder's one call (the guide's Derived/Test/ToyasCard.lean, 'card_holds'). Laid BY PROGRAM, IN A SANDBOX (cutbox-door.mjs). By AI agents, Wed Nov 11 2026. No macro, syntax, notation, axiom, sorry.
-/
import Derived.Test.YthmmgjieppknkaaGreatDoorRows
import GoSem.ClaimSeven
namespace Go.Proofs.YthmmgjieppknkaaGreatDoor
namespace Rows

/-- THE TIED CARD OF 'metrolablaw55.SwitchingChecks'. -/
def switchingChecksCard : Claim7 := { stood := { row := switchingChecksRow, standIns := [], harness := (true, "b64c57e0705400712449fd032a8421ef858f238946d0d17470964a54dcd6c77c"), looks := true }, kinds := [], alts := [], laidByText := true, laidKinds := [.data, .data, .data, .data, .sentinel, .sentinel, .pinned], laidTests := true, laidLooks := .later }
def SwitchingChecksCardSaid : Prop := Claim7.holds Tryz.pinned (.plain (OpenSpec.ofChange switchingChecksSpec)) switchingChecksCard

/-- THE TIED CARD OF 'metrolablaw55.SwitchingGoes'. -/
def switchingGoesCard : Claim7 := { stood := { row := switchingGoesRow, standIns := [], harness := (true, "b64c57e0705400712449fd032a8421ef858f238946d0d17470964a54dcd6c77c"), looks := true }, kinds := [], alts := [], laidByText := true, laidKinds := [.data, .data, .data, .data, .sentinel, .sentinel, .pinned], laidTests := true, laidLooks := .later }
def SwitchingGoesCardSaid : Prop := Claim7.holds Tryz.pinned (.plain (OpenSpec.ofChange switchingGoesSpec)) switchingGoesCard

/-- THE TIED CARD OF 'metrolablaw55.SwitchingRuns'. -/
def switchingRunsCard : Claim7 := { stood := { row := switchingRunsRow, standIns := [], harness := (true, "b64c57e0705400712449fd032a8421ef858f238946d0d17470964a54dcd6c77c"), looks := true }, kinds := [], alts := [], laidByText := true, laidKinds := [.data, .data, .data, .data, .sentinel, .sentinel, .pinned], laidTests := true, laidLooks := .later }
def SwitchingRunsCardSaid : Prop := Claim7.holds Tryz.pinned (.plain (OpenSpec.ofChange switchingRunsSpec)) switchingRunsCard

/-- THE TIED CARD OF 'metrolablaw55.SwitchingChances'. -/
def switchingChancesCard : Claim7 := { stood := { row := switchingChancesRow, standIns := [], harness := (true, "b64c57e0705400712449fd032a8421ef858f238946d0d17470964a54dcd6c77c"), looks := true }, kinds := [], alts := [], laidByText := true, laidKinds := [.data, .data, .data, .data, .sentinel, .sentinel, .pinned], laidTests := true, laidLooks := .later }
def SwitchingChancesCardSaid : Prop := Claim7.holds Tryz.pinned (.plain (OpenSpec.ofChange switchingChancesSpec)) switchingChancesCard

/-- THE TIED CARD OF 'metrolablaw55.SwitchingAdds'. -/
def switchingAddsCard : Claim7 := { stood := { row := switchingAddsRow, standIns := [], harness := (true, "b64c57e0705400712449fd032a8421ef858f238946d0d17470964a54dcd6c77c"), looks := true }, kinds := [], alts := [], laidByText := true, laidKinds := [.data, .data, .data, .data, .sentinel, .sentinel, .pinned], laidTests := true, laidLooks := .later }
def SwitchingAddsCardSaid : Prop := Claim7.holds Tryz.pinned (.plain (OpenSpec.ofChange switchingAddsSpec)) switchingAddsCard

/-- THE TIED CARD OF 'metrolablaw55.SwitchingSure'. -/
def switchingSureCard : Claim7 := { stood := { row := switchingSureRow, standIns := [], harness := (true, "b64c57e0705400712449fd032a8421ef858f238946d0d17470964a54dcd6c77c"), looks := true }, kinds := [], alts := [], laidByText := true, laidKinds := [.data, .data, .data, .data, .sentinel, .sentinel, .pinned], laidTests := true, laidLooks := .later }
def SwitchingSureCardSaid : Prop := Claim7.holds Tryz.pinned (.plain (OpenSpec.ofChange switchingSureSpec)) switchingSureCard

/-- THE TIED CARD OF 'metrolablaw55.SwitchingCosts'. -/
def switchingCostsCard : Claim7 := { stood := { row := switchingCostsRow, standIns := [], harness := (true, "b64c57e0705400712449fd032a8421ef858f238946d0d17470964a54dcd6c77c"), looks := true }, kinds := [], alts := [], laidByText := true, laidKinds := [.data, .data, .data, .data, .sentinel, .sentinel, .pinned], laidTests := true, laidLooks := .later }
def SwitchingCostsCardSaid : Prop := Claim7.holds Tryz.pinned (.plain (OpenSpec.ofChange switchingCostsSpec)) switchingCostsCard

/-- THE TIED CARD OF 'metrolablaw55.SwitchingKeeps'. -/
def switchingKeepsCard : Claim7 := { stood := { row := switchingKeepsRow, standIns := [], harness := (true, "b64c57e0705400712449fd032a8421ef858f238946d0d17470964a54dcd6c77c"), looks := true }, kinds := [], alts := [], laidByText := true, laidKinds := [.data, .data, .data, .data, .sentinel, .sentinel, .pinned], laidTests := true, laidLooks := .later }
def SwitchingKeepsCardSaid : Prop := Claim7.holds Tryz.pinned (.plain (OpenSpec.ofChange switchingKeepsSpec)) switchingKeepsCard

/-- THE TIED CARD OF 'metrolablaw55.SwitchingModes'. -/
def switchingModesCard : Claim7 := { stood := { row := switchingModesRow, standIns := [], harness := (true, "b64c57e0705400712449fd032a8421ef858f238946d0d17470964a54dcd6c77c"), looks := true }, kinds := [], alts := [], laidByText := true, laidKinds := [.data, .data, .data, .data, .sentinel, .sentinel, .pinned], laidTests := true, laidLooks := .later }
def SwitchingModesCardSaid : Prop := Claim7.holds Tryz.pinned (.plain (OpenSpec.ofChange switchingModesSpec)) switchingModesCard

/-- THE TIED CARD OF 'metrolabtop.TopLotsChances'. -/
def topLotsChancesCard : Claim7 := { stood := { row := topLotsChancesRow, standIns := [], harness := (true, "b64c57e0705400712449fd032a8421ef858f238946d0d17470964a54dcd6c77c"), looks := true }, kinds := [], alts := [], laidByText := true, laidKinds := [.data, .data, .data, .data, .sentinel, .sentinel, .pinned], laidTests := true, laidLooks := .later }
def TopLotsChancesCardSaid : Prop := Claim7.holds Tryz.pinned (.plain (OpenSpec.ofChange topLotsChancesSpec)) topLotsChancesCard

/-- THE TIED CARD OF 'metrolabtop.TopLotsDecide'. -/
def topLotsDecideCard : Claim7 := { stood := { row := topLotsDecideRow, standIns := [], harness := (true, "b64c57e0705400712449fd032a8421ef858f238946d0d17470964a54dcd6c77c"), looks := true }, kinds := [], alts := [], laidByText := true, laidKinds := [.data, .data, .data, .data, .sentinel, .sentinel, .pinned], laidTests := true, laidLooks := .later }
def TopLotsDecideCardSaid : Prop := Claim7.holds Tryz.pinned (.plain (OpenSpec.ofChange topLotsDecideSpec)) topLotsDecideCard

/-- THE TIED CARD OF 'metrolabtop.TopLotsCurve'. -/
def topLotsCurveCard : Claim7 := { stood := { row := topLotsCurveRow, standIns := [], harness := (true, "b64c57e0705400712449fd032a8421ef858f238946d0d17470964a54dcd6c77c"), looks := true }, kinds := [], alts := [], laidByText := true, laidKinds := [.data, .data, .data, .data, .sentinel, .sentinel, .pinned], laidTests := true, laidLooks := .later }
def TopLotsCurveCardSaid : Prop := Claim7.holds Tryz.pinned (.plain (OpenSpec.ofChange topLotsCurveSpec)) topLotsCurveCard

/-- THE SECOND FORM's CARD OF 'metrolablaw55.SwitchingChecks'. -/
def switchingChecksUptoCard : Claim7 := { stood := { row := switchingChecksUptoRow, standIns := [], harness := (true, "b64c57e0705400712449fd032a8421ef858f238946d0d17470964a54dcd6c77c"), looks := true }, kinds := [], alts := [], laidByText := true, laidKinds := [.data, .data, .data, .data, .sentinel, .sentinel, .pinned], laidTests := true, laidLooks := .later }
def SwitchingChecksUptoCardSaid : Prop := Claim7.holds Tryz.pinned (.plain (OpenSpec.upto switchingChecksSpec)) switchingChecksUptoCard

/-- THE SECOND FORM's CARD OF 'metrolablaw55.SwitchingGoes'. -/
def switchingGoesUptoCard : Claim7 := { stood := { row := switchingGoesUptoRow, standIns := [], harness := (true, "b64c57e0705400712449fd032a8421ef858f238946d0d17470964a54dcd6c77c"), looks := true }, kinds := [], alts := [], laidByText := true, laidKinds := [.data, .data, .data, .data, .sentinel, .sentinel, .pinned], laidTests := true, laidLooks := .later }
def SwitchingGoesUptoCardSaid : Prop := Claim7.holds Tryz.pinned (.plain (OpenSpec.upto switchingGoesSpec)) switchingGoesUptoCard

/-- THE SECOND FORM's CARD OF 'metrolablaw55.SwitchingRuns'. -/
def switchingRunsUptoCard : Claim7 := { stood := { row := switchingRunsUptoRow, standIns := [], harness := (true, "b64c57e0705400712449fd032a8421ef858f238946d0d17470964a54dcd6c77c"), looks := true }, kinds := [], alts := [], laidByText := true, laidKinds := [.data, .data, .data, .data, .sentinel, .sentinel, .pinned], laidTests := true, laidLooks := .later }
def SwitchingRunsUptoCardSaid : Prop := Claim7.holds Tryz.pinned (.plain (OpenSpec.upto switchingRunsSpec)) switchingRunsUptoCard

/-- THE SECOND FORM's CARD OF 'metrolablaw55.SwitchingChances'. -/
def switchingChancesUptoCard : Claim7 := { stood := { row := switchingChancesUptoRow, standIns := [], harness := (true, "b64c57e0705400712449fd032a8421ef858f238946d0d17470964a54dcd6c77c"), looks := true }, kinds := [], alts := [], laidByText := true, laidKinds := [.data, .data, .data, .data, .sentinel, .sentinel, .pinned], laidTests := true, laidLooks := .later }
def SwitchingChancesUptoCardSaid : Prop := Claim7.holds Tryz.pinned (.plain (OpenSpec.upto switchingChancesSpec)) switchingChancesUptoCard

/-- THE SECOND FORM's CARD OF 'metrolablaw55.SwitchingAdds'. -/
def switchingAddsUptoCard : Claim7 := { stood := { row := switchingAddsUptoRow, standIns := [], harness := (true, "b64c57e0705400712449fd032a8421ef858f238946d0d17470964a54dcd6c77c"), looks := true }, kinds := [], alts := [], laidByText := true, laidKinds := [.data, .data, .data, .data, .sentinel, .sentinel, .pinned], laidTests := true, laidLooks := .later }
def SwitchingAddsUptoCardSaid : Prop := Claim7.holds Tryz.pinned (.plain (OpenSpec.upto switchingAddsSpec)) switchingAddsUptoCard

/-- THE SECOND FORM's CARD OF 'metrolablaw55.SwitchingSure'. -/
def switchingSureUptoCard : Claim7 := { stood := { row := switchingSureUptoRow, standIns := [], harness := (true, "b64c57e0705400712449fd032a8421ef858f238946d0d17470964a54dcd6c77c"), looks := true }, kinds := [], alts := [], laidByText := true, laidKinds := [.data, .data, .data, .data, .sentinel, .sentinel, .pinned], laidTests := true, laidLooks := .later }
def SwitchingSureUptoCardSaid : Prop := Claim7.holds Tryz.pinned (.plain (OpenSpec.upto switchingSureSpec)) switchingSureUptoCard

/-- THE SECOND FORM's CARD OF 'metrolablaw55.SwitchingCosts'. -/
def switchingCostsUptoCard : Claim7 := { stood := { row := switchingCostsUptoRow, standIns := [], harness := (true, "b64c57e0705400712449fd032a8421ef858f238946d0d17470964a54dcd6c77c"), looks := true }, kinds := [], alts := [], laidByText := true, laidKinds := [.data, .data, .data, .data, .sentinel, .sentinel, .pinned], laidTests := true, laidLooks := .later }
def SwitchingCostsUptoCardSaid : Prop := Claim7.holds Tryz.pinned (.plain (OpenSpec.upto switchingCostsSpec)) switchingCostsUptoCard

/-- THE SECOND FORM's CARD OF 'metrolablaw55.SwitchingKeeps'. -/
def switchingKeepsUptoCard : Claim7 := { stood := { row := switchingKeepsUptoRow, standIns := [], harness := (true, "b64c57e0705400712449fd032a8421ef858f238946d0d17470964a54dcd6c77c"), looks := true }, kinds := [], alts := [], laidByText := true, laidKinds := [.data, .data, .data, .data, .sentinel, .sentinel, .pinned], laidTests := true, laidLooks := .later }
def SwitchingKeepsUptoCardSaid : Prop := Claim7.holds Tryz.pinned (.plain (OpenSpec.upto switchingKeepsSpec)) switchingKeepsUptoCard

/-- THE SECOND FORM's CARD OF 'metrolablaw55.SwitchingModes'. -/
def switchingModesUptoCard : Claim7 := { stood := { row := switchingModesUptoRow, standIns := [], harness := (true, "b64c57e0705400712449fd032a8421ef858f238946d0d17470964a54dcd6c77c"), looks := true }, kinds := [], alts := [], laidByText := true, laidKinds := [.data, .data, .data, .data, .sentinel, .sentinel, .pinned], laidTests := true, laidLooks := .later }
def SwitchingModesUptoCardSaid : Prop := Claim7.holds Tryz.pinned (.plain (OpenSpec.upto switchingModesSpec)) switchingModesUptoCard

/-- THE SECOND FORM's CARD OF 'metrolabtop.TopLotsChances'. -/
def topLotsChancesUptoCard : Claim7 := { stood := { row := topLotsChancesUptoRow, standIns := [], harness := (true, "b64c57e0705400712449fd032a8421ef858f238946d0d17470964a54dcd6c77c"), looks := true }, kinds := [], alts := [], laidByText := true, laidKinds := [.data, .data, .data, .data, .sentinel, .sentinel, .pinned], laidTests := true, laidLooks := .later }
def TopLotsChancesUptoCardSaid : Prop := Claim7.holds Tryz.pinned (.plain (OpenSpec.upto topLotsChancesSpec)) topLotsChancesUptoCard

/-- THE SECOND FORM's CARD OF 'metrolabtop.TopLotsDecide'. -/
def topLotsDecideUptoCard : Claim7 := { stood := { row := topLotsDecideUptoRow, standIns := [], harness := (true, "b64c57e0705400712449fd032a8421ef858f238946d0d17470964a54dcd6c77c"), looks := true }, kinds := [], alts := [], laidByText := true, laidKinds := [.data, .data, .data, .data, .sentinel, .sentinel, .pinned], laidTests := true, laidLooks := .later }
def TopLotsDecideUptoCardSaid : Prop := Claim7.holds Tryz.pinned (.plain (OpenSpec.upto topLotsDecideSpec)) topLotsDecideUptoCard

/-- THE SECOND FORM's CARD OF 'metrolabtop.TopLotsCurve'. -/
def topLotsCurveUptoCard : Claim7 := { stood := { row := topLotsCurveUptoRow, standIns := [], harness := (true, "b64c57e0705400712449fd032a8421ef858f238946d0d17470964a54dcd6c77c"), looks := true }, kinds := [], alts := [], laidByText := true, laidKinds := [.data, .data, .data, .data, .sentinel, .sentinel, .pinned], laidTests := true, laidLooks := .later }
def TopLotsCurveUptoCardSaid : Prop := Claim7.holds Tryz.pinned (.plain (OpenSpec.upto topLotsCurveSpec)) topLotsCurveUptoCard
end Rows
end Go.Proofs.YthmmgjieppknkaaGreatDoor
