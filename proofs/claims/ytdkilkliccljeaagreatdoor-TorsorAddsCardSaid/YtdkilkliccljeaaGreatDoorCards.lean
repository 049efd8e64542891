/-
  DERIVED. GIVEN WITH THE SEED: THE CARDS: each row of YtdkilkliccljeaaGreatDoorRows.lean that lists a variable, with what it lists TIED to the program's text (the seventh form; the later family's looks); each row that meets fmt, with fmt's text TOLD by the authors' own Lean function (tested against real Go, not proved from fmt's source: count such statements apart). THE CARD IS WHAT COUNTS. Prove the row's statement (the work); the ties are given (YtdkilkliccljeaaGreatDoorTie.lean); close each card by the builder's one call (the guide's Derived/Test/ToyasCard.lean, 'card_holds'). Laid BY PROGRAM, IN A SANDBOX (cutbox-door.mjs). By AI agents, Wed Nov 11 2026. No macro, syntax, notation, axiom, sorry.
-/
import Derived.Test.YtdkilkliccljeaaGreatDoorRows
import GoSem.ClaimSeven
namespace Go.Proofs.YtdkilkliccljeaaGreatDoor
namespace Rows

/-- THE TIED CARD OF 'metrolablaw40.TorsorApplies'. -/
def torsorAppliesCard : Claim7 := { stood := { row := torsorAppliesRow, standIns := [], harness := (true, "eca86bd2130f66b8a585c3dbeb73e7f1c73c58b8ec01380e04825a8d16a1b3fd"), looks := true }, kinds := [], alts := [], laidByText := true, laidKinds := [.data, .data, .data, .data, .sentinel, .sentinel, .pinned], laidTests := true, laidLooks := .later }
def TorsorAppliesCardSaid : Prop := Claim7.holds Tryz.pinned (.plain (OpenSpec.ofChange torsorAppliesSpec)) torsorAppliesCard

/-- THE TIED CARD OF 'metrolablaw40.TorsorForms'. -/
def torsorFormsCard : Claim7 := { stood := { row := torsorFormsRow, standIns := [], harness := (true, "eca86bd2130f66b8a585c3dbeb73e7f1c73c58b8ec01380e04825a8d16a1b3fd"), looks := true }, kinds := [], alts := [], laidByText := true, laidKinds := [.data, .data, .data, .data, .sentinel, .sentinel, .pinned], laidTests := true, laidLooks := .later }
def TorsorFormsCardSaid : Prop := Claim7.holds Tryz.pinned (.plain (OpenSpec.ofChange torsorFormsSpec)) torsorFormsCard

/-- THE TIED CARD OF 'metrolablaw40.TorsorTurns'. -/
def torsorTurnsCard : Claim7 := { stood := { row := torsorTurnsRow, standIns := [], harness := (true, "eca86bd2130f66b8a585c3dbeb73e7f1c73c58b8ec01380e04825a8d16a1b3fd"), looks := true }, kinds := [], alts := [], laidByText := true, laidKinds := [.data, .data, .data, .data, .sentinel, .sentinel, .pinned], laidTests := true, laidLooks := .later }
def TorsorTurnsCardSaid : Prop := Claim7.holds Tryz.pinned (.plain (OpenSpec.ofChange torsorTurnsSpec)) torsorTurnsCard

/-- THE TIED CARD OF 'metrolablaw40.TorsorKeeps'. -/
def torsorKeepsCard : Claim7 := { stood := { row := torsorKeepsRow, standIns := [], harness := (true, "eca86bd2130f66b8a585c3dbeb73e7f1c73c58b8ec01380e04825a8d16a1b3fd"), looks := true }, kinds := [], alts := [], laidByText := true, laidKinds := [.data, .data, .data, .data, .sentinel, .sentinel, .pinned], laidTests := true, laidLooks := .later }
def TorsorKeepsCardSaid : Prop := Claim7.holds Tryz.pinned (.plain (OpenSpec.ofChange torsorKeepsSpec)) torsorKeepsCard

/-- THE TIED CARD OF 'metrolablaw40.TorsorAdds'. -/
def torsorAddsCard : Claim7 := { stood := { row := torsorAddsRow, standIns := [], harness := (true, "eca86bd2130f66b8a585c3dbeb73e7f1c73c58b8ec01380e04825a8d16a1b3fd"), looks := true }, kinds := [], alts := [], laidByText := true, laidKinds := [.data, .data, .data, .data, .sentinel, .sentinel, .pinned], laidTests := true, laidLooks := .later }
def TorsorAddsCardSaid : Prop := Claim7.holds Tryz.pinned (.plain (OpenSpec.ofChange torsorAddsSpec)) torsorAddsCard

/-- THE TIED CARD OF 'metrolablaw40.TorsorFits'. -/
def torsorFitsCard : Claim7 := { stood := { row := torsorFitsRow, standIns := [], harness := (true, "eca86bd2130f66b8a585c3dbeb73e7f1c73c58b8ec01380e04825a8d16a1b3fd"), looks := true }, kinds := [], alts := [], laidByText := true, laidKinds := [.data, .data, .data, .data, .sentinel, .sentinel, .pinned], laidTests := true, laidLooks := .later }
def TorsorFitsCardSaid : Prop := Claim7.holds Tryz.pinned (.plain (OpenSpec.ofChange torsorFitsSpec)) torsorFitsCard

/-- THE TIED CARD OF 'metrolablaw40.TorsorMeets'. -/
def torsorMeetsCard : Claim7 := { stood := { row := torsorMeetsRow, standIns := [], harness := (true, "eca86bd2130f66b8a585c3dbeb73e7f1c73c58b8ec01380e04825a8d16a1b3fd"), looks := true }, kinds := [], alts := [], laidByText := true, laidKinds := [.data, .data, .data, .data, .sentinel, .sentinel, .pinned], laidTests := true, laidLooks := .later }
def TorsorMeetsCardSaid : Prop := Claim7.holds Tryz.pinned (.plain (OpenSpec.ofChange torsorMeetsSpec)) torsorMeetsCard

/-- THE SECOND FORM's CARD OF 'metrolablaw40.TorsorApplies'. -/
def torsorAppliesUptoCard : Claim7 := { stood := { row := torsorAppliesUptoRow, standIns := [], harness := (true, "eca86bd2130f66b8a585c3dbeb73e7f1c73c58b8ec01380e04825a8d16a1b3fd"), looks := true }, kinds := [], alts := [], laidByText := true, laidKinds := [.data, .data, .data, .data, .sentinel, .sentinel, .pinned], laidTests := true, laidLooks := .later }
def TorsorAppliesUptoCardSaid : Prop := Claim7.holds Tryz.pinned (.plain (OpenSpec.upto torsorAppliesSpec)) torsorAppliesUptoCard

/-- THE SECOND FORM's CARD OF 'metrolablaw40.TorsorForms'. -/
def torsorFormsUptoCard : Claim7 := { stood := { row := torsorFormsUptoRow, standIns := [], harness := (true, "eca86bd2130f66b8a585c3dbeb73e7f1c73c58b8ec01380e04825a8d16a1b3fd"), looks := true }, kinds := [], alts := [], laidByText := true, laidKinds := [.data, .data, .data, .data, .sentinel, .sentinel, .pinned], laidTests := true, laidLooks := .later }
def TorsorFormsUptoCardSaid : Prop := Claim7.holds Tryz.pinned (.plain (OpenSpec.upto torsorFormsSpec)) torsorFormsUptoCard

/-- THE SECOND FORM's CARD OF 'metrolablaw40.TorsorTurns'. -/
def torsorTurnsUptoCard : Claim7 := { stood := { row := torsorTurnsUptoRow, standIns := [], harness := (true, "eca86bd2130f66b8a585c3dbeb73e7f1c73c58b8ec01380e04825a8d16a1b3fd"), looks := true }, kinds := [], alts := [], laidByText := true, laidKinds := [.data, .data, .data, .data, .sentinel, .sentinel, .pinned], laidTests := true, laidLooks := .later }
def TorsorTurnsUptoCardSaid : Prop := Claim7.holds Tryz.pinned (.plain (OpenSpec.upto torsorTurnsSpec)) torsorTurnsUptoCard

/-- THE SECOND FORM's CARD OF 'metrolablaw40.TorsorKeeps'. -/
def torsorKeepsUptoCard : Claim7 := { stood := { row := torsorKeepsUptoRow, standIns := [], harness := (true, "eca86bd2130f66b8a585c3dbeb73e7f1c73c58b8ec01380e04825a8d16a1b3fd"), looks := true }, kinds := [], alts := [], laidByText := true, laidKinds := [.data, .data, .data, .data, .sentinel, .sentinel, .pinned], laidTests := true, laidLooks := .later }
def TorsorKeepsUptoCardSaid : Prop := Claim7.holds Tryz.pinned (.plain (OpenSpec.upto torsorKeepsSpec)) torsorKeepsUptoCard

/-- THE SECOND FORM's CARD OF 'metrolablaw40.TorsorAdds'. -/
def torsorAddsUptoCard : Claim7 := { stood := { row := torsorAddsUptoRow, standIns := [], harness := (true, "eca86bd2130f66b8a585c3dbeb73e7f1c73c58b8ec01380e04825a8d16a1b3fd"), looks := true }, kinds := [], alts := [], laidByText := true, laidKinds := [.data, .data, .data, .data, .sentinel, .sentinel, .pinned], laidTests := true, laidLooks := .later }
def TorsorAddsUptoCardSaid : Prop := Claim7.holds Tryz.pinned (.plain (OpenSpec.upto torsorAddsSpec)) torsorAddsUptoCard

/-- THE SECOND FORM's CARD OF 'metrolablaw40.TorsorFits'. -/
def torsorFitsUptoCard : Claim7 := { stood := { row := torsorFitsUptoRow, standIns := [], harness := (true, "eca86bd2130f66b8a585c3dbeb73e7f1c73c58b8ec01380e04825a8d16a1b3fd"), looks := true }, kinds := [], alts := [], laidByText := true, laidKinds := [.data, .data, .data, .data, .sentinel, .sentinel, .pinned], laidTests := true, laidLooks := .later }
def TorsorFitsUptoCardSaid : Prop := Claim7.holds Tryz.pinned (.plain (OpenSpec.upto torsorFitsSpec)) torsorFitsUptoCard

/-- THE SECOND FORM's CARD OF 'metrolablaw40.TorsorMeets'. -/
def torsorMeetsUptoCard : Claim7 := { stood := { row := torsorMeetsUptoRow, standIns := [], harness := (true, "eca86bd2130f66b8a585c3dbeb73e7f1c73c58b8ec01380e04825a8d16a1b3fd"), looks := true }, kinds := [], alts := [], laidByText := true, laidKinds := [.data, .data, .data, .data, .sentinel, .sentinel, .pinned], laidTests := true, laidLooks := .later }
def TorsorMeetsUptoCardSaid : Prop := Claim7.holds Tryz.pinned (.plain (OpenSpec.upto torsorMeetsSpec)) torsorMeetsUptoCard
end Rows
end Go.Proofs.YtdkilkliccljeaaGreatDoor
