/- SwitchingModes: what the kernel reckons, a second part. -/
import Derived.Test.YthmmgjieppknkaaGreatDoorRowSwitchingModesA
import Derived.SevenTiedAt
namespace Go.Proofs.YthmmgjieppknkaaGreatDoor
open Go.ChangeShapes Go.WideShapes Go.ChangeAt Go.RowKit Go.Joins MLab

theorem j4 : (Rows.switchingModesRow.named == Tryz.prog.varsNamed 11) = true := by kernel_rfl
theorem closed : joinedFacts Tryz.prog 11 Tryz.f11 (OpenSpec.ofChange Rows.switchingModesSpec).bare Rows.switchingModesRow = true := by
  unfold joinedFacts
  rw [j1, j2, j3, j4]
  kernel_rfl
end Go.Proofs.YthmmgjieppknkaaGreatDoor
