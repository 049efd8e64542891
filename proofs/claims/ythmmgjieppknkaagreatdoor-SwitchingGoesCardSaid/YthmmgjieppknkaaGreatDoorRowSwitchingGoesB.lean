/- SwitchingGoes: what the kernel reckons, a second part. -/
import Derived.Test.YthmmgjieppknkaaGreatDoorRowSwitchingGoesA
import Derived.SevenTiedAt
namespace Go.Proofs.YthmmgjieppknkaaGreatDoor
open Go.ChangeShapes Go.WideShapes Go.ChangeAt Go.RowKit Go.Joins MLab

theorem j4 : (Rows.switchingGoesRow.named == Tryz.prog.varsNamed 4) = true := by kernel_rfl
theorem closed : joinedFacts Tryz.prog 4 Tryz.f4 (OpenSpec.ofChange Rows.switchingGoesSpec).bare Rows.switchingGoesRow = true := by
  unfold joinedFacts
  rw [j1, j2, j3, j4]
  kernel_rfl
end Go.Proofs.YthmmgjieppknkaaGreatDoor
