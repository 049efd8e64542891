/- SwitchingKeeps: what the kernel reckons, a second part. -/
import Derived.Test.YthmmgjieppknkaaGreatDoorRowSwitchingKeepsA
import Derived.SevenTiedAt
namespace Go.Proofs.YthmmgjieppknkaaGreatDoor
open Go.ChangeShapes Go.WideShapes Go.ChangeAt Go.RowKit Go.Joins MLab

theorem j4 : (Rows.switchingKeepsRow.named == Tryz.prog.varsNamed 10) = true := by kernel_rfl
theorem closed : joinedFacts Tryz.prog 10 Tryz.f10 (OpenSpec.ofChange Rows.switchingKeepsSpec).bare Rows.switchingKeepsRow = true := by
  unfold joinedFacts
  rw [j1, j2, j3, j4]
  kernel_rfl
end Go.Proofs.YthmmgjieppknkaaGreatDoor
