/- SwitchingSure: what the kernel reckons, a second part. -/
import Derived.Test.YthmmgjieppknkaaGreatDoorRowSwitchingSureA
import Derived.SevenTiedAt
namespace Go.Proofs.YthmmgjieppknkaaGreatDoor
open Go.ChangeShapes Go.WideShapes Go.ChangeAt Go.RowKit Go.Joins MLab

theorem j4 : (Rows.switchingSureRow.named == Tryz.prog.varsNamed 8) = true := by kernel_rfl
theorem closed : joinedFacts Tryz.prog 8 Tryz.f8 (OpenSpec.ofChange Rows.switchingSureSpec).bare Rows.switchingSureRow = true := by
  unfold joinedFacts
  rw [j1, j2, j3, j4]
  kernel_rfl
end Go.Proofs.YthmmgjieppknkaaGreatDoor
