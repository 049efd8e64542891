/- SwitchingAdds: what the kernel reckons, a second part. -/
import Derived.Test.YthmmgjieppknkaaGreatDoorRowSwitchingAddsA
import Derived.SevenTiedAt
namespace Go.Proofs.YthmmgjieppknkaaGreatDoor
open Go.ChangeShapes Go.WideShapes Go.ChangeAt Go.RowKit Go.Joins MLab

theorem j4 : (Rows.switchingAddsRow.named == Tryz.prog.varsNamed 7) = true := by kernel_rfl
theorem closed : joinedFacts Tryz.prog 7 Tryz.f7 (OpenSpec.ofChange Rows.switchingAddsSpec).bare Rows.switchingAddsRow = true := by
  unfold joinedFacts
  rw [j1, j2, j3, j4]
  kernel_rfl
end Go.Proofs.YthmmgjieppknkaaGreatDoor
