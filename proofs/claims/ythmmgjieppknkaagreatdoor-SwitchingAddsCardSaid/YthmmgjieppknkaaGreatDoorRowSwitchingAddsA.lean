/- SwitchingAdds: what the kernel reckons, a first part. -/
import Derived.Test.YthmmgjieppknkaaGreatDoorKaw
import Derived.SevenTiedAt
namespace Go.Proofs.YthmmgjieppknkaaGreatDoor
open Go.ChangeShapes Go.WideShapes Go.ChangeAt Go.RowKit Go.Joins MLab

theorem j1 : (Rows.switchingAddsRow.inPlace == Tryz.prog.inPlace 7) = true := by kernel_rfl
theorem j2 : (Rows.switchingAddsRow.unfollowed == Tryz.prog.unfollowed 7) = true := by kernel_rfl
theorem j3 : (Rows.switchingAddsRow.recurses == Tryz.prog.recurses 7) = true := by kernel_rfl
end Go.Proofs.YthmmgjieppknkaaGreatDoor
