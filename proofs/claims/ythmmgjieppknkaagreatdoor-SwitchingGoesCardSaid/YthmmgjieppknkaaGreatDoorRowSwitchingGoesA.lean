/- SwitchingGoes: what the kernel reckons, a first part. -/
import Derived.Test.YthmmgjieppknkaaGreatDoorKaw
import Derived.SevenTiedAt
namespace Go.Proofs.YthmmgjieppknkaaGreatDoor
open Go.ChangeShapes Go.WideShapes Go.ChangeAt Go.RowKit Go.Joins MLab

theorem j1 : (Rows.switchingGoesRow.inPlace == Tryz.prog.inPlace 4) = true := by kernel_rfl
theorem j2 : (Rows.switchingGoesRow.unfollowed == Tryz.prog.unfollowed 4) = true := by kernel_rfl
theorem j3 : (Rows.switchingGoesRow.recurses == Tryz.prog.recurses 4) = true := by kernel_rfl
end Go.Proofs.YthmmgjieppknkaaGreatDoor
