/- SwitchingCosts: what the kernel reckons, a first part. -/
import Derived.Test.YthmmgjieppknkaaGreatDoorKaw
import Derived.SevenTiedAt
namespace Go.Proofs.YthmmgjieppknkaaGreatDoor
open Go.ChangeShapes Go.WideShapes Go.ChangeAt Go.RowKit Go.Joins MLab

theorem j1 : (Rows.switchingCostsRow.inPlace == Tryz.prog.inPlace 9) = true := by kernel_rfl
theorem j2 : (Rows.switchingCostsRow.unfollowed == Tryz.prog.unfollowed 9) = true := by kernel_rfl
theorem j3 : (Rows.switchingCostsRow.recurses == Tryz.prog.recurses 9) = true := by kernel_rfl
end Go.Proofs.YthmmgjieppknkaaGreatDoor
