/- SwitchingModes: what the kernel reckons, a first part. -/
import Derived.Test.YthmmgjieppknkaaGreatDoorKaw
import Derived.SevenTiedAt
namespace Go.Proofs.YthmmgjieppknkaaGreatDoor
open Go.ChangeShapes Go.WideShapes Go.ChangeAt Go.RowKit Go.Joins MLab

theorem j1 : (Rows.switchingModesRow.inPlace == Tryz.prog.inPlace 11) = true := by kernel_rfl
theorem j2 : (Rows.switchingModesRow.unfollowed == Tryz.prog.unfollowed 11) = true := by kernel_rfl
theorem j3 : (Rows.switchingModesRow.recurses == Tryz.prog.recurses 11) = true := by kernel_rfl
end Go.Proofs.YthmmgjieppknkaaGreatDoor
