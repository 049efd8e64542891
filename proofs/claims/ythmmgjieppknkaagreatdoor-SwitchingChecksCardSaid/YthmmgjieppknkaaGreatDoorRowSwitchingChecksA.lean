/- SwitchingChecks: what the kernel reckons, a first part. -/
import Derived.Test.YthmmgjieppknkaaGreatDoorKaw
import Derived.SevenTiedAt
namespace Go.Proofs.YthmmgjieppknkaaGreatDoor
open Go.ChangeShapes Go.WideShapes Go.ChangeAt Go.RowKit Go.Joins MLab

theorem j1 : (Rows.switchingChecksRow.inPlace == Tryz.prog.inPlace 3) = true := by kernel_rfl
theorem j2 : (Rows.switchingChecksRow.unfollowed == Tryz.prog.unfollowed 3) = true := by kernel_rfl
theorem j3 : (Rows.switchingChecksRow.recurses == Tryz.prog.recurses 3) = true := by kernel_rfl
end Go.Proofs.YthmmgjieppknkaaGreatDoor
