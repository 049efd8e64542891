/- SwitchingRuns: what the kernel reckons, a first part. -/
import Derived.Test.YthmmgjieppknkaaGreatDoorKaw
import Derived.SevenTiedAt
namespace Go.Proofs.YthmmgjieppknkaaGreatDoor
open Go.ChangeShapes Go.WideShapes Go.ChangeAt Go.RowKit Go.Joins MLab

theorem j1 : (Rows.switchingRunsRow.inPlace == Tryz.prog.inPlace 5) = true := by kernel_rfl
theorem j2 : (Rows.switchingRunsRow.unfollowed == Tryz.prog.unfollowed 5) = true := by kernel_rfl
theorem j3 : (Rows.switchingRunsRow.recurses == Tryz.prog.recurses 5) = true := by kernel_rfl
end Go.Proofs.YthmmgjieppknkaaGreatDoor
