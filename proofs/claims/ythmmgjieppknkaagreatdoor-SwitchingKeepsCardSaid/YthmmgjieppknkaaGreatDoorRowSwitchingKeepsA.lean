/- SwitchingKeeps: what the kernel reckons, a first part. -/
import Derived.Test.YthmmgjieppknkaaGreatDoorKaw
import Derived.SevenTiedAt
namespace Go.Proofs.YthmmgjieppknkaaGreatDoor
open Go.ChangeShapes Go.WideShapes Go.ChangeAt Go.RowKit Go.Joins MLab

theorem j1 : (Rows.switchingKeepsRow.inPlace == Tryz.prog.inPlace 10) = true := by kernel_rfl
theorem j2 : (Rows.switchingKeepsRow.unfollowed == Tryz.prog.unfollowed 10) = true := by kernel_rfl
theorem j3 : (Rows.switchingKeepsRow.recurses == Tryz.prog.recurses 10) = true := by kernel_rfl
end Go.Proofs.YthmmgjieppknkaaGreatDoor
