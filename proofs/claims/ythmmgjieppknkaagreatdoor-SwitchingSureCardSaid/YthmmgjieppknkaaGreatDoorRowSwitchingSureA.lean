/- SwitchingSure: what the kernel reckons, a first part. -/
import Derived.Test.YthmmgjieppknkaaGreatDoorKaw
import Derived.SevenTiedAt
namespace Go.Proofs.YthmmgjieppknkaaGreatDoor
open Go.ChangeShapes Go.WideShapes Go.ChangeAt Go.RowKit Go.Joins MLab

theorem j1 : (Rows.switchingSureRow.inPlace == Tryz.prog.inPlace 8) = true := by kernel_rfl
theorem j2 : (Rows.switchingSureRow.unfollowed == Tryz.prog.unfollowed 8) = true := by kernel_rfl
theorem j3 : (Rows.switchingSureRow.recurses == Tryz.prog.recurses 8) = true := by kernel_rfl
end Go.Proofs.YthmmgjieppknkaaGreatDoor
