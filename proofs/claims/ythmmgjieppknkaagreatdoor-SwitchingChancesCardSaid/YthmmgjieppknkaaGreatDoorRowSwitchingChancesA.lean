/- SwitchingChances: what the kernel reckons, a first part. -/
import Derived.Test.YthmmgjieppknkaaGreatDoorKaw
import Derived.SevenTiedAt
namespace Go.Proofs.YthmmgjieppknkaaGreatDoor
open Go.ChangeShapes Go.WideShapes Go.ChangeAt Go.RowKit Go.Joins MLab

theorem j1 : (Rows.switchingChancesRow.inPlace == Tryz.prog.inPlace 6) = true := by kernel_rfl
theorem j2 : (Rows.switchingChancesRow.unfollowed == Tryz.prog.unfollowed 6) = true := by kernel_rfl
theorem j3 : (Rows.switchingChancesRow.recurses == Tryz.prog.recurses 6) = true := by kernel_rfl
end Go.Proofs.YthmmgjieppknkaaGreatDoor
