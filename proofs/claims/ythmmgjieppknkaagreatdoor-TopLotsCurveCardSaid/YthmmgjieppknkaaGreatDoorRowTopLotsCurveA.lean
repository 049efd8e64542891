/- TopLotsCurve: what the kernel reckons, a first part. -/
import Derived.Test.YthmmgjieppknkaaGreatDoorKtaw
import Derived.SevenTiedAt
namespace Go.Proofs.YthmmgjieppknkaaGreatDoor
open Go.ChangeShapes Go.WideShapes Go.ChangeAt Go.RowKit Go.Joins MLab

theorem j1 : (Rows.topLotsCurveRow.inPlace == Tryz.prog.inPlace 14) = true := by kernel_rfl
theorem j2 : (Rows.topLotsCurveRow.unfollowed == Tryz.prog.unfollowed 14) = true := by kernel_rfl
theorem j3 : (Rows.topLotsCurveRow.recurses == Tryz.prog.recurses 14) = true := by kernel_rfl
end Go.Proofs.YthmmgjieppknkaaGreatDoor
