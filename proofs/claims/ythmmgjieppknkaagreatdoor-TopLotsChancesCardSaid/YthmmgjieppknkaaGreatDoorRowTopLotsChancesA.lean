/- TopLotsChances: what the kernel reckons, a first part. -/
import Derived.Test.YthmmgjieppknkaaGreatDoorKtaw
import Derived.SevenTiedAt
namespace Go.Proofs.YthmmgjieppknkaaGreatDoor
open Go.ChangeShapes Go.WideShapes Go.ChangeAt Go.RowKit Go.Joins MLab

theorem j1 : (Rows.topLotsChancesRow.inPlace == Tryz.prog.inPlace 12) = true := by kernel_rfl
theorem j2 : (Rows.topLotsChancesRow.unfollowed == Tryz.prog.unfollowed 12) = true := by kernel_rfl
theorem j3 : (Rows.topLotsChancesRow.recurses == Tryz.prog.recurses 12) = true := by kernel_rfl
end Go.Proofs.YthmmgjieppknkaaGreatDoor
