/- TopLotsDecide: what the kernel reckons, a first part. -/
import Derived.Test.YthmmgjieppknkaaGreatDoorKtaw
import Derived.SevenTiedAt
namespace Go.Proofs.YthmmgjieppknkaaGreatDoor
open Go.ChangeShapes Go.WideShapes Go.ChangeAt Go.RowKit Go.Joins MLab

theorem j1 : (Rows.topLotsDecideRow.inPlace == Tryz.prog.inPlace 13) = true := by kernel_rfl
theorem j2 : (Rows.topLotsDecideRow.unfollowed == Tryz.prog.unfollowed 13) = true := by kernel_rfl
theorem j3 : (Rows.topLotsDecideRow.recurses == Tryz.prog.recurses 13) = true := by kernel_rfl
end Go.Proofs.YthmmgjieppknkaaGreatDoor
