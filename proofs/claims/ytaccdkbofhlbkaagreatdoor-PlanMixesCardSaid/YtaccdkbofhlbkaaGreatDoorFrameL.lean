/- The frame that every row of the seat shares: the witness's world, the tables that the row lists. -/
import Derived.Test.YtaccdkbofhlbkaaGreatDoorRows
import Derived.Test.YtaccdkbofhlbkaaGreatDoorBuilder
import Derived.Test.YtaccdkbofhlbkaaGreatDoorPts
import Derived.Deep.DeepHandedRow
import Derived.ProofKit
import Derived.Lib.SmallJoins
import Derived.Lib.LaidTab
import Derived.Stop.LaidErr
import Derived.LaidMore
import Derived.OpenShut
namespace Go.Proofs.YtaccdkbofhlbkaaGreatDoor
open Go.ChangeShapes Go.WideShapes Go.ChangeAt Go.RowKit Go.Joins

theorem own : ownKnob Tryz.prog.godebug = none := by kernel_rfl
theorem laidOut : laidOutB Tryz.prog = true := by kernel_rfl
theorem gTab : Tryz.prog.globalNamed "internal/strconv.uint64pow10" = some 3 := by kernel_rfl

/-- The numbers of a datum that is an array of integers. -/
def intsOf : DataW Unit → Array Value
  | .agg xs => (xs.map fun x => match x with | .lit (.int k n) => Value.int k n | _ => undef).toArray
  | _ => #[]
/-- The world that the program's own door leaves, the pinned table laid besides. -/
noncomputable def laidWorld (os : Os) : World :=
  { World.doorLaid Tryz.prog 72 os with heap := (World.doorLaid Tryz.prog 72 os).heap.modify 4 fun
      | .cells _ t frozen => .cells (intsOf Rows.laid_unicode_utf8_first) t frozen
      | o => o }
theorem laid_met (os : Os) (args : Array Value) : laidMetH Tryz.prog Rows.planAcceptsRow.laid ((laidWorld os).forCall (fun _ _ => 0) ⟨#[], args, []⟩).memory := by
  rw [MakeChecks.laidMetH_plain _ _ _ (by kernel_rfl)]
  exact laidMet_of_run' 8 (by kernel_rfl) (by kernel_rfl)

theorem tabType : (Tryz.prog.globals[3]?).map (·.type) = some 223 := by kernel_rfl
theorem cells_u64 : Tryz.prog.cellsOf 205 = 1 := by kernel_rfl
theorem cells_tab : Tryz.prog.cellsOf 223 = 20 := by kernel_rfl
/-- What the row's condition gives the walks. -/
theorem std_of_laid {W : World} (hL : laidMetH Tryz.prog Rows.planAcceptsRow.laid W) (hs : W.ShapedOpen Tryz.prog) : Std W := by
  rw [MakeChecks.laidMetH_plain _ _ _ (by kernel_rfl)] at hL
  exact ⟨Lib.tabIs_of_head gTab tabType Tryz.underlying223 Tryz.underlying205 cells_u64 cells_tab (laidMet.tail (laidMet.tail hL)), hs⟩

end Go.Proofs.YtaccdkbofhlbkaaGreatDoor
