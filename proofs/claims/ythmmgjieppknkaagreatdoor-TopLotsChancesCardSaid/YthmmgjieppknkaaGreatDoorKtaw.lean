/- Contracts and plain laws that the statements of this seat share (part Ktaw). -/
import Derived.Test.YthmmgjieppknkaaGreatDoorKtaa
import Derived.Test.YthmmgjieppknkaaGreatDoorKtac
import Derived.Test.YthmmgjieppknkaaGreatDoorKtad
import Derived.Test.YthmmgjieppknkaaGreatDoorKtaf
import Derived.Test.YthmmgjieppknkaaGreatDoorKtal
import Derived.Test.YthmmgjieppknkaaGreatDoorRows
import Derived.Deep.DeepHandedRow
import Derived.ProofKit
import Derived.Lib.SmallJoins
import Derived.Lib.LaidTab
import Derived.Stop.LaidErr
import Derived.LaidMore
import Derived.OpenShut
namespace Go.Proofs.YthmmgjieppknkaaGreatDoor
open Go.ChangeShapes Go.WideShapes Go.ChangeAt Go.RowKit Go.Joins
theorem own : ownKnob Tryz.prog.godebug = none := by kernel_rfl
theorem laidOut : laidOutB Tryz.prog = true := by kernel_rfl
theorem gTab : Tryz.prog.globalNamed "internal/strconv.uint64pow10" = some 5 := by kernel_rfl
def intsOf : DataW Unit → Array Value
  | .agg xs => (xs.map fun x => match x with | .lit (.int k n) => Value.int k n | _ => undef).toArray
  | _ => #[]
noncomputable def laidWorld (os : Os) : World :=
  { World.doorLaid Tryz.prog 72 os with heap := (World.doorLaid Tryz.prog 72 os).heap.modify 3 fun
      | .cells _ t frozen => .cells (intsOf Rows.laid_unicode_utf8_first) t frozen
      | o => o }
theorem laid_met (os : Os) (args : Array Value) : laidMetH Tryz.prog Rows.switchingChecksRow.laid ((laidWorld os).forCall (fun _ _ => 0) ⟨#[], args, []⟩).memory := by
  rw [MakeChecks.laidMetH_plain _ _ _ (by kernel_rfl)]
  exact laidMet_of_run' 8 (by kernel_rfl) (by kernel_rfl)
theorem tabType : (Tryz.prog.globals[5]?).map (·.type) = some 280 := by kernel_rfl
theorem cells_u64 : Tryz.prog.cellsOf 183 = 1 := by kernel_rfl
theorem cells_tab : Tryz.prog.cellsOf 280 = 20 := by kernel_rfl
theorem std_of_laid {W : World} (hL : laidMetH Tryz.prog Rows.switchingChecksRow.laid W) (hs : W.ShapedOpen Tryz.prog) : Std W := by
  rw [MakeChecks.laidMetH_plain _ _ _ (by kernel_rfl)] at hL
  exact ⟨Lib.tabIs_of_head gTab tabType Tryz.underlying280 Tryz.underlying183 cells_u64 cells_tab (laidMet.tail (laidMet.tail hL)), hs⟩
end Go.Proofs.YthmmgjieppknkaaGreatDoor
