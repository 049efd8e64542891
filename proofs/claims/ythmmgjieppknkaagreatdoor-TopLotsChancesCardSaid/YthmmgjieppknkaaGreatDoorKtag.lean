/- Contracts and plain laws that the statements of this seat share (part Ktag). -/
import Derived.Test.YthmmgjieppknkaaGreatDoorKtaa
import Derived.Test.YthmmgjieppknkaaGreatDoorKtab
import Derived.Test.YthmmgjieppknkaaGreatDoorKtac
import Derived.Test.YthmmgjieppknkaaGreatDoorKtad
import Derived.Deep.QuietTactic
import Derived.BigQuiet
namespace Go.Proofs.YthmmgjieppknkaaGreatDoor
open Go.RowKit MLab
def schV (S : Nat → Int × Int) : Value := .agg #[.int .i64 (S 0).1, .int .i64 (S 0).2, .int .i64 (S 1).1, .int .i64 (S 1).2, .int .i64 (S 2).1, .int .i64 (S 2).2]
theorem idx_rule (S : Nat → Int × Int) {j : Nat} (hj : j < 3) (W : World) : (Instr.index 24 (schV S) (.int .i64 (j : Int))).run Tryz.prog W = .ok (.agg #[.int .i64 (S j).1, .int .i64 (S j).2]) W := by
  have hu : Tryz.prog.underlying 24 = some (.array 3 23) := by kernel_rfl
  obtain ⟨i, hi⟩ : ∃ i, Tryz.prog.info? 23 = some i := Option.isSome_iff_exists.1 (by kernel_rfl)
  have hs := run_sizeOf W hi
  have hc : Tryz.prog.cellsOf 23 = 2 := by kernel_rfl
  rw [hc] at hs
  unfold schV
  rcases (by omega : j = 0 ∨ j = 1 ∨ j = 2) with rfl | rfl | rfl
  · simp [Instr.index, run_underlying hu, asIntOf, hs, go_sem, part]
  · simp [Instr.index, run_underlying hu, asIntOf, hs, go_sem, part]
  · simp [Instr.index, run_underlying hu, asIntOf, hs, go_sem, part]
end Go.Proofs.YthmmgjieppknkaaGreatDoor

namespace Go.Proofs.YthmmgjieppknkaaGreatDoor
open Go.RowKit MLab
theorem bcl_lt {l : List Bool} {p : Nat} {x : Value} (h : (bcl l)[p]? = some x) : ∃ b, l[p]? = some b ∧ x = .bool b := by
  unfold bcl at h
  rw [List.getElem?_map] at h
  obtain ⟨b, hb, rfl⟩ := Option.map_eq_some_iff.1 h
  exact ⟨b, hb, rfl⟩
end Go.Proofs.YthmmgjieppknkaaGreatDoor

namespace Go.Proofs.YthmmgjieppknkaaGreatDoor
open Go.RowKit MLab
set_option maxRecDepth 100000 in
set_option maxHeartbeats 1000000 in
theorem begun_any (w : World) (m : Nat) : Calls Tryz.prog 64 #[.int .i64 (m : Int)] w fun e w' => e = .returned (.agg #[.int .i64 (m : Int), .int .i64 0, .int .i64 1, .int .i64 0]) ∧ Below w.heap.size w w' := by
  have HB := allocs_below w [.cells #[.int .i64 0, .int .i64 0, .int .i64 0, .int .i64 0] 105]
  have K_r : Blk (allocs w [.cells #[.int .i64 0, .int .i64 0, .int .i64 0, .int .i64 0] 105]) (w.heap.size + 0) 105 #[.int .i64 0, .int .i64 0, .int .i64 0, .int .i64 0] := allocs_at w [.cells #[.int .i64 0, .int .i64 0, .int .i64 0, .int .i64 0] 105] 0 rfl
  unfold allocs at HB K_r
  simp only [List.foldl_cons, List.foldl_nil] at HB K_r
  rw [Nat.add_zero] at K_r
  go_enter Tryz.func64, Tryz.ntmps64
  go_upto_region 1 with (fail)
  generalize (w.alloc (.cells #[.int .i64 0, .int .i64 0, .int .i64 0, .int .i64 0] 105)) = w0 at *
  replace K_r := hide K_r
  replace HB := hide HB
  have hrf := Blk.lt K_r.out
  have r0 := (Blk.cell K_r.out 0).trans (rfl : _ = some (Value.int .i64 0))
  have rf0 := Blk.frozen K_r.out 0
  have r1 := (Blk.cell K_r.out 1).trans (rfl : _ = some (Value.int .i64 0))
  have rf1 := Blk.frozen K_r.out 1
  have r2 := (Blk.cell K_r.out 2).trans (rfl : _ = some (Value.int .i64 0))
  have rf2 := Blk.frozen K_r.out 2
  have r3 := (Blk.cell K_r.out 3).trans (rfl : _ = some (Value.int .i64 0))
  have rf3 := Blk.frozen K_r.out 3
  go_wp2_with fail
  have rc0 := (Blk.cell ((((K_r.out.set_ 0 (.int .i64 (m : Int))).set_ 1 (.int .i64 0)).set_ 2 (.int .i64 1)).set_ 3 (.int .i64 0)) 0).trans (rfl : _ = some (Value.int .i64 (m : Int)))
  have rc1 := (Blk.cell ((((K_r.out.set_ 0 (.int .i64 (m : Int))).set_ 1 (.int .i64 0)).set_ 2 (.int .i64 1)).set_ 3 (.int .i64 0)) 1).trans (rfl : _ = some (Value.int .i64 0))
  have rc2 := (Blk.cell ((((K_r.out.set_ 0 (.int .i64 (m : Int))).set_ 1 (.int .i64 0)).set_ 2 (.int .i64 1)).set_ 3 (.int .i64 0)) 2).trans (rfl : _ = some (Value.int .i64 1))
  have rc3 := (Blk.cell ((((K_r.out.set_ 0 (.int .i64 (m : Int))).set_ 1 (.int .i64 0)).set_ 2 (.int .i64 1)).set_ 3 (.int .i64 0)) 3).trans (rfl : _ = some (Value.int .i64 0))
  exact bodyPost_ret (v := .agg #[.int .i64 (m : Int), .int .i64 0, .int .i64 1, .int .i64 0]) (by simp [results, Tryz.results64, go_sem, rc0, rc1, rc2, rc3]) rfl ⟨rfl, ((((HB.out.setCell (p := ⟨w.heap.size, 0, none⟩) (by show w.heap.size ≤ w.heap.size; omega) (.int .i64 (m : Int))).setCell (p := ⟨w.heap.size, 1, none⟩) (by show w.heap.size ≤ w.heap.size; omega) (.int .i64 0)).setCell (p := ⟨w.heap.size, 2, none⟩) (by show w.heap.size ≤ w.heap.size; omega) (.int .i64 1)).setCell (p := ⟨w.heap.size, 3, none⟩) (by show w.heap.size ≤ w.heap.size; omega) (.int .i64 0))⟩
theorem bit_any (w : World) (b : Bool) : Calls Tryz.prog 135 #[.bool b] w fun e w' => e = .returned (.int .i64 (if b then 1 else 0)) ∧ w' = w := by
  cases b with
  | true =>
    go_enter Tryz.func135, Tryz.ntmps135
    go_wp2_with fail
    go_ret
    exact ⟨rfl, rfl⟩
  | false =>
    go_enter Tryz.func135, Tryz.ntmps135
    go_wp2_with fail
    go_ret
    exact ⟨rfl, rfl⟩
end Go.Proofs.YthmmgjieppknkaaGreatDoor
