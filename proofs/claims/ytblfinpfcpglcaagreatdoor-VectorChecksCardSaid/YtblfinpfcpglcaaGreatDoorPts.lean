/- Words for small structs: boxes, values, regions that load beside calls that make memory. -/
import Derived.Test.YtblfinpfcpglcaaGreatDoorMem
import Derived.Deep.RegionHeld3
import Derived.Laws.ResultCell
namespace Go.Proofs.YtblfinpfcpglcaaGreatDoor
open Go.RowKit MLab

/-- New blocks, one after the other. -/
def allocs (w : World) (L : List Obj) : World := L.foldl World.alloc w
theorem allocs_size (w : World) (L : List Obj) : (allocs w L).heap.size = w.heap.size + L.length := by
  induction L generalizing w with
  | nil => rfl
  | cons o t ih => show (allocs (w.alloc o) t).heap.size = _; rw [ih, List.length_cons]; simp; omega
theorem allocs_below (w : World) (L : List Obj) : Below w.heap.size w (allocs w L) := by
  induction L generalizing w with
  | nil => exact Below.refl _ _
  | cons o t ih => exact ((Below.refl _ _).alloc (Nat.le_refl _) o).trans ((ih (w.alloc o)).mono (by simp))
theorem allocs_at (w : World) (L : List Obj) (i : Nat) {o : Obj} (h : L[i]? = some o) : (allocs w L).heap[w.heap.size + i]? = some o := by
  induction L generalizing w i with
  | nil => simp at h
  | cons p t ih =>
    cases i with
    | zero =>
      have e : p = o := by simpa using h
      rw [← e]
      show (allocs (w.alloc p) t).heap[w.heap.size]? = _
      rw [(allocs_below (w.alloc p) t).block w.heap.size (by simp), heap_alloc_new]
    | succ i =>
      have := ih (w.alloc p) i (by simpa using h)
      rw [show w.heap.size + (i + 1) = (w.alloc p).heap.size + i by simp; omega]
      exact this

/-- A point, and one in space, as values. -/
abbrev ptv (x y : Int) : Value := .agg #[.int .i64 x, .int .i64 y]
abbrev spv (x y z : Int) : Value := .agg #[.int .i64 x, .int .i64 y, .int .i64 z]
/-- In the range of a coordinate, of a difference. -/
abbrev Co (x : Int) : Prop := -100000 ≤ x ∧ x ≤ 100000
abbrev Df (x : Int) : Prop := -200000 ≤ x ∧ x ≤ 200000

theorem mulB {x y M N : Int} (h1 : -M ≤ x ∧ x ≤ M) (h2 : -N ≤ y ∧ y ≤ N) : -(M * N) ≤ x * y ∧ x * y ≤ M * N := by
  have hm : (x * y).natAbs ≤ M.natAbs * N.natAbs := by rw [Int.natAbs_mul]; exact Nat.mul_le_mul (by omega) (by omega)
  have e : ((M.natAbs * N.natAbs : Nat) : Int) = M * N := by rw [Int.natCast_mul, show (M.natAbs : Int) = M by omega, show (N.natAbs : Int) = N by omega]
  omega

/-- What lay below lies there on: the first limb of what a region keeps. -/
theorem bel_next {B : Nat} {w0 w w1 : World} {R : Prop} (h : Below B w0 w ∧ R) (k : Below w.heap.size w w1) (hB : B ≤ w0.heap.size) : Below B w0 w1 :=
  h.1.trans (k.mono (Nat.le_trans hB h.1.size))
theorem bcell {B : Nat} {W w1 : World} (hb : Below B W w1) : ∀ b o, b < B → w1.cell? ⟨b, o, none⟩ = W.cell? ⟨b, o, none⟩ := fun b o h => hb.cell (p := ⟨b, o, none⟩) h
end Go.Proofs.YtblfinpfcpglcaaGreatDoor
