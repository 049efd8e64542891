/- Words for small structs: boxes, values, regions that load beside calls that make memory. The element of an array by value, at an index that is a letter. Equality of an array of three numbers, and of a torsor, with itself. -/
import Derived.Test.YtaccdkbofhlbkaaGreatDoorMem
import Derived.Deep.RegionHeld3
import Derived.Laws.ResultCell
import Derived.ChangeKeysEq
import Derived.DeepKeys
namespace Go.Proofs.YtaccdkbofhlbkaaGreatDoor
open Go.RowKit MLab

/-- New blocks, one after the other. -/
def allocs (w : World) (L : List Obj) : World := L.foldl World.alloc w
theorem allocs_size (w : World) (L : List Obj) : (allocs w L).heap.size = w.heap.size + L.length := by
  induction L generalizing w with
  | nil => rfl
  | cons o t ih => show (allocs (w.alloc o) t).heap.size = _; rw [ih, List.length_cons]; simp; omega
theorem allocs_below (w : World) (L : List Obj) : Below w.heap.size w (allocs w L) := by
  induction L generalizing w with
  | nil => exact Below.refl _ _
  | cons o t ih => exact ((Below.refl _ _).alloc (Nat.le_refl _) o).trans ((ih (w.alloc o)).mono (by simp))
theorem allocs_at (w : World) (L : List Obj) (i : Nat) {o : Obj} (h : L[i]? = some o) : (allocs w L).heap[w.heap.size + i]? = some o := by
  induction L generalizing w i with
  | nil => simp at h
  | cons p t ih =>
    cases i with
    | zero =>
      have e : p = o := by simpa using h
      rw [← e]
      show (allocs (w.alloc p) t).heap[w.heap.size]? = _
      rw [(allocs_below (w.alloc p) t).block w.heap.size (by simp), heap_alloc_new]
    | succ i =>
      have := ih (w.alloc p) i (by simpa using h)
      rw [show w.heap.size + (i + 1) = (w.alloc p).heap.size + i by simp; omega]
      exact this

/-- A point, and one in space, as values. -/
abbrev ptv (x y : Int) : Value := .agg #[.int .i64 x, .int .i64 y]
abbrev spv (x y z : Int) : Value := .agg #[.int .i64 x, .int .i64 y, .int .i64 z]
/-- In the range of a coordinate, of a difference. -/
abbrev Co (x : Int) : Prop := -100000 ≤ x ∧ x ≤ 100000
abbrev Df (x : Int) : Prop := -200000 ≤ x ∧ x ≤ 200000

theorem mulB {x y M N : Int} (h1 : -M ≤ x ∧ x ≤ M) (h2 : -N ≤ y ∧ y ≤ N) : -(M * N) ≤ x * y ∧ x * y ≤ M * N := by
  have hm : (x * y).natAbs ≤ M.natAbs * N.natAbs := by rw [Int.natAbs_mul]; exact Nat.mul_le_mul (by omega) (by omega)
  have e : ((M.natAbs * N.natAbs : Nat) : Int) = M * N := by rw [Int.natCast_mul, show (M.natAbs : Int) = M by omega, show (N.natAbs : Int) = N by omega]
  omega

/-- What lay below lies there on: the first limb of what a region keeps. -/
theorem bel_next {B : Nat} {w0 w w1 : World} {R : Prop} (h : Below B w0 w ∧ R) (k : Below w.heap.size w w1) (hB : B ≤ w0.heap.size) : Below B w0 w1 :=
  h.1.trans (k.mono (Nat.le_trans hB h.1.size))
theorem bcell {B : Nat} {W w1 : World} (hb : Below B W w1) : ∀ b o, b < B → w1.cell? ⟨b, o, none⟩ = W.cell? ⟨b, o, none⟩ := fun b o h => hb.cell (p := ⟨b, o, none⟩) h
end Go.Proofs.YtaccdkbofhlbkaaGreatDoor

namespace Go.Proofs.YtaccdkbofhlbkaaGreatDoor
open Go.RowKit MLab

theorem run_index_plain {P : Program} {t e : TypeId} {n : Nat} {cs : Array Value} {j : Nat} {v : Value} {i : TypeInfo} (h : P.underlying t = some (.array n e)) (hi : P.info? e = some i) (hc : P.cellsOf e = 1) (hp : P.plainKey e = true) (hj : j < n) (hx : cs[j]? = some v) (w : World) :
    (Instr.index t (.agg cs) (.int .i64 (j : Int))).run P w = .ok v w := by
  have hb : (0 : Int) ≤ (j : Int) ∧ (j : Int) < (n : Int) := by omega
  have hs := run_sizeOf w hi
  rw [hc] at hs
  have h2 := run_part_plain w hp hx
  simp [part, go_sem] at h2
  simp [Instr.index, run_underlying h, asIntOf, hb, hj, hs, go_sem]
  exact h2
theorem idx_int {n : Nat} {t : TypeId} {cs : Array Value} {j : Nat} {v : Value} (h : Tryz.prog.underlying t = some (.array n 3)) (hj : j < n) (hx : cs[j]? = some v) (w : World) :
    (Instr.index t (.agg cs) (.int .i64 (j : Int))).run Tryz.prog w = .ok v w := by
  obtain ⟨i, hi⟩ : ∃ i, Tryz.prog.info? 3 = some i := Option.isSome_iff_exists.1 (by kernel_rfl)
  exact run_index_plain h hi (by kernel_rfl) (by kernel_rfl) hj hx w
end Go.Proofs.YtaccdkbofhlbkaaGreatDoor

namespace Go.Proofs.YtaccdkbofhlbkaaGreatDoor
open Go.RowKit MLab

theorem cells_rat : Tryz.prog.cellsOf 26 = 1 := by kernel_rfl
theorem lits_rat (D : Nat) (s : ByteArray) (h : s.size ≤ maxLen) : Tryz.prog.keyLits (D + 1) 26 [.string s] = some [.string s.data.toList] := by
  unfold Program.keyLits
  rw [Tryz.underlying26]
  simp [h]
theorem run_self {t : TypeId} {m : Nat} (hk : Tryz.prog.keyTypeAt m t = true) (hm : m ≤ 10000) (v : Value) {D : Nat} {l : List Lit} (hf : v.formed Tryz.prog t = true) (hl : Tryz.prog.keyLits D t v.cells.toList = some l) (w : World) :
    (Op.equalIn 10000 t v v).run Tryz.prog w = .ok true w := by
  obtain ⟨r, h1, h2⟩ := run_equalIn_deep (10000 - m) m t hk w D D v v l l hf hf hl hl
  rw [show 10000 - m + m = 10000 by omega] at h1
  rw [h1, h2.2 rfl]
end Go.Proofs.YtaccdkbofhlbkaaGreatDoor
