/- Contracts and plain laws that the statements of this seat share (part Ktad). -/
import Derived.Test.YthmmgjieppknkaaGreatDoorKtaa
import Derived.Test.YthmmgjieppknkaaGreatDoorKtac
import Derived.Deep.RegionHeld3
import Derived.Laws.ResultCell
import Derived.ChangeKeysEq
import Derived.DeepKeys
import Derived.Maps.AppendAt
import Derived.OwnWalk
namespace Go.Proofs.YthmmgjieppknkaaGreatDoor
open Go.RowKit MLab
def allocs (w : World) (L : List Obj) : World := L.foldl World.alloc w
theorem allocs_below (w : World) (L : List Obj) : Below w.heap.size w (allocs w L) := by
  induction L generalizing w with
  | nil => exact Below.refl _ _
  | cons o t ih => exact ((Below.refl _ _).alloc (Nat.le_refl _) o).trans ((ih (w.alloc o)).mono (by simp))
theorem allocs_at (w : World) (L : List Obj) (i : Nat) {o : Obj} (h : L[i]? = some o) : (allocs w L).heap[w.heap.size + i]? = some o := by
  induction L generalizing w i with
  | nil => simp at h
  | cons p t ih =>
    cases i with
    | zero =>
      have e : p = o := by simpa using h
      rw [← e]
      show (allocs (w.alloc p) t).heap[w.heap.size]? = _
      rw [(allocs_below (w.alloc p) t).block w.heap.size (by simp), heap_alloc_new]
    | succ i =>
      have := ih (w.alloc p) i (by simpa using h)
      rw [show w.heap.size + (i + 1) = (w.alloc p).heap.size + i by simp; omega]
      exact this
theorem bel_next {B : Nat} {w0 w w1 : World} {R : Prop} (h : Below B w0 w ∧ R) (k : Below w.heap.size w w1) (hB : B ≤ w0.heap.size) : Below B w0 w1 :=
  h.1.trans (k.mono (Nat.le_trans hB h.1.size))
theorem bcell {B : Nat} {W w1 : World} (hb : Below B W w1) : ∀ b o, b < B → w1.cell? ⟨b, o, none⟩ = W.cell? ⟨b, o, none⟩ := fun b o h => hb.cell (p := ⟨b, o, none⟩) h
end Go.Proofs.YthmmgjieppknkaaGreatDoor
namespace Go.Proofs.YthmmgjieppknkaaGreatDoor
open Go.RowKit MLab
theorem run_index_plain {P : Program} {t e : TypeId} {n : Nat} {cs : Array Value} {j : Nat} {v : Value} {i : TypeInfo} (h : P.underlying t = some (.array n e)) (hi : P.info? e = some i) (hc : P.cellsOf e = 1) (hp : P.plainKey e = true) (hj : j < n) (hx : cs[j]? = some v) (w : World) :
    (Instr.index t (.agg cs) (.int .i64 (j : Int))).run P w = .ok v w := by
  have hb : (0 : Int) ≤ (j : Int) ∧ (j : Int) < (n : Int) := by omega
  have hs := run_sizeOf w hi
  rw [hc] at hs
  have h2 := run_part_plain w hp hx
  simp [part, go_sem] at h2
  simp [Instr.index, run_underlying h, asIntOf, hb, hj, hs, go_sem]
  exact h2
end Go.Proofs.YthmmgjieppknkaaGreatDoor
namespace Go.Proofs.YthmmgjieppknkaaGreatDoor
open Go.RowKit MLab
end Go.Proofs.YthmmgjieppknkaaGreatDoor

namespace Go.Proofs.YthmmgjieppknkaaGreatDoor
open Go.RowKit MLab
def SlL (w : World) (v : Value) (L : List Value) : Prop :=
  ∃ (A : Option Addr) (c : Nat), v = .slice A L.length c ∧ L.length ≤ c ∧ (0 < L.length → ∃ g o, A = some ⟨g, o, none⟩ ∧ ∀ (p : Nat) (x : Value), L[p]? = some x → w.cell? ⟨g, o + p, none⟩ = some x)
theorem SlL.nil (w : World) : SlL w (.slice none 0 0) [] := ⟨none, 0, rfl, Nat.le_refl _, fun h => absurd h (by simp)⟩
theorem SlL.below {w w' : World} {v : Value} {L : List Value} (h : SlL w v L) (hb : Below w.heap.size w w') : SlL w' v L := by
  obtain ⟨A, c, hv, hcap, hc⟩ := h
  refine ⟨A, c, hv, hcap, fun h0 => ?_⟩
  obtain ⟨g, o, hA, hcell⟩ := hc h0
  exact ⟨g, o, hA, fun p x hp => (bcell hb _ _ (block_lt_of_cell (hcell p x hp))).trans (hcell p x hp)⟩
theorem SlL.kept {w w' : World} {v : Value} {L : List Value} {B : Nat} (h : SlL w v L) (hb : Below B w w') (hB : ∀ g o len c, v = .slice (some ⟨g, o, none⟩) len c → g < B) : SlL w' v L := by
  obtain ⟨A, c, hv, hcap, hc⟩ := h
  refine ⟨A, c, hv, hcap, fun h0 => ?_⟩
  obtain ⟨g, o, hA, hcell⟩ := hc h0
  subst hA
  exact ⟨g, o, rfl, fun p x hp => (bcell hb _ _ (hB g o _ _ hv)).trans (hcell p x hp)⟩
theorem SlL.grown {w w' : World} {v : Value} {L : List Value} {row : Option Nat} (h : SlL w v L) (hb : w.grownBy w' row) (hr : ∀ g o len c, v = .slice (some ⟨g, o, none⟩) len c → some g ≠ row) : SlL w' v L := by
  obtain ⟨A, c, hv, hcap, hc⟩ := h
  refine ⟨A, c, hv, hcap, fun h0 => ?_⟩
  obtain ⟨g, o, hA, hcell⟩ := hc h0
  subst hA
  refine ⟨g, o, rfl, fun p x hp => ?_⟩
  have h1 := hcell p x hp
  have hlt : g < w.heap.size := block_lt_of_cell h1
  refine Eq.trans ?_ h1
  have h2 := hb.block g hlt (hr g o _ _ hv)
  simp only [World.cell?]
  rw [h2]
theorem SlL.shape {w : World} {v : Value} {L : List Value} (h : SlL w v L) : ∃ A c, v = .slice A L.length c := by
  obtain ⟨A, c, hv, _⟩ := h
  exact ⟨A, c, hv⟩
theorem SlL.drop {w : World} {A : Option Addr} {len c k : Nat} {L : List Value} (h : SlL w (.slice A len c) L) (hk : k ≤ len) : SlL w (.slice (A.map fun x => x.add k) (len - k) (c - k)) (L.drop k) := by
  obtain ⟨A2, c2, hv, hcap, hcell⟩ := h
  cases hv
  refine ⟨_, c - k, by rw [List.length_drop], by rw [List.length_drop]; omega, fun h0 => ?_⟩
  rw [List.length_drop] at h0
  obtain ⟨g, o, rfl, hce⟩ := hcell (by omega)
  refine ⟨g, o + k, by simp [Addr.add], fun p x hp => ?_⟩
  rw [List.getElem?_drop] at hp
  rw [Nat.add_assoc]; exact hce _ _ hp
theorem SlL.cell {w : World} {g o len c : Nat} {L : List Value} {p : Nat} {x : Value} (h : SlL w (.slice (some ⟨g, o, none⟩) len c) L) (hp : L[p]? = some x) : w.cell? ⟨g, o + p, none⟩ = some x := by
  obtain ⟨A, c2, hv, _, hc⟩ := h
  obtain ⟨g2, o2, hA, hcell⟩ := hc (by have := (List.getElem?_eq_some_iff.1 hp).1; omega)
  cases hv
  cases hA
  exact hcell p x hp
section
variable {P : Program}
end
def bcl (l : List Bool) : List Value := l.map Value.bool
def zcl (l : List Int) : List Value := l.map (Value.int .i64)
theorem bcl_len (l : List Bool) : (bcl l).length = l.length := by simp [bcl]
theorem zcl_len (l : List Int) : (zcl l).length = l.length := by simp [zcl]
end Go.Proofs.YthmmgjieppknkaaGreatDoor

namespace Go.Proofs.YthmmgjieppknkaaGreatDoor
open Go.RowKit MLab
def IxL (w : World) (v : Value) (l : List Nat) : Prop :=
  ∃ (A : Option Addr) (c : Nat), v = .slice A l.length c ∧ (0 < l.length → ∃ g, A = some ⟨g, 0, none⟩ ∧ ∀ (p : Nat) (x : Nat), l[p]? = some x → w.cell? ⟨g, p, none⟩ = some (.int .i64 (x : Int)))
theorem IxL.nil (w : World) : IxL w (.slice none 0 0) [] := ⟨none, 0, rfl, fun h => absurd h (by simp)⟩
theorem IxL.below {w w' : World} {v : Value} {l : List Nat} (h : IxL w v l) (hb : Below w.heap.size w w') : IxL w' v l := by
  obtain ⟨A, c, hv, hc⟩ := h
  refine ⟨A, c, hv, fun h0 => ?_⟩
  obtain ⟨g, hA, hcell⟩ := hc h0
  exact ⟨g, hA, fun p x hp => (bcell hb _ _ (block_lt_of_cell (hcell p x hp))).trans (hcell p x hp)⟩
theorem IxL.shape {w : World} {v : Value} {l : List Nat} (h : IxL w v l) : ∃ A c, v = .slice A l.length c := by
  obtain ⟨A, c, hv, _⟩ := h
  exact ⟨A, c, hv⟩
end Go.Proofs.YthmmgjieppknkaaGreatDoor

namespace Go.Proofs.YthmmgjieppknkaaGreatDoor
open Go.RowKit MLab
def Pts (w : World) (v : Value) (L : List (Int × Int)) : Prop :=
  ∃ (A : Option Addr) (c : Nat), v = .slice A L.length c ∧ (0 < L.length → ∃ b off, A = some ⟨b, off, none⟩ ∧ ∀ i p, L[i]? = some p → w.cell? ⟨b, off + i * 2, none⟩ = some (.int .i64 p.1) ∧ w.cell? ⟨b, off + i * 2 + 1, none⟩ = some (.int .i64 p.2))
theorem Pts.below {w w' : World} {v : Value} {L : List (Int × Int)} (h : Pts w v L) (hb : Below w.heap.size w w') : Pts w' v L := by
  obtain ⟨A, c, hv, hc⟩ := h
  refine ⟨A, c, hv, fun h0 => ?_⟩
  obtain ⟨b, off, hA, hcell⟩ := hc h0
  refine ⟨b, off, hA, fun i l hi => ?_⟩
  obtain ⟨h0, h1⟩ := hcell i l hi
  exact ⟨(hb.cell (p := ⟨b, off + i * 2, none⟩) (block_lt_of_cell h0)).trans h0, (hb.cell (p := ⟨b, off + i * 2 + 1, none⟩) (block_lt_of_cell h1)).trans h1⟩
theorem Pts.new (w : World) (L : List (Int × Int)) (t : TypeId) (cs : Array Value) (h : ∀ i p, L[i]? = some p → cs[i * 2]? = some (.int .i64 p.1) ∧ cs[i * 2 + 1]? = some (.int .i64 p.2)) (c : Nat) :
    Pts (w.alloc (.cells cs t)) (.slice (some ⟨w.heap.size, 0, none⟩) L.length c) L := by
  refine ⟨_, c, rfl, fun _ => ⟨w.heap.size, 0, rfl, fun i p hi => ?_⟩⟩
  have hb := Blk.new w t cs
  simp only [Nat.zero_add, hb.cell]
  exact h i p hi
def Sps (w : World) (v : Value) (L : List (Int × Int × Int)) : Prop :=
  ∃ (A : Option Addr) (c : Nat), v = .slice A L.length c ∧ (0 < L.length → ∃ b off, A = some ⟨b, off, none⟩ ∧ ∀ i p, L[i]? = some p → w.cell? ⟨b, off + i * 3, none⟩ = some (.int .i64 p.1) ∧ w.cell? ⟨b, off + i * 3 + 1, none⟩ = some (.int .i64 p.2.1) ∧ w.cell? ⟨b, off + i * 3 + 2, none⟩ = some (.int .i64 p.2.2))
theorem Sps.below {w w' : World} {v : Value} {L : List (Int × Int × Int)} (h : Sps w v L) (hb : Below w.heap.size w w') : Sps w' v L := by
  obtain ⟨A, c, hv, hc⟩ := h
  refine ⟨A, c, hv, fun h0 => ?_⟩
  obtain ⟨b, off, hA, hcell⟩ := hc h0
  refine ⟨b, off, hA, fun i l hi => ?_⟩
  obtain ⟨h0, h1, h2⟩ := hcell i l hi
  exact ⟨(hb.cell (p := ⟨b, off + i * 3, none⟩) (block_lt_of_cell h0)).trans h0, (hb.cell (p := ⟨b, off + i * 3 + 1, none⟩) (block_lt_of_cell h1)).trans h1, (hb.cell (p := ⟨b, off + i * 3 + 2, none⟩) (block_lt_of_cell h2)).trans h2⟩
theorem Sps.new (w : World) (L : List (Int × Int × Int)) (t : TypeId) (cs : Array Value) (h : ∀ i p, L[i]? = some p → cs[i * 3]? = some (.int .i64 p.1) ∧ cs[i * 3 + 1]? = some (.int .i64 p.2.1) ∧ cs[i * 3 + 2]? = some (.int .i64 p.2.2)) (c : Nat) :
    Sps (w.alloc (.cells cs t)) (.slice (some ⟨w.heap.size, 0, none⟩) L.length c) L := by
  refine ⟨_, c, rfl, fun _ => ⟨w.heap.size, 0, rfl, fun i p hi => ?_⟩⟩
  have hb := Blk.new w t cs
  simp only [Nat.zero_add, hb.cell]
  exact h i p hi
end Go.Proofs.YthmmgjieppknkaaGreatDoor
