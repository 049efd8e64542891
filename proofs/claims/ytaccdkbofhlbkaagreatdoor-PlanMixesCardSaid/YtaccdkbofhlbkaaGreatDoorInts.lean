/- Slices of numbers: what they read as; metrolabref07.SameInts. -/
import Derived.Test.YtaccdkbofhlbkaaGreatDoorPts
namespace Go.Proofs.YtaccdkbofhlbkaaGreatDoor
open Go.RowKit MLab

theorem info_int : (Tryz.prog.info? 3).map (fun i => (i.zero, i.size, i.bytes)) = some (some (.int .i64 0), 1, 8) := by kernel_rfl
def icl (l : List Nat) : List Value := l.map fun (x : Nat) => .int .i64 (x : Int)
/-- v is a slice that reads as l. -/
def IxL (w : World) (v : Value) (l : List Nat) : Prop :=
  ∃ (A : Option Addr) (c : Nat), v = .slice A l.length c ∧ (0 < l.length → ∃ g, A = some ⟨g, 0, none⟩ ∧ ∀ (p : Nat) (x : Nat), l[p]? = some x → w.cell? ⟨g, p, none⟩ = some (.int .i64 (x : Int)))
theorem IxL.nil (w : World) : IxL w (.slice none 0 0) [] := ⟨none, 0, rfl, fun h => absurd h (by simp)⟩
theorem IxL.below {w w' : World} {v : Value} {l : List Nat} (h : IxL w v l) (hb : Below w.heap.size w w') : IxL w' v l := by
  obtain ⟨A, c, hv, hc⟩ := h
  refine ⟨A, c, hv, fun h0 => ?_⟩
  obtain ⟨g, hA, hcell⟩ := hc h0
  exact ⟨g, hA, fun p x hp => (bcell hb _ _ (block_lt_of_cell (hcell p x hp))).trans (hcell p x hp)⟩
theorem IxL.shape {w : World} {v : Value} {l : List Nat} (h : IxL w v l) : ∃ A c, v = .slice A l.length c := by
  obtain ⟨A, c, hv, _⟩ := h
  exact ⟨A, c, hv⟩
theorem IxL.of_row {w : World} {base n : Nat} {v : Value} {l : List Nat} (h : w.ownsRow base 3 1 v n (icl l)) (hn : n = l.length) : IxL w v l := by
  subst hn
  rcases h.2 with ⟨rfl, h0⟩ | ⟨g, cap, cur, rfl, hb, hgg, hn, hcap, hsz, htake⟩
  · exact ⟨none, 0, by rw [h0], fun h => absurd h (by omega)⟩
  · refine ⟨some ⟨g, 0, none⟩, cap, rfl, fun h0 => ⟨g, rfl, fun p x hp => ?_⟩⟩
    have hpl : p < l.length := (List.getElem?_eq_some_iff.1 hp).1
    have h1 : (icl l)[p]? = some (.int .i64 (x : Int)) := by simp [icl, hp]
    rw [← htake, List.getElem?_take, if_pos (by omega)] at h1
    have h2 : cur[p]? = some (.int .i64 (x : Int)) := by simpa using h1
    refine (Blk.cell (t := 3) (cs := cur) hgg p).trans ?_
    exact h2
theorem icl_snoc (l : List Nat) (x : Nat) : icl l ++ [.int .i64 (x : Int)] = icl (l ++ [x]) := by simp [icl]
/-- The indices that a test takes. -/
def fl (f : Nat → Bool) (n : Nat) : List Nat := (List.range n).filter f
theorem fl_succ (f : Nat → Bool) (n : Nat) : fl f (n + 1) = if f n = true then fl f n ++ [n] else fl f n := by
  unfold fl
  rw [List.range_succ, List.filter_append]
  by_cases h : f n = true
  · rw [if_pos h]; simp [h]
  · rw [if_neg h]; simp [h]
theorem fl_length (f : Nat → Bool) (n : Nat) : (fl f n).length ≤ n := by
  have := List.length_filter_le f (List.range n)
  simpa [fl] using this
theorem fl_mem {f : Nat → Bool} {n x : Nat} : x ∈ fl f n ↔ x < n ∧ f x = true := by simp [fl]
theorem fl_congr {f g : Nat → Bool} {n : Nat} (h : ∀ i, i < n → f i = g i) : fl f n = fl g n := by
  unfold fl
  exact List.filter_congr (fun x hx => h x (by simpa using hx))

end Go.Proofs.YtaccdkbofhlbkaaGreatDoor
