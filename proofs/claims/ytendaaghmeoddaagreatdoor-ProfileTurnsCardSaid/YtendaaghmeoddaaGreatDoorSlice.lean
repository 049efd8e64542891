/- A slice of points that came in: the list that it reads as. -/
import Derived.Test.YtendaaghmeoddaaGreatDoorFlat
import Derived.Test.YtendaaghmeoddaaGreatDoorAll
namespace Go.Proofs.YtendaaghmeoddaaGreatDoor
open Go.RowKit MLab

theorem list_of {α : Type} {Q : Nat → α → Prop} : ∀ n, (∀ i, i < n → ∃ p, Q i p) → ∃ L : List α, L.length = n ∧ ∀ i p, L[i]? = some p → Q i p
  | 0, _ => ⟨[], rfl, fun i p h => by simp at h⟩
  | n + 1, h => by
    obtain ⟨L, hL, hQ⟩ := list_of n (fun i hi => h i (by omega))
    obtain ⟨p, hp⟩ := h n (by omega)
    refine ⟨L ++ [p], by simp [hL], fun i q hq => ?_⟩
    by_cases hi : i < L.length
    · rw [List.getElem?_append_left hi] at hq
      exact hQ i q hq
    · rw [List.getElem?_append_right (by omega)] at hq
      have hi2 : i - L.length = 0 := by
        have h3 := (List.getElem?_eq_some_iff.1 hq).1
        simp only [List.length_singleton] at h3
        omega
      rw [hi2] at hq
      obtain rfl : p = q := Option.some.inj hq
      have : i = n := by omega
      rw [this]; exact hp

theorem sps_of {w : World} {v : Value} {A : Option Addr} {len cap : Nat} (hv : v = .slice A len cap)
    (hc : 0 < len → ∃ b off, A = some ⟨b, off, none⟩ ∧ ∀ i, i < len → ∃ cs, Fits [.int .i64, .int .i64, .int .i64] cs ∧ ∀ j u, cs[j]? = some u → w.cell? ⟨b, off + i * 3 + j, none⟩ = some u) :
    ∃ L : List (Int × Int × Int), Sps w v L := by
  rcases Nat.eq_zero_or_pos len with h0 | h0
  · subst h0
    exact ⟨[], A, cap, hv, fun h => absurd h (by simp)⟩
  · obtain ⟨b, off, rfl, hcell⟩ := hc h0
    obtain ⟨L, hL, hQ⟩ := list_of (Q := fun i (p : Int × Int × Int) => w.cell? ⟨b, off + i * 3, none⟩ = some (.int .i64 p.1) ∧ w.cell? ⟨b, off + i * 3 + 1, none⟩ = some (.int .i64 p.2.1) ∧ w.cell? ⟨b, off + i * 3 + 2, none⟩ = some (.int .i64 p.2.2)) len (fun i hi => by
      obtain ⟨cs, hf, hget⟩ := hcell i hi
      obtain ⟨_, _, rfl, ⟨x, rfl, _⟩, f1⟩ := hf.inv
      obtain ⟨_, _, rfl, ⟨y, rfl, _⟩, f2⟩ := f1.inv
      obtain ⟨_, _, rfl, ⟨z, rfl, _⟩, f3⟩ := f2.inv
      exact ⟨(x, y, z), hget 0 _ rfl, hget 1 _ rfl, hget 2 _ rfl⟩)
    exact ⟨L, _, cap, by rw [hL]; exact hv, fun _ => ⟨b, off, rfl, hQ⟩⟩

theorem pts_of {w : World} {v : Value} {A : Option Addr} {len cap : Nat} (hv : v = .slice A len cap)
    (hc : 0 < len → ∃ b off, A = some ⟨b, off, none⟩ ∧ ∀ i, i < len → ∃ cs, Fits [.int .i64, .int .i64] cs ∧ ∀ j u, cs[j]? = some u → w.cell? ⟨b, off + i * 2 + j, none⟩ = some u) :
    ∃ L : List (Int × Int), Pts w v L := by
  rcases Nat.eq_zero_or_pos len with h0 | h0
  · subst h0
    exact ⟨[], A, cap, hv, fun h => absurd h (by simp)⟩
  · obtain ⟨b, off, rfl, hcell⟩ := hc h0
    obtain ⟨L, hL, hQ⟩ := list_of (Q := fun i (p : Int × Int) => w.cell? ⟨b, off + i * 2, none⟩ = some (.int .i64 p.1) ∧ w.cell? ⟨b, off + i * 2 + 1, none⟩ = some (.int .i64 p.2)) len (fun i hi => by
      obtain ⟨cs, hf, hget⟩ := hcell i hi
      obtain ⟨_, _, rfl, ⟨x, rfl, _⟩, f1⟩ := hf.inv
      obtain ⟨_, _, rfl, ⟨y, rfl, _⟩, f2⟩ := f1.inv
      exact ⟨(x, y), hget 0 _ rfl, hget 1 _ rfl⟩)
    exact ⟨L, _, cap, by rw [hL]; exact hv, fun _ => ⟨b, off, rfl, hQ⟩⟩
end Go.Proofs.YtendaaghmeoddaaGreatDoor
