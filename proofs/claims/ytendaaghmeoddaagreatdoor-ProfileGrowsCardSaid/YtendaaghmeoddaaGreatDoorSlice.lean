/- A slice of points that came in: the list that it reads as. A struct of a slice of flat elements and a bool that came in. -/
import Derived.Test.YtendaaghmeoddaaGreatDoorAll
import Derived.Test.YtendaaghmeoddaaGreatDoorFlat
namespace Go.Proofs.YtendaaghmeoddaaGreatDoor
open Go.RowKit MLab

theorem list_of {α : Type} {Q : Nat → α → Prop} : ∀ n, (∀ i, i < n → ∃ p, Q i p) → ∃ L : List α, L.length = n ∧ ∀ i p, L[i]? = some p → Q i p
  | 0, _ => ⟨[], rfl, fun i p h => by simp at h⟩
  | n + 1, h => by
    obtain ⟨L, hL, hQ⟩ := list_of n (fun i hi => h i (by omega))
    obtain ⟨p, hp⟩ := h n (by omega)
    refine ⟨L ++ [p], by simp [hL], fun i q hq => ?_⟩
    by_cases hi : i < L.length
    · rw [List.getElem?_append_left hi] at hq
      exact hQ i q hq
    · rw [List.getElem?_append_right (by omega)] at hq
      have hi2 : i - L.length = 0 := by
        have h3 := (List.getElem?_eq_some_iff.1 hq).1
        simp only [List.length_singleton] at h3
        omega
      rw [hi2] at hq
      obtain rfl : p = q := Option.some.inj hq
      have : i = n := by omega
      rw [this]; exact hp

theorem sps_of {w : World} {v : Value} {A : Option Addr} {len cap : Nat} (hv : v = .slice A len cap)
    (hc : 0 < len → ∃ b off, A = some ⟨b, off, none⟩ ∧ ∀ i, i < len → ∃ cs, Fits [.int .i64, .int .i64, .int .i64] cs ∧ ∀ j u, cs[j]? = some u → w.cell? ⟨b, off + i * 3 + j, none⟩ = some u) :
    ∃ L : List (Int × Int × Int), Sps w v L := by
  rcases Nat.eq_zero_or_pos len with h0 | h0
  · subst h0
    exact ⟨[], A, cap, hv, fun h => absurd h (by simp)⟩
  · obtain ⟨b, off, rfl, hcell⟩ := hc h0
    obtain ⟨L, hL, hQ⟩ := list_of (Q := fun i (p : Int × Int × Int) => w.cell? ⟨b, off + i * 3, none⟩ = some (.int .i64 p.1) ∧ w.cell? ⟨b, off + i * 3 + 1, none⟩ = some (.int .i64 p.2.1) ∧ w.cell? ⟨b, off + i * 3 + 2, none⟩ = some (.int .i64 p.2.2)) len (fun i hi => by
      obtain ⟨cs, hf, hget⟩ := hcell i hi
      obtain ⟨_, _, rfl, ⟨x, rfl, _⟩, f1⟩ := hf.inv
      obtain ⟨_, _, rfl, ⟨y, rfl, _⟩, f2⟩ := f1.inv
      obtain ⟨_, _, rfl, ⟨z, rfl, _⟩, f3⟩ := f2.inv
      exact ⟨(x, y, z), hget 0 _ rfl, hget 1 _ rfl, hget 2 _ rfl⟩)
    exact ⟨L, _, cap, by rw [hL]; exact hv, fun _ => ⟨b, off, rfl, hQ⟩⟩

theorem pts_of {w : World} {v : Value} {A : Option Addr} {len cap : Nat} (hv : v = .slice A len cap)
    (hc : 0 < len → ∃ b off, A = some ⟨b, off, none⟩ ∧ ∀ i, i < len → ∃ cs, Fits [.int .i64, .int .i64] cs ∧ ∀ j u, cs[j]? = some u → w.cell? ⟨b, off + i * 2 + j, none⟩ = some u) :
    ∃ L : List (Int × Int), Pts w v L := by
  rcases Nat.eq_zero_or_pos len with h0 | h0
  · subst h0
    exact ⟨[], A, cap, hv, fun h => absurd h (by simp)⟩
  · obtain ⟨b, off, rfl, hcell⟩ := hc h0
    obtain ⟨L, hL, hQ⟩ := list_of (Q := fun i (p : Int × Int) => w.cell? ⟨b, off + i * 2, none⟩ = some (.int .i64 p.1) ∧ w.cell? ⟨b, off + i * 2 + 1, none⟩ = some (.int .i64 p.2)) len (fun i hi => by
      obtain ⟨cs, hf, hget⟩ := hcell i hi
      obtain ⟨_, _, rfl, ⟨x, rfl, _⟩, f1⟩ := hf.inv
      obtain ⟨_, _, rfl, ⟨y, rfl, _⟩, f2⟩ := f1.inv
      exact ⟨(x, y), hget 0 _ rfl, hget 1 _ rfl⟩)
    exact ⟨L, _, cap, by rw [hL]; exact hv, fun _ => ⟨b, off, rfl, hQ⟩⟩
end Go.Proofs.YtendaaghmeoddaaGreatDoor

namespace MLab
open Go Go.RowKit

theorem line_of_Trod {H : Type} {enc : TypeId × Value → H} {P : Program} {w : World} {base : Nat} {spare : Nat → Bool} {held : Bool} {t ts tb e : TypeId} {f0 f1 : Field} {v : Value} {d : DataW H} {ps : List MemPlace} (n : Nat) {ls : List Leaf}
    (hs : P.underlying t = some (.struct #[f0, f1])) (h0 : f0.type = ts ∧ f0.offset = 0) (h1 : f1.type = tb ∧ f1.offset = 1) (hc : P.cellsOf t = 2) (hc0 : P.cellsOf ts = 1) (hc1 : P.cellsOf tb = 1) (hb : P.underlying tb = some .bool)
    (ht : P.underlying ts = some (.slice e)) (hl : leaves P n e = some ls) (hp : 0 < ls.length) (hn : P.cellsOf e = ls.length)
    (h : DataW.Trod enc P w base spare held t v d ps) :
    ∃ (A : Option Addr) (len cap : Nat) (b : Bool), v = .agg #[.slice A len cap, .bool b] ∧ (0 < len → ∃ b off, A = some ⟨b, off, none⟩ ∧ ∀ i, i < len → ∃ cs, Fits ls cs ∧ ∀ j u, cs[j]? = some u → w.cell? ⟨b, off + i * ls.length + j, none⟩ = some u) := by
  obtain ⟨fuel, hf⟩ := h
  obtain ⟨xs, m, _, _, hlen, hxl, hall⟩ := DataW.trod_struct hs hf
  generalize hcs : v.cells.toList = cs at hlen hall
  rw [hc] at hlen
  obtain ⟨c0, c1, rfl⟩ : ∃ a b, cs = [a, b] := by
    match cs, hlen with
    | [a, b], _ => exact ⟨a, b, rfl⟩
  have hx2 : xs.length = 2 := hxl
  have g0 := hall 0 f0 rfl
  have g1 := hall 1 f1 rfl
  rw [h0.1, h0.2, hc0, List.getElem?_eq_getElem (by omega)] at g0
  rw [h1.1, h1.2, hc1, List.getElem?_eq_getElem (by omega)] at g1
  obtain ⟨b, hbv, _⟩ := DataW.trod_bool hb g1
  obtain rfl : c1 = .bool b := by simpa using hbv
  have hsl : ∃ A len cap, c0 = .slice A len cap := by
    rcases DataW.trod_slice ht g0 with ⟨k, _⟩ | ⟨a, len, cap, _, _, _, _, k, _⟩
    · exact ⟨_, _, _, by simpa using k⟩
    · exact ⟨_, _, _, by simpa using k⟩
  obtain ⟨A, len, cap, rfl⟩ := hsl
  obtain ⟨A', len', cap', he, _, _, _, hcell⟩ := slice_of_Trod (v := .slice A len cap) n ht hl hp hn (fun x hx => by cases hx) ⟨m, g0⟩
  cases he
  exact ⟨A, len, cap, b, agg_of_cells hcs, hcell⟩
end MLab
