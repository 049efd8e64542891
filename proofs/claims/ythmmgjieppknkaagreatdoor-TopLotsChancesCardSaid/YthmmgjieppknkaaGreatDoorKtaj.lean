/- Contracts and plain laws that the statements of this seat share (part Ktaj). -/
import Derived.Test.YthmmgjieppknkaaGreatDoorKtaa
import Derived.Test.YthmmgjieppknkaaGreatDoorKtab
import Derived.Test.YthmmgjieppknkaaGreatDoorKtac
import Derived.Test.YthmmgjieppknkaaGreatDoorKtad
import Derived.Test.YthmmgjieppknkaaGreatDoorKtae
import Derived.Test.YthmmgjieppknkaaGreatDoorKtag
namespace MLab
open Go Go.RowKit
theorem state_of_Trod {H : Type} {enc : TypeId × Value → H} {P : Program} {w : World} {base : Nat} {spare : Nat → Bool} {held : Bool} {t ti ts e : TypeId} {f0 f1 f2 f3 : Field} {v : Value} {d : DataW H} {ps : List MemPlace} (n : Nat) {ls : List Leaf}
    (hs : P.underlying t = some (.struct #[f0, f1, f2, f3])) (h0 : f0.type = ti ∧ f0.offset = 0) (h1 : f1.type = ti ∧ f1.offset = 1) (h2 : f2.type = ts ∧ f2.offset = 2) (h3 : f3.type = ti ∧ f3.offset = 3) (hc : P.cellsOf t = 4) (hci : P.cellsOf ti = 1) (hcs : P.cellsOf ts = 1) (hi : P.underlying ti = some (.int .i64))
    (ht : P.underlying ts = some (.slice e)) (hl : leaves P n e = some ls) (hp : 0 < ls.length) (hn : P.cellsOf e = ls.length)
    (h : DataW.Trod enc P w base spare held t v d ps) :
    ∃ (m r q : Int) (A : Option Addr) (len cap : Nat), v = .agg #[.int .i64 m, .int .i64 r, .slice A len cap, .int .i64 q] ∧ len ≤ cap ∧ (0 < len → ∃ b off, A = some ⟨b, off, none⟩ ∧ ∀ i, i < len → ∃ cs, Fits ls cs ∧ ∀ j u, cs[j]? = some u → w.cell? ⟨b, off + i * ls.length + j, none⟩ = some u) := by
  obtain ⟨fuel, hf⟩ := h
  obtain ⟨xs, m, _, _, hlen, hxl, hall⟩ := DataW.trod_struct hs hf
  generalize hcs2 : v.cells.toList = cs at hlen hall
  rw [hc] at hlen
  obtain ⟨c0, c1, c2, c3, rfl⟩ : ∃ a b c d, cs = [a, b, c, d] := by
    match cs, hlen with
    | [a, b, c, d], _ => exact ⟨a, b, c, d, rfl⟩
  have hx2 : xs.length = 4 := hxl
  have g0 := hall 0 f0 rfl
  have g1 := hall 1 f1 rfl
  have g2 := hall 2 f2 rfl
  have g3 := hall 3 f3 rfl
  rw [h0.1, h0.2, hci, List.getElem?_eq_getElem (by omega)] at g0
  rw [h1.1, h1.2, hci, List.getElem?_eq_getElem (by omega)] at g1
  rw [h2.1, h2.2, hcs, List.getElem?_eq_getElem (by omega)] at g2
  rw [h3.1, h3.2, hci, List.getElem?_eq_getElem (by omega)] at g3
  obtain ⟨a0, hb0, _⟩ := DataW.trod_int hi g0
  obtain ⟨a1, hb1, _⟩ := DataW.trod_int hi g1
  obtain ⟨a3, hb3, _⟩ := DataW.trod_int hi g3
  obtain rfl : c0 = .int .i64 a0 := by simpa using hb0
  obtain rfl : c1 = .int .i64 a1 := by simpa using hb1
  obtain rfl : c3 = .int .i64 a3 := by simpa using hb3
  have hsl : ∃ A len cap, c2 = .slice A len cap := by
    rcases DataW.trod_slice ht g2 with ⟨k, _⟩ | ⟨a, len, cap, _, _, _, _, k, _⟩
    · exact ⟨_, _, _, by simpa using k⟩
    · exact ⟨_, _, _, by simpa using k⟩
  obtain ⟨A, len, cap, rfl⟩ := hsl
  obtain ⟨A', len', cap', he, hle, _, _, hcell⟩ := slice_of_Trod (v := .slice A len cap) n ht hl hp hn (fun x hx => by cases hx) ⟨m, g2⟩
  cases he
  exact ⟨a0, a1, a3, A, len, cap, agg_of_cells hcs2, hle, hcell⟩
end MLab
namespace Go.Proofs.YthmmgjieppknkaaGreatDoor
open Go.RowKit MLab
theorem bools_of {w : World} {v : Value} {A : Option Addr} {len cap : Nat} (hv : v = .slice A len cap) (hle : len ≤ cap)
    (hc : 0 < len → ∃ b off, A = some ⟨b, off, none⟩ ∧ ∀ i, i < len → ∃ cs, Fits [.bool] cs ∧ ∀ j u, cs[j]? = some u → w.cell? ⟨b, off + i * 1 + j, none⟩ = some u) : ∃ l : List Bool, SlL w v (bcl l) := by
  rcases Nat.eq_zero_or_pos len with h0 | h0
  · subst h0
    exact ⟨[], A, cap, hv, Nat.zero_le _, fun h => absurd h (by simp [bcl])⟩
  · obtain ⟨b, off, rfl, hcell⟩ := hc h0
    obtain ⟨L, hL, hQ⟩ := list_of (Q := fun i (p : Bool) => w.cell? ⟨b, off + i, none⟩ = some (.bool p)) len (fun i hi => by
      obtain ⟨cs, hf, hget⟩ := hcell i hi
      obtain ⟨_, _, rfl, ⟨x, rfl⟩, f1⟩ := hf.inv
      exact ⟨x, by have := hget 0 _ rfl; simpa using this⟩)
    refine ⟨L, _, cap, by rw [bcl_len, hL]; exact hv, by rw [bcl_len, hL]; exact hle, fun _ => ⟨b, off, rfl, fun p x hp => ?_⟩⟩
    unfold bcl at hp
    rw [List.getElem?_map] at hp
    obtain ⟨y, hy, rfl⟩ := Option.map_eq_some_iff.1 hp
    exact hQ p y hy
theorem ints_of {w : World} {v : Value} {A : Option Addr} {len cap : Nat} (hv : v = .slice A len cap) (hle : len ≤ cap)
    (hc : 0 < len → ∃ b off, A = some ⟨b, off, none⟩ ∧ ∀ i, i < len → ∃ cs, Fits [.int .i64] cs ∧ ∀ j u, cs[j]? = some u → w.cell? ⟨b, off + i * 1 + j, none⟩ = some u) : ∃ l : List Int, SlL w v (zcl l) := by
  rcases Nat.eq_zero_or_pos len with h0 | h0
  · subst h0
    exact ⟨[], A, cap, hv, Nat.zero_le _, fun h => absurd h (by simp [zcl])⟩
  · obtain ⟨b, off, rfl, hcell⟩ := hc h0
    obtain ⟨L, hL, hQ⟩ := list_of (Q := fun i (p : Int) => w.cell? ⟨b, off + i, none⟩ = some (.int .i64 p)) len (fun i hi => by
      obtain ⟨cs, hf, hget⟩ := hcell i hi
      obtain ⟨_, _, rfl, ⟨x, rfl, _⟩, f1⟩ := hf.inv
      exact ⟨x, by have := hget 0 _ rfl; simpa using this⟩)
    refine ⟨L, _, cap, by rw [zcl_len, hL]; exact hv, by rw [zcl_len, hL]; exact hle, fun _ => ⟨b, off, rfl, fun p x hp => ?_⟩⟩
    unfold zcl at hp
    rw [List.getElem?_map] at hp
    obtain ⟨y, hy, rfl⟩ := Option.map_eq_some_iff.1 hp
    exact hQ p y hy
def mkS (a b c d e f : Int) : Nat → Int × Int := fun j => if j = 0 then (a, b) else if j = 1 then (c, d) else (e, f)
theorem schV_mk (a b c d e f : Int) : schV (mkS a b c d e f) = .agg #[.int .i64 a, .int .i64 b, .int .i64 c, .int .i64 d, .int .i64 e, .int .i64 f] := rfl
end Go.Proofs.YthmmgjieppknkaaGreatDoor
