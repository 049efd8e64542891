/- Contracts and plain laws that the statements of this seat share (part Ktae). -/
import Derived.Test.YthmmgjieppknkaaGreatDoorKtaa
import Derived.Test.YthmmgjieppknkaaGreatDoorKtac
import Derived.Test.YthmmgjieppknkaaGreatDoorKtad
import Derived.OpenShut
import Derived.WideShapes
namespace MLab
open Go Go.RowKit
inductive Leaf where
  | int (k : IntKind)
  | bool
  | string
def Leaf.ok : Leaf → Value → Prop
  | .int k, v => ∃ n, v = .int k n ∧ (Lit.int k n).wf = true
  | .bool, v => ∃ b, v = .bool b
  | .string, v => ∃ s : ByteArray, v = .string s ∧ s.size ≤ maxLen
def leavesL (g : TypeId → Option (List Leaf)) (P : Program) : List (TypeId × Nat) → Nat → Option (List Leaf)
  | [], _ => some []
  | (t, o) :: r, k => if o = k then (g t).bind fun ls => if ls.length = P.cellsOf t then (leavesL g P r (k + ls.length)).map fun l => ls ++ l else none else none
def leaves (P : Program) : Nat → TypeId → Option (List Leaf)
  | 0, _ => none
  | n + 1, t =>
    match P.underlying t with
    | some (.int k) => some [.int k]
    | some .bool => some [.bool]
    | some .string => some [.string]
    | some (.struct fs) => (leavesL (leaves P n) P (fs.toList.map fun f => (f.type, f.offset)) 0).bind fun l => if l.length = P.cellsOf t then some l else none
    | some (.array m e) => (leavesL (leaves P n) P ((List.range m).map fun i => (e, i * P.cellsOf e)) 0).bind fun l => if l.length = P.cellsOf t then some l else none
    | _ => none
inductive Fits : List Leaf → List Value → Prop where
  | nil : Fits [] []
  | cons {l : Leaf} {ls : List Leaf} {v : Value} {vs : List Value} : l.ok v → Fits ls vs → Fits (l :: ls) (v :: vs)
theorem Fits.append {a b : List Leaf} {x y : List Value} (h : Fits a x) (k : Fits b y) : Fits (a ++ b) (x ++ y) := by
  induction h with
  | nil => exact k
  | cons h _ ih => exact .cons h ih
theorem Fits.length {a : List Leaf} {x : List Value} (h : Fits a x) : x.length = a.length := by
  induction h with
  | nil => rfl
  | cons _ _ ih => simp [ih]
theorem Fits.inv {l : Leaf} {ls : List Leaf} {vs : List Value} (h : Fits (l :: ls) vs) : ∃ v r, vs = v :: r ∧ l.ok v ∧ Fits ls r := by
  cases h with
  | cons h1 h2 => exact ⟨_, _, rfl, h1, h2⟩
theorem Fits.done {vs : List Value} (h : Fits [] vs) : vs = [] := by cases h; rfl
theorem fits_list {g : TypeId → Option (List Leaf)} {P : Program} {cs : List Value} : ∀ (r : List (TypeId × Nat)) (k : Nat) (l : List Leaf), leavesL g P r k = some l → k + l.length ≤ cs.length →
    (∀ t o ls, (t, o) ∈ r → g t = some ls → ls.length = P.cellsOf t → o + ls.length ≤ cs.length → Fits ls ((cs.drop o).take (P.cellsOf t))) → Fits l ((cs.drop k).take l.length)
  | [], k, l, h, _, _ => by
    have : l = [] := by simpa [leavesL] using h.symm
    subst this; exact .nil
  | (t, o) :: r, k, l, h, hl, hall => by
    rw [leavesL] at h
    split at h
    · rename_i ho
      subst ho
      obtain ⟨ls, hg, h⟩ := Option.bind_eq_some_iff.1 h
      split at h
      · rename_i hc
        obtain ⟨l2, h2, rfl⟩ := Option.map_eq_some_iff.1 h
        rw [List.length_append] at hl
        have f1 := hall t o ls (List.mem_cons_self ..) hg hc (by omega)
        have f2 := fits_list r (o + ls.length) l2 h2 (by omega) (fun t' o' ls' hm => hall t' o' ls' (List.mem_cons_of_mem _ hm))
        rw [← hc] at f1
        have := f1.append f2
        rw [List.length_append, List.take_add, List.drop_drop]
        exact this
      · cases h
    · cases h
theorem fits_of_trod {H : Type} {enc : TypeId × Value → H} {P : Program} {w : World} {base : Nat} {spare : Nat → Bool} {held : Bool} : ∀ (n : Nat) (t : TypeId) (ls : List Leaf) (fuel : Nat) (cs : List Value) (x : DataW H × List MemPlace),
    leaves P n t = some ls → DataW.trod enc P w base spare held fuel t cs = some x → Fits ls cs
  | 0, _, _, _, _, _, h, _ => by simp [leaves] at h
  | n + 1, t, ls, fuel, cs, x, h, hd => by
    rw [leaves] at h
    split at h
    · rename_i k hu
      obtain rfl := Option.some.inj h
      obtain ⟨m, rfl, _, hw⟩ := DataW.trod_int hu hd
      exact .cons ⟨m, rfl, hw⟩ .nil
    · rename_i hu
      obtain rfl := Option.some.inj h
      obtain ⟨b, rfl, _⟩ := DataW.trod_bool hu hd
      exact .cons ⟨b, rfl⟩ .nil
    · rename_i hu
      obtain rfl := Option.some.inj h
      obtain ⟨s, rfl, _, hs⟩ := DataW.trod_string hu hd
      exact .cons ⟨s, rfl, hs⟩ .nil
    · rename_i fs hu
      obtain ⟨l, hl, h⟩ := Option.bind_eq_some_iff.1 h
      split at h
      · rename_i hc
        obtain rfl := Option.some.inj h
        obtain ⟨xs, m, _, _, hlen, hxl, hall⟩ := DataW.trod_struct hu hd
        have := fits_list (cs := cs) _ 0 l hl (by omega) (fun t' o ls' hm hg hcl _ => by
          obtain ⟨f, hf, he⟩ := List.mem_map.1 hm
          obtain ⟨i, hi, hfi⟩ := List.mem_iff_getElem.1 hf
          have hia : i < fs.size := by simpa using hi
          have h1 := hall i f (by rw [Array.getElem?_eq_getElem hia]; simpa using hfi)
          injection he with e1 e2
          subst e1 e2
          rw [List.getElem?_eq_getElem (by rw [hxl]; exact hia)] at h1
          exact fits_of_trod n f.type ls' m _ _ hg h1)
        rw [List.drop_zero, List.take_of_length_le (by omega)] at this
        exact this
      · cases h
    · rename_i m e hu
      obtain ⟨l, hl, h⟩ := Option.bind_eq_some_iff.1 h
      split at h
      · rename_i hc
        obtain rfl := Option.some.inj h
        obtain ⟨xs, q, _, _, hlen, hxl, hall⟩ := DataW.trod_array hu hd
        have := fits_list (cs := cs) _ 0 l hl (by omega) (fun t' o ls' hm hg hcl _ => by
          obtain ⟨i, hi, he⟩ := List.mem_map.1 hm
          have him := List.mem_range.1 hi
          have h1 := hall i him
          injection he with e1 e2
          subst e1 e2
          rw [List.getElem?_eq_getElem (by rw [hxl]; exact him)] at h1
          exact fits_of_trod n e ls' q _ _ hg h1)
        rw [List.drop_zero, List.take_of_length_le (by omega)] at this
        exact this
      · cases h
    · cases h
theorem fits_of_Trod {H : Type} {enc : TypeId × Value → H} {P : Program} {w : World} {base : Nat} {spare : Nat → Bool} {held : Bool} {t : TypeId} {v : Value} {d : DataW H} {ps : List MemPlace} (n : Nat) {ls : List Leaf} (hl : leaves P n t = some ls) (h : DataW.Trod enc P w base spare held t v d ps) : Fits ls v.cells.toList := by
  obtain ⟨fuel, hf⟩ := h
  exact fits_of_trod n t ls fuel _ _ hl hf
theorem agg_of_cells {v a b : Value} {r : List Value} (h : v.cells.toList = a :: b :: r) : v = .agg (a :: b :: r).toArray := by
  cases v with
  | agg cs =>
    have : cs.toList = a :: b :: r := h
    rw [← this]
  | _ => simp [Value.cells] at h
theorem one_of_cells {v a : Value} (h : v.cells.toList = [a]) (ha : ∀ x, v ≠ .agg x) : v = a := by
  cases v with
  | agg cs => exact absurd rfl (ha cs)
  | _ => simpa [Value.cells] using h
theorem slice_of_Trod {H : Type} {enc : TypeId × Value → H} {P : Program} {w : World} {base : Nat} {spare : Nat → Bool} {held : Bool} {t e : TypeId} {v : Value} {d : DataW H} {ps : List MemPlace} (n : Nat) {ls : List Leaf} (ht : P.underlying t = some (.slice e)) (hl : leaves P n e = some ls) (hp : 0 < ls.length) (hn : P.cellsOf e = ls.length)
    (hv : ∀ x, v ≠ .agg x) (h : DataW.Trod enc P w base spare held t v d ps) :
    ∃ (A : Option Addr) (len cap : Nat), v = .slice A len cap ∧ len ≤ cap ∧ cap ≤ maxLen ∧ (A = none → len = 0 ∧ cap = 0) ∧ (0 < len → ∃ b off, A = some ⟨b, off, none⟩ ∧ ∀ i, i < len → ∃ cs, Fits ls cs ∧ ∀ j u, cs[j]? = some u → w.cell? ⟨b, off + i * ls.length + j, none⟩ = some u) := by
  obtain ⟨fuel, hf⟩ := h
  rcases DataW.trod_slice ht hf with ⟨hc, _⟩ | ⟨a, len, cap, elems, rest, m, _, hc, _, hb, h1, h2, hel, hall, _, _⟩
  · have := one_of_cells hc hv
    exact ⟨none, 0, 0, this, Nat.le_refl _, by unfold maxLen; omega, fun _ => ⟨rfl, rfl⟩, fun h => absurd h (by omega)⟩
  · have hva := one_of_cells hc hv
    refine ⟨some a, len, cap, hva, h1, h2, (fun h => by cases h), fun hlen => ?_⟩
    have hcell : ∀ i, i < len → ∃ cs, Fits ls cs ∧ ∀ j u, cs[j]? = some u → w.cell? ((a.add (i * P.cellsOf e)).add j) = some u := by
      intro i hi
      have h3 := hall i hi
      rw [List.getElem?_eq_getElem (by omega)] at h3
      obtain ⟨cs, h4, h5⟩ := Option.bind_eq_some_iff.1 h3
      have hfit := fits_of_trod n e ls m cs _ hl h5
      refine ⟨cs, hfit, fun j u hj => ?_⟩
      unfold World.cells? at h4
      split at h4
      · have hjl : j < cs.length := by
          rcases Nat.lt_or_ge j cs.length with h | h
          · exact h
          · rw [List.getElem?_eq_none h] at hj; cases hj
        have hjn : j < P.cellsOf e := by
          have := mapM_some_length h4
          simp only [List.length_range] at this
          omega
        have h6 := mapM_some_get h4 j j (by simp [hjn])
        rw [h6, hj]
      · cases h4
    obtain ⟨b, off, spot⟩ := a
    have hspot : spot = none := by
      obtain ⟨cs, hfit, h6⟩ := hcell 0 hlen
      have h7 := hfit.length
      have h8 := h6 0 cs[0] (List.getElem?_eq_getElem (by omega))
      simpa [Addr.add] using World.cell?_spot h8
    subst hspot
    refine ⟨b, off, rfl, fun i hi => ?_⟩
    obtain ⟨cs, hfit, h6⟩ := hcell i hi
    refine ⟨cs, hfit, fun j u hj => ?_⟩
    have h7 := h6 j u hj
    rw [Go.WideShapes.add_plain, Go.WideShapes.add_plain, hn] at h7
    exact h7
end MLab

namespace Go.Proofs.YthmmgjieppknkaaGreatDoor
open Go.RowKit MLab
theorem list_of {α : Type} {Q : Nat → α → Prop} : ∀ n, (∀ i, i < n → ∃ p, Q i p) → ∃ L : List α, L.length = n ∧ ∀ i p, L[i]? = some p → Q i p
  | 0, _ => ⟨[], rfl, fun i p h => by simp at h⟩
  | n + 1, h => by
    obtain ⟨L, hL, hQ⟩ := list_of n (fun i hi => h i (by omega))
    obtain ⟨p, hp⟩ := h n (by omega)
    refine ⟨L ++ [p], by simp [hL], fun i q hq => ?_⟩
    by_cases hi : i < L.length
    · rw [List.getElem?_append_left hi] at hq
      exact hQ i q hq
    · rw [List.getElem?_append_right (by omega)] at hq
      have hi2 : i - L.length = 0 := by
        have h3 := (List.getElem?_eq_some_iff.1 hq).1
        simp only [List.length_singleton] at h3
        omega
      rw [hi2] at hq
      obtain rfl : p = q := Option.some.inj hq
      have : i = n := by omega
      rw [this]; exact hp
end Go.Proofs.YthmmgjieppknkaaGreatDoor
namespace MLab
open Go Go.RowKit
end MLab
