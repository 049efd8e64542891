/- Contracts and plain laws that the statements of this seat share (part Ktat). -/
import Derived.Test.YthmmgjieppknkaaGreatDoorKtaa
import Derived.Test.YthmmgjieppknkaaGreatDoorKtab
import Derived.Test.YthmmgjieppknkaaGreatDoorKtac
import Derived.Test.YthmmgjieppknkaaGreatDoorKtad
import Derived.Test.YthmmgjieppknkaaGreatDoorKtaf
import Derived.Test.YthmmgjieppknkaaGreatDoorKtag
import Derived.Test.YthmmgjieppknkaaGreatDoorKtah
import Derived.Test.YthmmgjieppknkaaGreatDoorKtai
import Derived.Test.YthmmgjieppknkaaGreatDoorKtal
namespace Go.Proofs.YthmmgjieppknkaaGreatDoor
open Go.RowKit MLab
def ApartV (sl rv : Value) : Prop := ∀ g o n c, sl = .slice (some ⟨g, o, none⟩) (n + 1) c → rv.ownBlock ≠ some g
theorem ApartV.nil (rv : Value) : ApartV (.slice none 0 0) rv := fun g o n c h => by simp at h
theorem SlL.lt {w : World} {g o n c : Nat} {L : List Value} (h : SlL w (.slice (some ⟨g, o, none⟩) (n + 1) c) L) : g < w.heap.size := by
  obtain ⟨A, c2, hv, _, hc⟩ := h
  simp only [Value.slice.injEq] at hv
  obtain ⟨hv1, hl, -⟩ := hv
  obtain ⟨g2, o2, hA, hcell⟩ := hc (by omega)
  have hg : g = g2 := by rw [hA] at hv1; simpa using congrArg (Option.map Addr.block) hv1
  subst hg
  obtain ⟨x, hx⟩ : ∃ x, L[0]? = some x := ⟨_, List.getElem?_eq_getElem (by omega)⟩
  exact block_lt_of_cell (hcell 0 x hx)
section
variable {P : Program}
end
def RunP (w : World) (g : Cr ⊕ (Nat × Int)) (e : Ending) (w' : World) : Prop :=
  match g with
  | .inl c => ∃ u rs, e = .returned (.tuple #[u, rs, .int .i64 (c.eff : Int), .int .i64 0, .int .i64 0]) ∧ StV w' u c.st ∧ SlL w' rs (bcl c.res) ∧ Below w.heap.size w w'
  | .inr (i, z) => e = .returned (.tuple #[.agg #[.int .i64 0, .int .i64 0, .slice none 0 0, .int .i64 0], .slice none 0 0, .int .i64 0, .int .i64 (i : Int), .int .i64 z]) ∧ Below w.heap.size w w'
theorem RunP.err {w w' : World} {g : Cr ⊕ (Nat × Int)} {i : Nat} {z : Int} {e : Ending} (hg : g = .inr (i, z)) (h : e = .returned (.tuple #[.agg #[.int .i64 0, .int .i64 0, .slice none 0 0, .int .i64 0], .slice none 0 0, .int .i64 0, .int .i64 (i : Int), .int .i64 z])) (hb : Below w.heap.size w w') : RunP w g e w' := by
  subst hg; exact ⟨h, hb⟩
theorem RunP.good {w w' : World} {g : Cr ⊕ (Nat × Int)} {c : Cr} {u rs : Value} {e : Ending} (hg : g = .inl c) (h : e = .returned (.tuple #[u, rs, .int .i64 (c.eff : Int), .int .i64 0, .int .i64 0])) (h1 : StV w' u c.st) (h2 : SlL w' rs (bcl c.res)) (hb : Below w.heap.size w w') : RunP w g e w' := by
  subst hg; exact ⟨u, rs, h, h1, h2, hb⟩
end Go.Proofs.YthmmgjieppknkaaGreatDoor
