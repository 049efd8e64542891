/- Contracts and plain laws that the statements of this seat share (part Ekaa). -/
import Derived.Test.YthmmgjieppknkaaGreatDoorKaa
import Derived.Test.YthmmgjieppknkaaGreatDoorKab
import Derived.Test.YthmmgjieppknkaaGreatDoorKad
import Derived.Test.YthmmgjieppknkaaGreatDoorKai
import Derived.Test.YthmmgjieppknkaaGreatDoorKau
import Derived.ProofKit
namespace MLab
theorem goC_append {R : Nat → Nat × Nat} : ∀ (L M : List Int) (i : Nat) (x y : Cr), goC R L i x = .inl y → goC R (L ++ M) i x = goC R M (i + L.length) y
  | [], M, i, x, y, h => by
    rw [goC] at h
    cases h; rfl
  | n :: L, M, i, x, y, h => by
    rw [goC_cons] at h
    rw [List.cons_append, goC_cons]
    cases hs : stepC R x n with
    | inl z =>
      rw [hs] at h
      have := goC_append L M (i + 1) z y h
      rw [List.length_cons, show i + (L.length + 1) = i + 1 + L.length by omega]; exact this
    | inr e => rw [hs] at h; cases h
theorem goC_append_err {R : Nat → Nat × Nat} : ∀ (L M : List Int) (i : Nat) (x : Cr) (e : Nat × Int), goC R L i x = .inr e → goC R (L ++ M) i x = .inr e
  | [], M, i, x, e, h => by rw [goC] at h; cases h
  | n :: L, M, i, x, e, h => by
    rw [goC_cons] at h
    rw [List.cons_append, goC_cons]
    cases hs : stepC R x n with
    | inl z => rw [hs] at h; exact goC_append_err L M (i + 1) z e h
    | inr e2 => rw [hs] at h; exact h
theorem goC_prefix {R : Nat → Nat × Nat} {L : List Int} {i : Nat} {x y : Cr} (k : Nat) (h : goC R L i x = .inl y) : ∃ z, goC R (L.take k) i x = .inl z ∧ goC R (L.drop k) (i + (L.take k).length) z = .inl y := by
  cases hz : goC R (L.take k) i x with
  | inl z => exact ⟨z, rfl, by rw [← goC_append _ _ _ _ _ hz, List.take_append_drop]; exact h⟩
  | inr e =>
    have := goC_append_err _ (L.drop k) _ _ _ hz
    rw [List.take_append_drop, h] at this; cases this
theorem stepC_ok {R : Nat → Nat × Nat} {B : Nat} (hB : ∀ m, (R m).1 ≤ B) {x y : Cr} {n : Int} (hx : RightS x.st) (h : stepC R x n = .inl y) :
    RightS y.st ∧ y.res.length ≤ x.res.length + 1 ∧ y.eff ≤ x.eff + B := by
  unfold stepC at h
  split at h
  · split at h
    · cases h; exact ⟨swB_right (by omega), by simp, by simp⟩
    · cases h
  · split at h
    · cases h
    · split at h
      · cases h
      · cases h
        exact ⟨(goesS_ok hx _).2, by simp, Nat.add_le_add_left (hB _) _⟩
theorem goC_ok {R : Nat → Nat × Nat} {B : Nat} (hB : ∀ m, (R m).1 ≤ B) : ∀ {L : List Int} {i : Nat} {x y : Cr}, RightS x.st → goC R L i x = .inl y →
    RightS y.st ∧ y.res.length ≤ x.res.length + L.length ∧ y.eff ≤ x.eff + L.length * B
  | [], i, x, y, hx, h => by rw [goC] at h; cases h; exact ⟨hx, by simp, by simp⟩
  | n :: L, i, x, y, hx, h => by
    rw [goC_cons] at h
    cases hs : stepC R x n with
    | inl z =>
      rw [hs] at h
      obtain ⟨h1, h2, h3⟩ := stepC_ok hB hx hs
      obtain ⟨g1, g2, g3⟩ := goC_ok hB h1 h
      refine ⟨g1, ?_, ?_⟩
      · rw [List.length_cons]; omega
      · rw [List.length_cons, Nat.add_mul]; omega
    | inr e => rw [hs] at h; cases h
end MLab
