/- Contracts and plain laws that the statements of this seat share (part Eraa). -/
import Derived.Test.YthmmgjieppknkaaGreatDoorKab
import Derived.Test.YthmmgjieppknkaaGreatDoorKai
import Derived.Test.YthmmgjieppknkaaGreatDoorKau
import Derived.ProofKit
namespace MLab
theorem stepC_ok {R : Nat → Nat × Nat} {B : Nat} (hB : ∀ m, (R m).1 ≤ B) {x y : Cr} {n : Int} (hx : RightS x.st) (h : stepC R x n = .inl y) :
    RightS y.st ∧ y.res.length ≤ x.res.length + 1 ∧ y.eff ≤ x.eff + B := by
  unfold stepC at h
  split at h
  · split at h
    · cases h; exact ⟨swB_right (by omega), by simp, by simp⟩
    · cases h
  · split at h
    · cases h
    · split at h
      · cases h
      · cases h
        exact ⟨(goesS_ok hx _).2, by simp, Nat.add_le_add_left (hB _) _⟩
theorem goC_ok {R : Nat → Nat × Nat} {B : Nat} (hB : ∀ m, (R m).1 ≤ B) : ∀ {L : List Int} {i : Nat} {x y : Cr}, RightS x.st → goC R L i x = .inl y →
    RightS y.st ∧ y.res.length ≤ x.res.length + L.length ∧ y.eff ≤ x.eff + L.length * B
  | [], i, x, y, hx, h => by rw [goC] at h; cases h; exact ⟨hx, by simp, by simp⟩
  | n :: L, i, x, y, hx, h => by
    rw [goC_cons] at h
    cases hs : stepC R x n with
    | inl z =>
      rw [hs] at h
      obtain ⟨h1, h2, h3⟩ := stepC_ok hB hx hs
      obtain ⟨g1, g2, g3⟩ := goC_ok hB h1 h
      refine ⟨g1, ?_, ?_⟩
      · rw [List.length_cons]; omega
      · rw [List.length_cons, Nat.add_mul]; omega
    | inr e => rw [hs] at h; cases h
end MLab
