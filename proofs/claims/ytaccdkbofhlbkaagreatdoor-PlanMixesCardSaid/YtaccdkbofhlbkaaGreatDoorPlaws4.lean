/- Plain laws of plans: the worst lot; all lots one after the other. -/
import Derived.Test.YtaccdkbofhlbkaaGreatDoorPlmeet
namespace MLab

/-- The greatest of the first n + 1 numbers and where it comes first. -/
def wstF (d : Nat → Rat) : Nat → Rat × Nat
  | 0 => (d 0, 0)
  | n + 1 => if (wstF d n).1 < d (n + 1) then (d (n + 1), n + 1) else wstF d n
theorem wstF_at (d : Nat → Rat) : ∀ n, (wstF d n).2 ≤ n ∧ (wstF d n).1 = d (wstF d n).2
  | 0 => ⟨Nat.le_refl _, rfl⟩
  | n + 1 => by
    unfold wstF
    split
    · exact ⟨Nat.le_refl _, rfl⟩
    · exact ⟨by have := (wstF_at d n).1; omega, (wstF_at d n).2⟩
theorem wstF_ge (d : Nat → Rat) : ∀ n j, j ≤ n → d j ≤ (wstF d n).1
  | 0, j, h => by
    obtain rfl : j = 0 := by omega
    exact Rat.le_refl
  | n + 1, j, h => by
    unfold wstF
    by_cases hj : j = n + 1
    · subst hj
      split
      · exact Rat.le_refl
      · exact Rat.not_lt.1 (by assumption)
    · have := wstF_ge d n j (by omega)
      split
      · exact Rat.le_trans this (Rat.le_of_lt (by assumption))
      · exact this
theorem wstF_gt (d : Nat → Rat) : ∀ n j, j < (wstF d n).2 → d j < (wstF d n).1
  | 0, j, h => absurd h (by show ¬ j < 0; omega)
  | n + 1, j, h => by
    unfold wstF at h ⊢
    split at h
    · rename_i hlt
      rw [if_pos hlt]
      have := wstF_ge d n j (by show j ≤ n; have : j < n + 1 := h; omega)
      grind
    · rename_i hlt
      rw [if_neg hlt]
      exact wstF_gt d n j h
theorem outQ_nn (b g N C : Nat) : 0 ≤ outQ b g N C := by
  unfold outQ
  exact Rat.divInt_nonneg (by omega) (by omega)
theorem outQ_zero (g N C : Nat) : outQ 0 g N C = 0 := by
  have : outN 0 g N C = 0 := by unfold outN; exact sumN_zero (fun i hi => by rw [show 0 - i = 0 by omega, Nat.mul_zero])
  unfold outQ
  rw [this]; exact Rat.zero_divInt _
theorem outN_lt {b g N C : Nat} (hC : C ≤ N) : outN b g N C ≤ b * bin (b + g) N := by
  have h0 := outN_le b g N C
  have h1 := accN_monoC b g N hC
  rw [accN_all] at h1
  exact Nat.le_trans h0 (Nat.mul_le_mul_left _ h1)
theorem proN_lt {x y N C : Nat} (hC : C ≤ N) : proN x y N C ≤ (x + y) ^ N := by
  rw [← proN_all]
  exact sumN_mono _ (by omega)
theorem accN_lt {b g N C : Nat} (hC : C ≤ N) : accN b g N C ≤ bin (b + g) N := by
  have h1 := accN_monoC b g N hC
  rwa [accN_all] at h1
end MLab
