/- The first plan that does what is needed. -/
import Derived.Test.YtaccdkbofhlbkaaGreatDoorBinq
namespace MLab

theorem sumN_zero {f : Nat → Nat} : ∀ {n : Nat}, (∀ i, i < n → f i = 0) → sumN f n = 0
  | 0, _ => rfl
  | n + 1, h => by rw [sumN_succ, sumN_zero (fun i hi => h i (by omega)), h n (by omega)]
/-- All parts are in the sample: accepted if there are no more bad ones. -/
theorem accN_whole {b g : Nat} : accN b g (b + g) b = 1 := by
  unfold accN
  rw [sumN_succ, sumN_zero (fun i hi => by rw [bin_far (n := g) (k := b + g - i) (by omega), Nat.mul_zero]), bin_self, show b + g - b = g by omega, bin_self]
theorem accN_less {b g C : Nat} (h : C < b) : accN b g (b + g) C = 0 := by
  unfold accN
  exact sumN_zero (fun i hi => by rw [bin_far (n := g) (k := b + g - i) (by omega), Nat.mul_zero])
theorem accQ_nn (b g N C : Nat) : 0 ≤ accQ b g N C := by
  unfold accQ
  exact Rat.divInt_nonneg (by omega) (by omega)

/-- A plan does what is needed. -/
def meetsP (lot good bad : Nat) (pr co : Rat) (n c : Nat) : Bool := decide (1 - pr ≤ accQ good (lot - good) n c) && decide (accQ bad (lot - bad) n c ≤ co)
/-- It is the first one. -/
def FirstP (lot good bad : Nat) (pr co : Rat) (n c : Nat) : Prop :=
  1 ≤ n ∧ n ≤ lot ∧ c ≤ n ∧ meetsP lot good bad pr co n c = true ∧ ∀ n' c', 1 ≤ n' → c' ≤ n' → (n' < n ∨ (n' = n ∧ c' < c)) → meetsP lot good bad pr co n' c' = false
theorem FirstP.uniq {lot good bad : Nat} {pr co : Rat} {n c n' c' : Nat} (h : FirstP lot good bad pr co n c) (k : FirstP lot good bad pr co n' c') : n = n' ∧ c = c' := by
  obtain ⟨h1, h2, h3, h4, h5⟩ := h
  obtain ⟨k1, k2, k3, k4, k5⟩ := k
  have a : ¬ (n' < n ∨ (n' = n ∧ c' < c)) := fun h => by rw [h5 n' c' k1 k3 h] at k4; cases k4
  have b : ¬ (n < n' ∨ (n = n' ∧ c < c')) := fun h => by rw [k5 n c h1 h3 h] at h4; cases h4
  omega
theorem meets_last {lot good bad : Nat} {pr co : Rat} (hg : good < bad) (hb : bad ≤ lot) (hp : 0 ≤ pr) (hc : 0 ≤ co) : meetsP lot good bad pr co lot good = true := by
  have e1 : accN good (lot - good) lot good = 1 := by
    have := accN_whole (b := good) (g := lot - good)
    rwa [show good + (lot - good) = lot by omega] at this
  have e2 : accN bad (lot - bad) lot good = 0 := by
    have := accN_less (b := bad) (g := lot - bad) hg
    rwa [show bad + (lot - bad) = lot by omega] at this
  have f1 : accQ good (lot - good) lot good = 1 := by
    unfold accQ
    rw [e1, show good + (lot - good) = lot by omega, bin_self]
    exact Rat.divInt_self' (by decide)
  have f2 : accQ bad (lot - bad) lot good = 0 := by
    unfold accQ
    rw [e2]; exact Rat.zero_divInt _
  unfold meetsP
  rw [f1, f2, Bool.and_eq_true, decide_eq_true_eq, decide_eq_true_eq]
  refine ⟨?_, hc⟩
  grind
end MLab
