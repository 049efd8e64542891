/- Contracts and plain laws that the statements of this seat share (part Tcaa). -/
import Derived.Test.YthmmgjieppknkaaGreatDoorKtaa
import Derived.Test.YthmmgjieppknkaaGreatDoorKtal
import Derived.Test.YthmmgjieppknkaaGreatDoorKtau
import Derived.Lib.ItoaNum
import Derived.Lib.ItoaLen
import Derived.Lib.Atoi
import Derived.Lib.AtoiAll
import Derived.Lib.Strings
import Derived.Lib.SlTrimSet
namespace MLab
theorem accN_bad0 (b g N : Nat) : accN (b + 1) g N 0 = accN b g N 0 := by rw [accN_zero, accN_zero]
theorem accN_good (b g N C : Nat) (h : C ≤ N) : accN b (g + 1) (N + 1) C = accN b g (N + 1) C + accN b g N C := by
  unfold accN
  rw [← sumN_add]
  refine sumN_congr fun i hi => ?_
  rw [show N + 1 - i = (N - i) + 1 by omega, bin_ss]; grind
theorem accN_good' (b g N : Nat) : accN b (g + 1) (N + 1) (N + 1) = accN b g (N + 1) (N + 1) + accN b g N N := by
  have h := accN_good b g N N (Nat.le_refl _)
  unfold accN at *
  rw [sumN_succ, sumN_succ (fun k => bin b k * bin g (N + 1 - k)), h, Nat.sub_self, bin_zero, bin_zero]; omega
theorem accN_mono (b g : Nat) : ∀ {N C : Nat}, C ≤ N → accN (b + 1) g N C ≤ accN b (g + 1) N C
  | 0, C, h => by
    obtain rfl : C = 0 := by omega
    rw [accN_zero, accN_zero, bin_zero, bin_zero]; exact Nat.le_refl _
  | N + 1, 0, _ => by rw [accN_bad0, accN_good _ _ _ _ (by omega)]; omega
  | N + 1, C + 1, h => by
    rw [accN_bad]
    rcases Nat.lt_or_ge C N with hc | hc
    · rw [accN_good _ _ _ _ (by omega)]
      have := accN_monoC b g N (C := C) (D := C + 1) (by omega)
      omega
    · obtain rfl : C = N := by omega
      rw [accN_good']; omega
end MLab

namespace MLab
theorem divi_le {a b c : Int} (hc : 0 < c) (h : a ≤ b) : Rat.divInt a c ≤ Rat.divInt b c := by
  rw [Rat.divInt_eq_div, Rat.divInt_eq_div, Rat.div_def, Rat.div_def]
  exact Rat.mul_le_mul_of_nonneg_right (Rat.intCast_le_intCast.2 h) (Rat.le_of_lt (Rat.inv_pos.2 (Rat.intCast_pos.2 hc)))
theorem divi_one {c : Int} (hc : c ≠ 0) : Rat.divInt c c = 1 := Rat.divInt_self' hc
theorem bin_ne {n k : Nat} (h : k ≤ n) : ((bin n k : Nat) : Int) ≠ 0 := by have := bin_pos h; omega
theorem accN_none (g : Nat) (N : Nat) : ∀ C, accN 0 g N C = bin g N
  | 0 => accN_zero 0 g N
  | C + 1 => by
    have h : accN 0 g N (C + 1) = accN 0 g N C + bin 0 (C + 1) * bin g (N - (C + 1)) := rfl
    rw [h, accN_none g N C]; show bin g N + 0 * _ = _; omega
theorem accQ_none {g N C : Nat} (h : N ≤ g) : accQ 0 g N C = 1 := by
  unfold accQ; rw [accN_none, Nat.zero_add]; exact divi_one (bin_ne h)
theorem accQ_mono {b g N C : Nat} (hC : C ≤ N) (h : N ≤ b + g + 1) : accQ (b + 1) g N C ≤ accQ b (g + 1) N C := by
  unfold accQ
  rw [show b + 1 + g = b + (g + 1) by omega]
  have := bin_pos (n := b + (g + 1)) (k := N) (by omega)
  have := accN_mono b g hC
  exact divi_le (by omega) (by omega)
end MLab

namespace MLab
theorem sumN_zero {f : Nat → Nat} : ∀ {n : Nat}, (∀ i, i < n → f i = 0) → sumN f n = 0
  | 0, _ => rfl
  | n + 1, h => by rw [sumN_succ, sumN_zero (fun i hi => h i (by omega)), h n (by omega)]
end MLab

namespace MLab
theorem accN_lt {b g N C : Nat} (hC : C ≤ N) : accN b g N C ≤ bin (b + g) N := by
  have h1 := accN_monoC b g N hC
  rwa [accN_all] at h1
end MLab
