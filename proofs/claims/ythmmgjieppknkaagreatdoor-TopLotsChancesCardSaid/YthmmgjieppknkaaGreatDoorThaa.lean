/- Contracts and plain laws that the statements of this seat share (part Thaa). -/
import Derived.Test.YthmmgjieppknkaaGreatDoorKtaa
import Derived.Test.YthmmgjieppknkaaGreatDoorKtac
import Derived.Test.YthmmgjieppknkaaGreatDoorKtai
import Derived.Test.YthmmgjieppknkaaGreatDoorKtak
import Derived.Test.YthmmgjieppknkaaGreatDoorKtal
import Derived.Test.YthmmgjieppknkaaGreatDoorKtas
import Derived.Test.YthmmgjieppknkaaGreatDoorKtau
import Derived.Lib.ItoaNum
import Derived.Lib.ItoaLen
import Derived.Lib.Atoi
import Derived.Lib.AtoiAll
import Derived.Lib.Strings
import Derived.Lib.SlTrimSet
namespace MLab
theorem sumN_mul (c : Nat) (f : Nat → Nat) : ∀ n, sumN (fun i => c * f i) n = c * sumN f n
  | 0 => rfl
  | n + 1 => by rw [sumN_succ, sumN_succ, sumN_mul c f n, Nat.mul_add]
def proN (x y N C : Nat) : Nat := sumN (fun k => bin N k * (x ^ k * y ^ (N - k))) (C + 1)
theorem proN_all (x y : Nat) : ∀ N, proN x y N N = (x + y) ^ N
  | 0 => by simp [proN, sumN, bin]
  | N + 1 => by
    have ih := proN_all x y N
    rw [Nat.pow_succ, ← ih, Nat.mul_add, Nat.mul_comm _ x, Nat.mul_comm _ y]
    unfold proN
    rw [sumN_first]
    have h1 : sumN (fun i => bin (N + 1) (i + 1) * (x ^ (i + 1) * y ^ (N + 1 - (i + 1)))) (N + 1) = x * sumN (fun k => bin N k * (x ^ k * y ^ (N - k))) (N + 1) + sumN (fun i => bin N (i + 1) * (x ^ (i + 1) * y ^ (N - i))) (N + 1) := by
      rw [← sumN_mul, ← sumN_add]
      refine sumN_congr fun i hi => ?_
      rw [bin_ss, show N + 1 - (i + 1) = N - i by omega, Nat.pow_succ]; grind
    have h2 : y * sumN (fun k => bin N k * (x ^ k * y ^ (N - k))) (N + 1) = bin (N + 1) 0 * (x ^ 0 * y ^ (N + 1 - 0)) + sumN (fun i => bin N (i + 1) * (x ^ (i + 1) * y ^ (N - i))) (N + 1) := by
      rw [sumN_first, sumN_succ, bin_far (n := N) (k := N + 1) (by omega), bin_zero, bin_zero, Nat.zero_mul, Nat.add_zero, Nat.mul_add, ← sumN_mul]
      congr 1
      · simp [Nat.pow_succ]; grind
      · refine sumN_congr fun i hi => ?_
        rw [show N - i = (N - (i + 1)) + 1 by omega, Nat.pow_succ]; grind
    rw [h1, h2]; omega
end MLab

namespace MLab
theorem divi_le {a b c : Int} (hc : 0 < c) (h : a ≤ b) : Rat.divInt a c ≤ Rat.divInt b c := by
  rw [Rat.divInt_eq_div, Rat.divInt_eq_div, Rat.div_def, Rat.div_def]
  exact Rat.mul_le_mul_of_nonneg_right (Rat.intCast_le_intCast.2 h) (Rat.le_of_lt (Rat.inv_pos.2 (Rat.intCast_pos.2 hc)))
theorem divi_add {a b c : Int} (hc : c ≠ 0) (h : a + b = c) : Rat.divInt a c + Rat.divInt b c = 1 := by
  rw [Rat.divInt_eq_div, Rat.divInt_eq_div]
  have hc' : (c : Rat) ≠ 0 := by simpa using hc
  have : (c : Rat) = a + b := by rw [← h, Rat.intCast_add]
  grind
theorem divi_one {c : Int} (hc : c ≠ 0) : Rat.divInt c c = 1 := Rat.divInt_self' hc
def proQ (x y N C : Nat) : Rat := Rat.divInt (proN x y N C : Nat) (((x + y) ^ N : Nat) : Int)
end MLab

namespace MLab
theorem proN_lt {x y N C : Nat} (hC : C ≤ N) : proN x y N C ≤ (x + y) ^ N := by
  rw [← proN_all]
  exact sumN_mono _ (by omega)
end MLab

namespace MLab
def sumQ (f : Nat → Rat) : Nat → Rat
  | 0 => 0
  | n + 1 => sumQ f n + f n
theorem sumQ_congr {f g : Nat → Rat} : ∀ {n : Nat}, (∀ i, i < n → f i = g i) → sumQ f n = sumQ g n
  | 0, _ => rfl
  | n + 1, h => by rw [sumQ, sumQ, sumQ_congr (fun i hi => h i (by omega)), h n (by omega)]
theorem sumQ_mul (c : Rat) (f : Nat → Rat) : ∀ n, sumQ (fun i => f i * c) n = sumQ f n * c
  | 0 => by simp [sumQ, Rat.zero_mul]
  | n + 1 => by rw [sumQ, sumQ, sumQ_mul c f n]; grind
theorem sumQ_nat (f : Nat → Nat) : ∀ n, sumQ (fun i => ((f i : Nat) : Rat)) n = ((sumN f n : Nat) : Rat)
  | 0 => rfl
  | n + 1 => by rw [sumQ, sumN_succ, sumQ_nat f n]; grind
def powQ (x : Rat) : Nat → Rat
  | 0 => 1
  | n + 1 => powQ x n * x
theorem powQ_div (a b : Rat) (hb : b ≠ 0) : ∀ n, powQ (a / b) n * powQ b n = powQ a n
  | 0 => by simp [powQ, Rat.mul_one]
  | n + 1 => by
    have ih := powQ_div a b hb n
    rw [powQ, powQ, powQ, ← ih]
    have : a / b * b = a := Rat.div_mul_cancel hb
    grind
theorem powQ_nat (a : Nat) : ∀ n, powQ (a : Rat) n = ((a ^ n : Nat) : Rat)
  | 0 => rfl
  | n + 1 => by rw [powQ, powQ_nat a n, Nat.pow_succ]; grind
theorem powQ_add (b : Rat) (m : Nat) : ∀ n, powQ b (m + n) = powQ b m * powQ b n
  | 0 => by simp [powQ, Rat.mul_one]
  | n + 1 => by rw [← Nat.add_assoc, powQ, powQ_add b m n, powQ]; grind
theorem powQ_ne {b : Rat} (hb : b ≠ 0) : ∀ n, powQ b n ≠ 0
  | 0 => by simp [powQ]
  | n + 1 => by rw [powQ]; have := powQ_ne hb n; grind
def docQ (q : Rat) (N C : Nat) : Rat := sumQ (fun k => ((bin N k : Nat) : Rat) * powQ q k * powQ (1 - q) (N - k)) (C + 1)
theorem docQ_eq {x y N C : Nat} (h : 0 < x + y) (hC : C ≤ N) : docQ (((x : Nat) : Rat) / ((x + y : Nat) : Rat)) N C = proQ x y N C := by
  have hd : (((x + y : Nat) : Nat) : Rat) ≠ 0 := by
    have hne : ((x + y : Nat) : Int) ≠ 0 := by omega
    have : (((x + y : Nat) : Int) : Rat) ≠ 0 := fun e => hne (Rat.intCast_inj.1 (e.trans Rat.intCast_zero.symm))
    exact this
  obtain ⟨d, hdd⟩ : ∃ d : Rat, d = ((x + y : Nat) : Rat) := ⟨_, rfl⟩
  have h1 : 1 - ((x : Nat) : Rat) / d = ((y : Nat) : Rat) / d := by
    have : d = (x : Rat) + (y : Rat) := by rw [hdd]; grind
    rw [← hdd] at hd
    grind
  unfold docQ
  rw [← hdd, h1]
  rw [← hdd] at hd
  have h2 : sumQ (fun k => ((bin N k : Nat) : Rat) * powQ ((x : Rat) / d) k * powQ ((y : Rat) / d) (N - k)) (C + 1) * powQ d N = ((proN x y N C : Nat) : Rat) := by
    rw [← sumQ_mul]
    unfold proN
    rw [← sumQ_nat]
    refine sumQ_congr fun k hk => ?_
    obtain ⟨m, rfl⟩ := Nat.le.dest (show k ≤ N by omega)
    rw [show k + m - k = m by omega, powQ_add]
    have a1 := powQ_div (x : Rat) d hd k
    have a2 := powQ_div (y : Rat) d hd m
    rw [powQ_nat] at a1 a2
    have e : (((bin (k + m) k * (x ^ k * y ^ m) : Nat)) : Rat) = ((bin (k + m) k : Nat) : Rat) * (((x ^ k : Nat) : Rat) * ((y ^ m : Nat) : Rat)) := by grind
    rw [e, ← a1, ← a2]; grind
  unfold proQ
  rw [Rat.divInt_eq_div]
  have h3 : powQ d N = (((((x + y) ^ N : Nat) : Nat) : Int) : Rat) := by rw [hdd, powQ_nat]; rfl
  have h4 : ((proN x y N C : Nat) : Rat) = (((proN x y N C : Nat) : Int) : Rat) := rfl
  rw [← h3, ← h4, ← h2]
  have := powQ_ne hd N
  exact (Rat.mul_div_cancel this).symm
end MLab
