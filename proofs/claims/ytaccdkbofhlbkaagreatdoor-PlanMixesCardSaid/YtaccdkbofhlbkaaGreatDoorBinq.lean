/- Probabilities of acceptance, as rational numbers: plain laws. -/
import Derived.Test.YtaccdkbofhlbkaaGreatDoorBin
namespace MLab

theorem divi_le {a b c : Int} (hc : 0 < c) (h : a ≤ b) : Rat.divInt a c ≤ Rat.divInt b c := by
  rw [Rat.divInt_eq_div, Rat.divInt_eq_div, Rat.div_def, Rat.div_def]
  exact Rat.mul_le_mul_of_nonneg_right (Rat.intCast_le_intCast.2 h) (Rat.le_of_lt (Rat.inv_pos.2 (Rat.intCast_pos.2 hc)))
theorem divi_add {a b c : Int} (hc : c ≠ 0) (h : a + b = c) : Rat.divInt a c + Rat.divInt b c = 1 := by
  rw [Rat.divInt_eq_div, Rat.divInt_eq_div]
  have hc' : (c : Rat) ≠ 0 := by simpa using hc
  have : (c : Rat) = a + b := by rw [← h, Rat.intCast_add]
  grind
theorem divi_one {c : Int} (hc : c ≠ 0) : Rat.divInt c c = 1 := Rat.divInt_self' hc

/-- The probability that a lot of b bad parts and g good ones is accepted. -/
def accQ (b g N C : Nat) : Rat := Rat.divInt (accN b g N C : Nat) (bin (b + g) N : Nat)
theorem bin_ne {n k : Nat} (h : k ≤ n) : ((bin n k : Nat) : Int) ≠ 0 := by have := bin_pos h; omega
theorem accQ_all {b g N : Nat} (h : N ≤ b + g) : accQ b g N N = 1 := by
  unfold accQ; rw [accN_all]; exact divi_one (bin_ne h)
theorem accN_none (g : Nat) (N : Nat) : ∀ C, accN 0 g N C = bin g N
  | 0 => accN_zero 0 g N
  | C + 1 => by
    have h : accN 0 g N (C + 1) = accN 0 g N C + bin 0 (C + 1) * bin g (N - (C + 1)) := rfl
    rw [h, accN_none g N C]; show bin g N + 0 * _ = _; omega
theorem accQ_none {g N C : Nat} (h : N ≤ g) : accQ 0 g N C = 1 := by
  unfold accQ; rw [accN_none, Nat.zero_add]; exact divi_one (bin_ne h)
theorem accQ_mono {b g N C : Nat} (hC : C ≤ N) (h : N ≤ b + g + 1) : accQ (b + 1) g N C ≤ accQ b (g + 1) N C := by
  unfold accQ
  rw [show b + 1 + g = b + (g + 1) by omega]
  have := bin_pos (n := b + (g + 1)) (k := N) (by omega)
  have := accN_mono b g hC
  exact divi_le (by omega) (by omega)
theorem accQ_monoC {b g N C D : Nat} (hD : C ≤ D) (h : N ≤ b + g) : accQ b g N C ≤ accQ b g N D := by
  unfold accQ
  have := bin_pos h
  have := accN_monoC b g N hD
  exact divi_le (by omega) (by omega)
theorem accQ_opp {b g N C : Nat} (hC : C < N) (h : N ≤ b + g) : accQ b g N C + accQ g b N (N - C - 1) = 1 := by
  unfold accQ
  rw [show g + b = b + g by omega]
  have := accN_opp b g hC
  exact divi_add (bin_ne h) (by omega)

/-- The probability that a process is accepted that makes x bad parts in x + y. -/
def proQ (x y N C : Nat) : Rat := Rat.divInt (proN x y N C : Nat) (((x + y) ^ N : Nat) : Int)
theorem proQ_opp {x y N C : Nat} (hC : C < N) (h : 0 < x + y) : proQ x y N C + proQ y x N (N - C - 1) = 1 := by
  unfold proQ
  rw [show y + x = x + y by omega]
  have h1 := proN_opp x y hC
  have h2 : 0 < (x + y) ^ N := Nat.pow_pos h
  exact divi_add (by omega) (by omega)
theorem proN_scale (k x y N : Nat) : ∀ C, C ≤ N → proN (k * x) (k * y) N C = k ^ N * proN x y N C := by
  intro C hC
  unfold proN
  rw [← sumN_mul]
  refine sumN_congr fun i hi => ?_
  obtain ⟨d, rfl⟩ := Nat.le.dest (show i ≤ N by omega)
  rw [show i + d - i = d by omega, Nat.mul_pow, Nat.mul_pow, Nat.pow_add]
  grind
theorem proQ_scale {k x y N C : Nat} (hk : 0 < k) (hC : C ≤ N) : proQ (k * x) (k * y) N C = proQ x y N C := by
  unfold proQ
  rw [proN_scale k x y N C hC, show k * x + k * y = k * (x + y) by rw [Nat.mul_add], Nat.mul_pow]
  have h : ((k ^ N : Nat) : Int) ≠ 0 := by have := Nat.pow_pos (n := N) hk; omega
  rw [Int.natCast_mul, Int.natCast_mul]
  exact Rat.divInt_mul_left h

/-- What leaves: the bad parts that are left over in accepted lots. -/
def outN (b g N C : Nat) : Nat := sumN (fun k => bin b k * bin g (N - k) * (b - k)) (min C b + 1)
def outQ (b g N C : Nat) : Rat := Rat.divInt (outN b g N C : Nat) ((bin (b + g) N * (b + g) : Nat) : Int)
theorem outN_le (b g N C : Nat) : outN b g N C ≤ b * accN b g N C := by
  unfold outN
  have h1 : sumN (fun k => bin b k * bin g (N - k) * (b - k)) (min C b + 1) ≤ sumN (fun k => b * (bin b k * bin g (N - k))) (min C b + 1) :=
    sumN_le fun k _ => by
      rw [Nat.mul_comm b]
      exact Nat.mul_le_mul_left _ (Nat.sub_le _ _)
  rw [sumN_mul] at h1
  exact Nat.le_trans h1 (Nat.mul_le_mul_left _ (sumN_mono _ (by omega)))
theorem divi_mul_le {a b c d e : Int} (hd : 0 < d) (he : 0 < e) (h : a ≤ b * c) : Rat.divInt a (d * e) ≤ Rat.divInt b d * Rat.divInt c e := by
  rw [Rat.divInt_mul_divInt]
  exact divi_le (Int.mul_pos hd he) h
theorem outQ_le {b g N C : Nat} (h : N ≤ b + g) (h0 : 0 < b + g) : outQ b g N C ≤ accQ b g N C * Rat.divInt (b : Int) ((b + g : Nat) : Int) := by
  unfold outQ accQ
  rw [Int.natCast_mul]
  have := bin_pos h
  refine divi_mul_le (by omega) (by omega) ?_
  have := outN_le b g N C
  rw [Nat.mul_comm] at this
  exact_mod_cast this
end MLab
