/- The probability that a process is accepted, as the sum of products that the document has. -/
import Derived.Test.YtaccdkbofhlbkaaGreatDoorBinq
namespace MLab

def sumQ (f : Nat → Rat) : Nat → Rat
  | 0 => 0
  | n + 1 => sumQ f n + f n
theorem sumQ_congr {f g : Nat → Rat} : ∀ {n : Nat}, (∀ i, i < n → f i = g i) → sumQ f n = sumQ g n
  | 0, _ => rfl
  | n + 1, h => by rw [sumQ, sumQ, sumQ_congr (fun i hi => h i (by omega)), h n (by omega)]
theorem sumQ_mul (c : Rat) (f : Nat → Rat) : ∀ n, sumQ (fun i => f i * c) n = sumQ f n * c
  | 0 => by simp [sumQ, Rat.zero_mul]
  | n + 1 => by rw [sumQ, sumQ, sumQ_mul c f n]; grind
theorem sumQ_nat (f : Nat → Nat) : ∀ n, sumQ (fun i => ((f i : Nat) : Rat)) n = ((sumN f n : Nat) : Rat)
  | 0 => rfl
  | n + 1 => by rw [sumQ, sumN_succ, sumQ_nat f n]; grind
/-- k factors x and m factors y. -/
def powQ (x : Rat) : Nat → Rat
  | 0 => 1
  | n + 1 => powQ x n * x
theorem powQ_div (a b : Rat) (hb : b ≠ 0) : ∀ n, powQ (a / b) n * powQ b n = powQ a n
  | 0 => by simp [powQ, Rat.mul_one]
  | n + 1 => by
    have ih := powQ_div a b hb n
    rw [powQ, powQ, powQ, ← ih]
    have : a / b * b = a := Rat.div_mul_cancel hb
    grind
theorem powQ_nat (a : Nat) : ∀ n, powQ (a : Rat) n = ((a ^ n : Nat) : Rat)
  | 0 => rfl
  | n + 1 => by rw [powQ, powQ_nat a n, Nat.pow_succ]; grind
theorem powQ_add (b : Rat) (m : Nat) : ∀ n, powQ b (m + n) = powQ b m * powQ b n
  | 0 => by simp [powQ, Rat.mul_one]
  | n + 1 => by rw [← Nat.add_assoc, powQ, powQ_add b m n, powQ]; grind
theorem powQ_ne {b : Rat} (hb : b ≠ 0) : ∀ n, powQ b n ≠ 0
  | 0 => by simp [powQ]
  | n + 1 => by rw [powQ]; have := powQ_ne hb n; grind
/-- The document's sum. -/
def docQ (q : Rat) (N C : Nat) : Rat := sumQ (fun k => ((bin N k : Nat) : Rat) * powQ q k * powQ (1 - q) (N - k)) (C + 1)
theorem docQ_eq {x y N C : Nat} (h : 0 < x + y) (hC : C ≤ N) : docQ (((x : Nat) : Rat) / ((x + y : Nat) : Rat)) N C = proQ x y N C := by
  have hd : (((x + y : Nat) : Nat) : Rat) ≠ 0 := by
    have hne : ((x + y : Nat) : Int) ≠ 0 := by omega
    have : (((x + y : Nat) : Int) : Rat) ≠ 0 := fun e => hne (Rat.intCast_inj.1 (e.trans Rat.intCast_zero.symm))
    exact this
  obtain ⟨d, hdd⟩ : ∃ d : Rat, d = ((x + y : Nat) : Rat) := ⟨_, rfl⟩
  have h1 : 1 - ((x : Nat) : Rat) / d = ((y : Nat) : Rat) / d := by
    have : d = (x : Rat) + (y : Rat) := by rw [hdd]; grind
    rw [← hdd] at hd
    grind
  unfold docQ
  rw [← hdd, h1]
  rw [← hdd] at hd
  have h2 : sumQ (fun k => ((bin N k : Nat) : Rat) * powQ ((x : Rat) / d) k * powQ ((y : Rat) / d) (N - k)) (C + 1) * powQ d N = ((proN x y N C : Nat) : Rat) := by
    rw [← sumQ_mul]
    unfold proN
    rw [← sumQ_nat]
    refine sumQ_congr fun k hk => ?_
    obtain ⟨m, rfl⟩ := Nat.le.dest (show k ≤ N by omega)
    rw [show k + m - k = m by omega, powQ_add]
    have a1 := powQ_div (x : Rat) d hd k
    have a2 := powQ_div (y : Rat) d hd m
    rw [powQ_nat] at a1 a2
    have e : (((bin (k + m) k * (x ^ k * y ^ m) : Nat)) : Rat) = ((bin (k + m) k : Nat) : Rat) * (((x ^ k : Nat) : Rat) * ((y ^ m : Nat) : Rat)) := by grind
    rw [e, ← a1, ← a2]; grind
  unfold proQ
  rw [Rat.divInt_eq_div]
  have h3 : powQ d N = (((((x + y) ^ N : Nat) : Nat) : Int) : Rat) := by rw [hdd, powQ_nat]; rfl
  have h4 : ((proN x y N C : Nat) : Rat) = (((proN x y N C : Nat) : Int) : Rat) := rfl
  rw [← h3, ← h4, ← h2]
  have := powQ_ne hd N
  exact (Rat.mul_div_cancel this).symm
end MLab
