/- The lots that a process makes: plain laws of PlanMixes. -/
import Derived.Test.YtaccdkbofhlbkaaGreatDoorBinq
namespace MLab

/-- The mean, with the weights of lot trials of x bad and y good ones, of a function of the bad and the good parts. -/
def mixN (x y : Nat) : Nat → (Nat → Nat → Nat) → Nat
  | 0, f => f 0 0
  | n + 1, f => x * mixN x y n (fun d g => f (d + 1) g) + y * mixN x y n (fun d g => f d (g + 1))
theorem mixN_congr (x y : Nat) : ∀ (n : Nat) {f f' : Nat → Nat → Nat}, (∀ d g, d + g = n → f d g = f' d g) → mixN x y n f = mixN x y n f'
  | 0, f, f', h => h 0 0 rfl
  | n + 1, f, f', h => by
    rw [mixN, mixN, mixN_congr x y n (f := fun d g => f (d + 1) g) (f' := fun d g => f' (d + 1) g) (fun d g e => h _ _ (by omega)),
      mixN_congr x y n (f := fun d g => f d (g + 1)) (f' := fun d g => f' d (g + 1)) (fun d g e => h _ _ (by omega))]
theorem mixN_add (x y : Nat) : ∀ (n : Nat) (f f' : Nat → Nat → Nat), mixN x y n (fun d g => f d g + f' d g) = mixN x y n f + mixN x y n f'
  | 0, f, f' => rfl
  | n + 1, f, f' => by
    rw [mixN, mixN, mixN, mixN_add x y n (fun d g => f (d + 1) g), mixN_add x y n (fun d g => f d (g + 1))]; grind
theorem mixN_sum (x y : Nat) : ∀ (n : Nat) (f : Nat → Nat → Nat), mixN x y n f = sumN (fun d => bin n d * (x ^ d * y ^ (n - d)) * f d (n - d)) (n + 1)
  | 0, f => by simp [mixN, sumN, bin]
  | n + 1, f => by
    rw [mixN, mixN_sum x y n, mixN_sum x y n, sumN_first (fun d => bin (n + 1) d * (x ^ d * y ^ (n + 1 - d)) * f d (n + 1 - d)), ← sumN_mul, ← sumN_mul]
    have h1 : sumN (fun i => bin (n + 1) (i + 1) * (x ^ (i + 1) * y ^ (n + 1 - (i + 1))) * f (i + 1) (n + 1 - (i + 1))) (n + 1) =
        sumN (fun i => x * (bin n i * (x ^ i * y ^ (n - i)) * f (i + 1) (n - i))) (n + 1) + sumN (fun i => bin n (i + 1) * (x ^ (i + 1) * y ^ (n - i)) * f (i + 1) (n - i)) (n + 1) := by
      rw [← sumN_add]
      refine sumN_congr fun i hi => ?_
      rw [bin_ss, show n + 1 - (i + 1) = n - i by omega, Nat.pow_succ]; grind
    have h2 : sumN (fun i => y * (bin n i * (x ^ i * y ^ (n - i)) * f i (n - i + 1))) (n + 1) =
        bin (n + 1) 0 * (x ^ 0 * y ^ (n + 1 - 0)) * f 0 (n + 1 - 0) + sumN (fun i => bin n (i + 1) * (x ^ (i + 1) * y ^ (n - i)) * f (i + 1) (n - i)) (n + 1) := by
      rw [sumN_first, sumN_succ (fun i => bin n (i + 1) * (x ^ (i + 1) * y ^ (n - i)) * f (i + 1) (n - i)), bin_far (n := n) (k := n + 1) (by omega), bin_zero, bin_zero, Nat.zero_mul, Nat.zero_mul, Nat.add_zero]
      congr 1
      · simp [Nat.pow_succ]; grind
      · refine sumN_congr fun i hi => ?_
        rw [show n - i = (n - (i + 1)) + 1 by omega, Nat.pow_succ]; grind
    rw [h1, h2]; omega
theorem proN_zero (x y N : Nat) : proN x y N 0 = y ^ N := by simp [proN, sumN, bin_zero]
theorem proN_step (x y N C : Nat) (h : C + 1 ≤ N) : proN x y (N + 1) (C + 1) = x * proN x y N C + y * proN x y N (C + 1) := by
  unfold proN
  rw [sumN_first, ← sumN_mul, sumN_first (fun k => bin N k * (x ^ k * y ^ (N - k))) (C + 1), Nat.mul_add, ← sumN_mul]
  have h1 : sumN (fun i => bin (N + 1) (i + 1) * (x ^ (i + 1) * y ^ (N + 1 - (i + 1)))) (C + 1) =
      sumN (fun k => x * (bin N k * (x ^ k * y ^ (N - k)))) (C + 1) + sumN (fun i => y * (bin N (i + 1) * (x ^ (i + 1) * y ^ (N - (i + 1))))) (C + 1) := by
    rw [← sumN_add]
    refine sumN_congr fun i hi => ?_
    rw [bin_ss, show N + 1 - (i + 1) = (N - (i + 1)) + 1 by omega, show N - i = (N - (i + 1)) + 1 by omega, Nat.pow_succ, Nat.pow_succ]; grind
  rw [h1, bin_zero, bin_zero]
  simp [Nat.pow_succ]; grind
theorem mix_acc (x y : Nat) : ∀ (n N C : Nat), C ≤ N → N ≤ n → mixN x y n (fun d g => accN d g N C) = bin n N * ((x + y) ^ (n - N) * proN x y N C)
  | 0, N, C, hC, hN => by
    obtain rfl : N = 0 := by omega
    obtain rfl : C = 0 := by omega
    simp [mixN, accN, proN, sumN, bin]
  | n + 1, 0, C, hC, _ => by
    obtain rfl : C = 0 := by omega
    have ih := mix_acc x y n 0 0 (Nat.le_refl _) (by omega)
    have h : ∀ d g, accN d g 0 0 = 1 := fun d g => by rw [accN_zero, bin_zero]
    simp only [h] at *
    rw [mixN, ih, bin_zero, bin_zero, proN_zero]
    simp [Nat.pow_succ]; grind
  | n + 1, N + 1, 0, _, hN => by
    have h1 := mix_acc x y n N 0 (by omega) (by omega)
    have hg : ∀ d g, accN d (g + 1) (N + 1) 0 = accN d g (N + 1) 0 + accN d g N 0 := fun d g => accN_good d g N 0 (by omega)
    have hb : ∀ d g, accN (d + 1) g (N + 1) 0 = accN d g (N + 1) 0 := fun d g => accN_bad0 d g (N + 1)
    rw [mixN]
    simp only [hg, hb]
    rw [mixN_add, h1, proN_zero, proN_zero, bin_ss]
    rcases Nat.lt_or_ge n (N + 1) with hlt | hge
    · obtain rfl : N = n := by omega
      have h0 : mixN x y N (fun d g => accN d g (N + 1) 0) = 0 := by
        rw [mixN_congr x y N (f' := fun _ _ => 0) (fun d g e => by rw [accN_zero, bin_far (by omega)])]
        have : ∀ m, mixN x y m (fun _ _ => 0) = 0 := fun m => by
          induction m with
          | zero => rfl
          | succ m ih => rw [mixN, ih]; simp
        exact this N
      rw [h0, bin_far (n := N) (k := N + 1) (by omega)]
      simp [Nat.pow_succ]; grind
    · have h2 := mix_acc x y n (N + 1) 0 (by omega) hge
      rw [h2, proN_zero, show n + 1 - (N + 1) = (n - (N + 1)) + 1 by omega, show n - N = (n - (N + 1)) + 1 by omega, Nat.pow_succ, Nat.pow_succ]; grind
  | n + 1, N + 1, C + 1, hC, hN => by
    have hb : ∀ d g, accN (d + 1) g (N + 1) (C + 1) = accN d g (N + 1) (C + 1) + accN d g N C := fun d g => accN_bad d g N C
    have h1 := mix_acc x y n N C (by omega) (by omega)
    rw [mixN]
    simp only [hb]
    rw [mixN_add, h1, bin_ss]
    have hz : N = n → mixN x y n (fun d g => accN d g (N + 1) (C + 1)) = 0 := fun e => by
      subst e
      rw [mixN_congr x y N (f' := fun _ _ => 0) (fun d g e => by
        have h := accN_monoC d g (N + 1) hC
        rw [accN_all, bin_far (by omega)] at h; omega)]
      have : ∀ m, mixN x y m (fun _ _ => 0) = 0 := fun m => by
        induction m with
        | zero => rfl
        | succ m ih => rw [mixN, ih]; simp
      exact this N
    rcases Nat.lt_or_ge C N with hlt | hge
    · have hg : ∀ d g, accN d (g + 1) (N + 1) (C + 1) = accN d g (N + 1) (C + 1) + accN d g N (C + 1) := fun d g => accN_good d g N (C + 1) hlt
      have h3 := mix_acc x y n N (C + 1) hlt (by omega)
      simp only [hg]
      rw [mixN_add, h3, proN_step x y N C hlt, show n + 1 - (N + 1) = n - N by omega]
      rcases Nat.lt_or_ge n (N + 1) with hlt2 | hge2
      · obtain rfl : N = n := by omega
        rw [hz rfl, bin_far (n := N) (k := N + 1) (by omega)]; grind
      · have h2 := mix_acc x y n (N + 1) (C + 1) hC hge2
        rw [h2, proN_step x y N C hlt, show n - N = (n - (N + 1)) + 1 by omega, Nat.pow_succ]; grind
    · obtain rfl : C = N := by omega
      have hg : ∀ d g, accN d (g + 1) (C + 1) (C + 1) = accN d g (C + 1) (C + 1) + accN d g C C := fun d g => accN_good' d g C
      simp only [hg]
      rw [mixN_add, h1, proN_all, proN_all, show n + 1 - (C + 1) = n - C by omega]
      rcases Nat.lt_or_ge n (C + 1) with hlt2 | hge2
      · obtain rfl : C = n := by omega
        rw [hz rfl, bin_far (n := C) (k := C + 1) (by omega), Nat.pow_succ]; grind
      · have h2 := mix_acc x y n (C + 1) (C + 1) hC hge2
        rw [h2, proN_all, show n - C = (n - (C + 1)) + 1 by omega, Nat.pow_succ, Nat.pow_succ]; grind
end MLab
