/- Numbers as words to the base 10^9: plain facts, with no program in sight. -/
namespace MLab

/-- The base of the words. -/
def W9 : Nat := 1000000000
theorem W9_eq : W9 = 1000000000 := rfl

/-- What the first n words spell, the least one first. -/
def num (d : Nat → Nat) : Nat → Nat
  | 0 => 0
  | n + 1 => num d n + d n * W9 ^ n

theorem num_zero (d : Nat → Nat) : num d 0 = 0 := rfl
theorem num_succ (d : Nat → Nat) (n : Nat) : num d (n + 1) = num d n + d n * W9 ^ n := rfl

/-- All words are less than the base. -/
def Lows (d : Nat → Nat) : Prop := ∀ i, d i < W9
/-- No word beyond n. -/
def Beyond0 (d : Nat → Nat) (n : Nat) : Prop := ∀ i, n ≤ i → d i = 0

theorem W9_pos (n : Nat) : 1 ≤ W9 ^ n := Nat.one_le_pow _ _ (by decide)

theorem num_congr {d e : Nat → Nat} : ∀ {n : Nat}, (∀ i, i < n → d i = e i) → num d n = num e n
  | 0, _ => rfl
  | n + 1, h => by rw [num_succ, num_succ, num_congr (n := n) (fun i hi => h i (by omega)), h n (by omega)]

theorem num_lt {d : Nat → Nat} (h : Lows d) : ∀ n, num d n < W9 ^ n
  | 0 => by simp [num]
  | n + 1 => by
    have h1 := num_lt h n
    have h2 : (d n + 1) * W9 ^ n ≤ W9 * W9 ^ n := Nat.mul_le_mul_right _ (h n)
    rw [num_succ, Nat.pow_succ, Nat.mul_comm (W9 ^ n) W9]
    rw [Nat.add_mul, Nat.one_mul] at h2
    omega

theorem num_ends {d : Nat → Nat} {n : Nat} (h : Beyond0 d n) : ∀ m, n ≤ m → num d m = num d n := by
  intro m hm
  induction m with
  | zero => have : n = 0 := by omega
            subst this; rfl
  | succ m ih =>
    by_cases e : n = m + 1
    · subst e; rfl
    · rw [num_succ, ih (by omega), h m (by omega)]; simp

theorem Beyond0.mono {d : Nat → Nat} {n m : Nat} (h : Beyond0 d n) (hm : n ≤ m) : Beyond0 d m := fun i hi => h i (by omega)

theorem num_le (d : Nat → Nat) {n m : Nat} (h : n ≤ m) : num d n ≤ num d m := by
  induction m with
  | zero => have : n = 0 := by omega
            subst this; exact Nat.le_refl _
  | succ m ih =>
    by_cases e : n = m + 1
    · subst e; exact Nat.le_refl _
    · rw [num_succ]; have := ih (by omega); omega

theorem num_pos {d : Nat → Nat} {n : Nat} (h : d n ≠ 0) : W9 ^ n ≤ num d (n + 1) := by
  rw [num_succ]
  have := Nat.mul_le_mul_right (W9 ^ n) (Nat.one_le_iff_ne_zero.2 h)
  rw [Nat.one_mul] at this
  omega

/-- The highest word differs from 0: n is how many words the number has. -/
def Full (d : Nat → Nat) (n : Nat) : Prop := n = 0 ∨ d (n - 1) ≠ 0

theorem full_le {d : Nat → Nat} {n : Nat} (h : Full d n) (hn : n ≠ 0) : W9 ^ (n - 1) ≤ num d n := by
  rcases h with h | h
  · exact absurd h hn
  · have := num_pos h
    rwa [Nat.sub_add_cancel (by omega)] at this

theorem full_lt {d e : Nat → Nat} {n m : Nat} (hd : Lows d) (he : Full e m) (h : n < m) : num d n < num e m := by
  have h1 := num_lt hd n
  have h2 := full_le he (by omega)
  have h3 : W9 ^ n ≤ W9 ^ (m - 1) := Nat.pow_le_pow_right (by decide) (by omega)
  omega

theorem num_zero_iff {d : Nat → Nat} {n : Nat} (h : Full d n) : num d n = 0 ↔ n = 0 := by
  constructor
  · intro e
    rcases Nat.eq_zero_or_pos n with h0 | h0
    · exact h0
    · have := full_le h (by omega)
      have := W9_pos (n - 1)
      omega
  · rintro rfl; rfl

/-- The words of equal numbers are equal. -/
theorem num_inj {d e : Nat → Nat} (hd : Lows d) (he : Lows e) : ∀ n, num d n = num e n → ∀ i, i < n → d i = e i
  | 0, _, i, hi => absurd hi (by omega)
  | n + 1, h, i, hi => by
    have h1 := num_lt hd n
    have h2 := num_lt he n
    rw [num_succ, num_succ] at h
    have hdn : (num d n + d n * W9 ^ n) / W9 ^ n = d n := by rw [Nat.add_mul_div_right _ _ (W9_pos n), Nat.div_eq_of_lt h1, Nat.zero_add]
    have hen : (num e n + e n * W9 ^ n) / W9 ^ n = e n := by rw [Nat.add_mul_div_right _ _ (W9_pos n), Nat.div_eq_of_lt h2, Nat.zero_add]
    have e1 : d n = e n := by rw [← hdn, ← hen, h]
    rw [e1] at h
    by_cases hin : i = n
    · subst hin; exact e1
    · exact num_inj hd he n (by omega) i (by omega)

/-- Numbers are compared by their highest differing words. -/
theorem num_cmp {d e : Nat → Nat} (hd : Lows d) {k n : Nat} (hk : k < n) (heq : ∀ i, k < i → i < n → d i = e i) (hlt : d k < e k) : num d n < num e n := by
  induction n with
  | zero => omega
  | succ n ih =>
    rw [num_succ, num_succ]
    by_cases e' : k = n
    · subst e'
      have h1 := num_lt hd k
      have h2 : (d k + 1) * W9 ^ k ≤ e k * W9 ^ k := Nat.mul_le_mul_right _ hlt
      rw [Nat.add_mul, Nat.one_mul] at h2
      omega
    · have h1 := ih (by omega) (fun i h1 h2 => heq i h1 (by omega))
      rw [heq n (by omega) (by omega)]
      omega

/-- One word set. -/
def upd (d : Nat → Nat) (i v : Nat) : Nat → Nat := fun j => if j = i then v else d j
theorem upd_same (d : Nat → Nat) (i v : Nat) : upd d i v i = v := by simp [upd]
theorem upd_other (d : Nat → Nat) {i j : Nat} (v : Nat) (h : j ≠ i) : upd d i v j = d j := by simp [upd, h]
theorem Lows.upd {d : Nat → Nat} (h : Lows d) (i : Nat) {v : Nat} (hv : v < W9) : Lows (upd d i v) := fun j => by
  unfold MLab.upd; split
  · exact hv
  · exact h j
theorem num_upd (d : Nat → Nat) (i v : Nat) {n : Nat} (h : n ≤ i) : num (upd d i v) n = num d n := num_congr fun j hj => upd_other d v (by omega)

/-! ### The carry of a sum -/

/-- Where the carry stands: the words up to i + up hold the sum so far, and r is carried on. -/
structure Carried (d y : Nat → Nat) (f : Int) (up i : Nat) (e : Nat → Nat) (r : Int) : Prop where
  lows : Lows e
  same : ∀ j, (j < up ∨ i + up ≤ j) → e j = d j
  sum : (num e (i + up) : Int) + r * ((W9 ^ (i + up) : Nat) : Int) = num d (i + up) + f * num y i * ((W9 ^ up : Nat) : Int)
  low : -999999999 ≤ r
  high : r ≤ 999999999

theorem Carried.start {d y : Nat → Nat} {f : Int} {up : Nat} (h : Lows d) : Carried d y f up 0 d 0 :=
  ⟨h, fun _ _ => rfl, by simp [num], by omega, by omega⟩

theorem Carried.step {d y e : Nat → Nat} {f r r' : Int} {up i s : Nat} (h : Carried d y f up i e r) (hs : s < W9)
    (he : (e (i + up) : Int) + r + f * y i = r' * 1000000000 + s) (h1 : -999999999 ≤ r') (h2 : r' ≤ 999999999) : Carried d y f up (i + 1) (upd e (i + up) s) r' := by
  refine ⟨h.lows.upd _ hs, fun j hj => ?_, ?_, h1, h2⟩
  · rw [upd_other _ _ (by omega)]; exact h.same j (by omega)
  · have hsum := h.sum
    have hd := h.same (i + up) (.inr (by omega))
    rw [show i + 1 + up = (i + up) + 1 by omega, num_succ, num_succ, num_upd _ _ _ (Nat.le_refl _), upd_same, num_succ y i, ← hd]
    have hp : ((W9 ^ (i + up) : Nat) : Int) = ((W9 ^ i : Nat) : Int) * ((W9 ^ up : Nat) : Int) := by rw [Nat.pow_add]; simp
    have hp1 : ((W9 ^ (i + up + 1) : Nat) : Int) = 1000000000 * ((W9 ^ (i + up) : Nat) : Int) := by rw [Nat.pow_succ, Nat.mul_comm]; simp [W9]
    simp only [Int.natCast_add, Int.natCast_mul, hp1]
    have e2 := congrArg (· * ((W9 ^ (i + up) : Nat) : Int)) he
    simp only [Int.add_mul] at e2
    have e3 : f * (y i : Int) * ((W9 ^ (i + up) : Nat) : Int) = f * ((y i : Int) * ((W9 ^ i : Nat) : Int)) * ((W9 ^ up : Nat) : Int) := by
      rw [hp]; simp only [Int.mul_assoc]
    rw [e3] at e2
    clear e3 he hp hp1
    grind

theorem num_tail {d e : Nat → Nat} {k : Nat} (h : ∀ i, k ≤ i → e i = d i) : ∀ n, k ≤ n → num e n + num d k = num d n + num e k := by
  intro n hn
  induction n with
  | zero => have : k = 0 := by omega
            subst this; rfl
  | succ n ih =>
    by_cases e' : k = n + 1
    · subst e'; omega
    · rw [num_succ, num_succ, h n (by omega)]
      have := ih (by omega)
      omega

theorem Carried.total {d y e : Nat → Nat} {f r : Int} {up j n m Z : Nat} (h : Carried d y f up j e r) (hd : Beyond0 d n) (hn : n ≤ 232) (hy : Beyond0 y m) (hj : m ≤ j) (hju : j + up ≤ 232)
    (hZ : (num d n : Int) + f * num y m * ((W9 ^ up : Nat) : Int) = (Z : Int)) : (num e 232 : Int) + r * ((W9 ^ (j + up) : Nat) : Int) = Z := by
  have h1 := h.sum
  have h2 := num_tail (d := d) (e := e) (k := j + up) (fun i hi => h.same i (.inr hi)) 232 hju
  have h3 := num_ends hd 232 hn
  have h4 := num_ends hy j hj
  rw [h4] at h1
  omega

theorem Carried.room {d y e : Nat → Nat} {f r : Int} {up j n m Z : Nat} (h : Carried d y f up j e r) (hd : Beyond0 d n) (hn : n ≤ 232) (hy : Beyond0 y m) (hj : m ≤ j) (hju : j + up ≤ 232)
    (hZ : (num d n : Int) + f * num y m * ((W9 ^ up : Nat) : Int) = (Z : Int)) (hZ2 : Z < W9 ^ 232) (hr : r ≠ 0) : j + up < 232 := by
  refine Nat.lt_of_le_of_ne hju fun e' => ?_
  have h1 := h.total hd hn hy hj hju hZ
  rw [e'] at h1
  have h2 := num_lt h.lows 232
  generalize W9 ^ 232 = P at *
  rcases Int.lt_or_gt_of_ne hr with hr | hr
  · have := Int.mul_le_mul_of_nonneg_right (show r ≤ -1 by omega) (show (0 : Int) ≤ (P : Int) by omega)
    omega
  · have := Int.mul_le_mul_of_nonneg_right (show 1 ≤ r by omega) (show (0 : Int) ≤ (P : Int) by omega)
    omega

theorem num_head (e : Nat → Nat) : ∀ n, num e (n + 1) = e 0 + W9 * num (fun i => e (i + 1)) n
  | 0 => by simp [num]
  | n + 1 => by
    rw [num_succ, num_head e n, num_succ (fun i => e (i + 1)) n, Nat.mul_add, Nat.pow_succ, ← Nat.mul_assoc, ← Nat.mul_assoc, Nat.mul_comm W9 (e (n + 1)), Nat.mul_assoc (e (n + 1)) W9, Nat.mul_comm W9 (W9 ^ n), ← Nat.mul_assoc]
    omega

theorem W9_split {i j : Nat} (h : j ≤ i) : W9 ^ i = W9 ^ (i - j) * W9 ^ j := by rw [← Nat.pow_add, Nat.sub_add_cancel h]

/-- One step of a division on paper. -/
theorem div_step {X low q Y R x P W dig R' : Nat} (h : X = (low + x * P) + q * Y + R * (P * W)) (hd : dig * Y + R' = R * W + x) : X = low + (q + dig * P) * Y + R' * P := by
  have e : (dig * Y + R') * P = (R * W + x) * P := by rw [hd]
  rw [Nat.add_mul, Nat.add_mul] at e
  have h1 : dig * P * Y = dig * Y * P := by rw [Nat.mul_assoc, Nat.mul_comm P Y, ← Nat.mul_assoc]
  have h2 : R * (P * W) = R * W * P := by rw [Nat.mul_comm P W, ← Nat.mul_assoc]
  rw [h, Nat.add_mul, h1, h2]
  omega

theorem div_lt {d Y R : Nat} (h : d * Y + R < Y * W9) : d < W9 := by
  refine Nat.lt_of_not_le fun hle => ?_
  have := Nat.mul_le_mul_right Y hle
  rw [Nat.mul_comm W9 Y] at this
  omega

theorem quo_rem {X q Y R : Nat} (h : X = q * Y + R) (hR : R < Y) : X / Y = q ∧ X % Y = R := by
  subst h
  constructor
  · rw [Nat.mul_comm, Nat.mul_add_div (by omega), Nat.div_eq_of_lt hR, Nat.add_zero]
  · rw [Nat.mul_comm, Nat.mul_add_mod, Nat.mod_eq_of_lt hR]

theorem num_upd_top (d : Nat → Nat) {i n : Nat} (v : Nat) (hi : i < n) (h0 : d i = 0) : num (upd d i v) n = num d n + v * W9 ^ i := by
  induction n with
  | zero => omega
  | succ n ih =>
    rw [num_succ, num_succ]
    by_cases e : i = n
    · subst e; rw [num_upd _ _ _ (Nat.le_refl _), upd_same, h0]; omega
    · rw [ih (by omega), upd_other _ _ (by omega)]; omega

theorem mul_bounds {f : Int} {d : Nat} (h1 : -1000000000 < f) (h2 : f < 1000000000) (hd : d < 1000000000) : f * (d : Int) ≤ 999999998000000001 ∧ -999999998000000001 ≤ f * (d : Int) := by
  have a := Int.mul_le_mul_of_nonneg_right (show f ≤ 999999999 by omega) (show (0 : Int) ≤ (d : Int) by omega)
  have b := Int.mul_le_mul_of_nonneg_right (show -999999999 ≤ f by omega) (show (0 : Int) ≤ (d : Int) by omega)
  omega

end MLab
