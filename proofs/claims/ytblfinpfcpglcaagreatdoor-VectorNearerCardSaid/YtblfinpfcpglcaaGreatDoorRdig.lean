/- The digits on paper of the reference: plain facts. -/
import Derived.Test.YtblfinpfcpglcaaGreatDoorDec
namespace MLab
open Go.Lib

theorem val_drop_zero {l : List UInt8} {k : Nat} (h : l[k]? = some 48) : val (l.drop (k + 1)) = val (l.drop k) := by
  have hk : k < l.length := by
    rcases Nat.lt_or_ge k l.length with h1 | h1
    · exact h1
    · rw [List.getElem?_eq_none h1] at h; cases h
  rw [List.drop_eq_getElem_cons hk, val_cons]
  have : l[k] = 48 := by rw [List.getElem?_eq_getElem hk] at h; simpa using h
  rw [this]; simp

theorem val_cons_zero (t : List UInt8) : val (48 :: t) = val t := by rw [val_cons]; simp

theorem val_zeros (k : Nat) (t : List UInt8) : val (List.replicate k 48 ++ t) = val t := by
  induction k with
  | zero => rfl
  | succ k ih => rw [List.replicate_succ, List.cons_append, val_cons_zero, ih]

theorem dig_zeros (k : Nat) : Dig (List.replicate k 48) := fun b hb => by
  rw [List.eq_of_mem_replicate hb]; decide

/-- Digits with zeros in front. -/
def wideL (l : List UInt8) (n : Nat) : List UInt8 := List.replicate (n - l.length) 48 ++ l
theorem wideL_length {l : List UInt8} {n : Nat} (h : l.length ≤ n) : (wideL l n).length = n := by
  rw [wideL, List.length_append, List.length_replicate]; omega
theorem wideL_dig {l : List UInt8} (h : Dig l) (n : Nat) : Dig (wideL l n) := (dig_zeros _).append h
theorem val_wideL (l : List UInt8) (n : Nat) : val (wideL l n) = val l := val_zeros _ _

theorem val_drop {l : List UInt8} {k : Nat} (h : k < l.length) : val (l.drop k) = (l[k].toNat - 48) * 10 ^ (l.length - (k + 1)) + val (l.drop (k + 1)) := by
  rw [List.drop_eq_getElem_cons h, val_cons, List.length_drop]

/-- The digit number i of digits. -/
def dg (l : List UInt8) (i : Nat) : Nat := (l.getD i 48).toNat - 48
theorem dg_lt {l : List UInt8} (h : Dig l) (i : Nat) : dg l i ≤ 9 := by
  unfold dg
  by_cases hi : i < l.length
  · have := h l[i] (List.getElem_mem hi)
    rw [show l.getD i 48 = l[i] from by rw [List.getD_eq_getElem?_getD, List.getElem?_eq_getElem hi]; rfl]
    omega
  · rw [show l.getD i 48 = 48 from by rw [List.getD_eq_getElem?_getD, List.getElem?_eq_none (by omega)]; rfl]
    decide
theorem dg_at {l : List UInt8} {i : Nat} (h : i < l.length) : dg l i = l[i].toNat - 48 := by
  unfold dg; rw [show l.getD i 48 = l[i] from by rw [List.getD_eq_getElem?_getD, List.getElem?_eq_getElem h]; rfl]

/-- Digits from number i up to n, as a number: the digits are d i, .., d (n - 1). -/
def dval (d : Nat → Nat) : Nat → Nat → Nat
  | _, 0 => 0
  | i, k + 1 => d i * 10 ^ k + dval d (i + 1) k
theorem dval_drop {l : List UInt8} : ∀ (k i : Nat), i + k = l.length → dval (dg l) i k = val (l.drop i)
  | 0, i, h => by rw [List.drop_of_length_le (by omega)]; rfl
  | k + 1, i, h => by
    rw [dval, dval_drop k (i + 1) (by omega), val_drop (show i < l.length by omega), dg_at (show i < l.length by omega), show l.length - (i + 1) = k by omega]
theorem dval_congr {d e : Nat → Nat} : ∀ (k i : Nat), (∀ j, i ≤ j → j < i + k → d j = e j) → dval d i k = dval e i k
  | 0, _, _ => rfl
  | k + 1, i, h => by rw [dval, dval, h i (by omega) (by omega), dval_congr k (i + 1) (fun j h1 h2 => h j (by omega) (by omega))]

/-- A row of digit bytes. -/
def drow (d : Nat → Nat) (n : Nat) : List UInt8 := (List.range n).map fun i => UInt8.ofNat (48 + d i)
theorem drow_length (d : Nat → Nat) (n : Nat) : (drow d n).length = n := by simp [drow]
theorem drow_at (d : Nat → Nat) {n i : Nat} (h : i < n) : (drow d n)[i]? = some (UInt8.ofNat (48 + d i)) := by
  simp [drow, List.getElem?_map, List.getElem?_range h]
theorem drow_dig {d : Nat → Nat} {n : Nat} (h : ∀ i, i < n → d i ≤ 9) : Dig (drow d n) := fun b hb => by
  obtain ⟨i, hi, rfl⟩ := List.mem_map.1 hb
  have := h i (List.mem_range.1 hi)
  rw [ofNat_toNat (by omega)]; omega
theorem dg_drow {d : Nat → Nat} {n i : Nat} (hi : i < n) (h : d i ≤ 9) : dg (drow d n) i = d i := by
  rw [dg_at (by rw [drow_length]; exact hi)]
  have := drow_at d hi
  rw [List.getElem?_eq_getElem (by rw [drow_length]; exact hi)] at this
  rw [Option.some.inj this, ofNat_toNat (by omega)]; omega
theorem val_drow {d : Nat → Nat} {n : Nat} (h : ∀ i, i < n → d i ≤ 9) : val (drow d n) = dval d 0 n := by
  have := dval_drop (l := drow d n) n 0 (by rw [drow_length]; omega)
  rw [List.drop_zero] at this
  rw [← this]
  exact dval_congr n 0 fun j _ hj => dg_drow (by omega) (h j (by omega))

/-- Less, for the texts of numbers. -/
theorem dec_less (m n : Nat) : ((decDigits m).length < (decDigits n).length → m < n) ∧ ((decDigits n).length < (decDigits m).length → n < m) := by
  constructor
  · intro h
    have h1 : (decDigits m).length ≤ (decDigits m).length := Nat.le_refl _
    have h2 := (dec_length_le (n := m) (dec_length_pos m)).1 h1
    exact Nat.lt_of_lt_of_le h2 (pow_le_of_length h (dec_length_pos m))
  · intro h
    have h1 : (decDigits n).length ≤ (decDigits n).length := Nat.le_refl _
    have h2 := (dec_length_le (n := n) (dec_length_pos n)).1 h1
    exact Nat.lt_of_lt_of_le h2 (pow_le_of_length h (dec_length_pos n))

theorem dec_len_mono {m n : Nat} (h : m ≤ n) : (decDigits m).length ≤ (decDigits n).length := by
  rcases Nat.lt_or_ge (decDigits n).length (decDigits m).length with h1 | h1
  · have := (dec_less m n).2 h1; omega
  · exact h1

end MLab
