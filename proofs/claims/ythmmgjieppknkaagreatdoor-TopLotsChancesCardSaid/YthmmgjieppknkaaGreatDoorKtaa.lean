/- Contracts and plain laws that the statements of this seat share (part Ktaa). -/
import Derived.Lib.ItoaNum
import Derived.Lib.ItoaLen
import Derived.Lib.Atoi
import Derived.Lib.AtoiAll
import Derived.Lib.Strings
import Derived.Lib.SlTrimSet
namespace MLab
open Go.Lib
def Dig (l : List UInt8) : Prop := ∀ b ∈ l, 48 ≤ b.toNat ∧ b.toNat ≤ 57
def val (l : List UInt8) : Nat := l.foldl (fun a b => a * 10 + (b.toNat - 48)) 0
theorem foldl_val (l : List UInt8) (a : Nat) : l.foldl (fun a b => a * 10 + (b.toNat - 48)) a = a * 10 ^ l.length + val l := by
  induction l generalizing a with
  | nil => simp [val]
  | cons b t ih =>
    simp only [List.foldl_cons, List.length_cons, val]
    rw [ih, ih (0 * 10 + (b.toNat - 48)), Nat.pow_succ]
    rw [Nat.zero_mul, Nat.zero_add, Nat.add_mul, Nat.mul_assoc, Nat.mul_comm 10 (10 ^ t.length)]
    omega
theorem val_nil : val [] = 0 := rfl
theorem val_append (a b : List UInt8) : val (a ++ b) = val a * 10 ^ b.length + val b := by
  show (a ++ b).foldl _ 0 = _
  rw [List.foldl_append, foldl_val b]; rfl
theorem val_snoc (a : List UInt8) (b : UInt8) : val (a ++ [b]) = val a * 10 + (b.toNat - 48) := by rw [val_append]; simp [val]
theorem val_cons (b : UInt8) (t : List UInt8) : val (b :: t) = (b.toNat - 48) * 10 ^ t.length + val t := by
  rw [show b :: t = [b] ++ t from rfl, val_append]; simp [val]
theorem Dig.nil : Dig [] := fun _ h => by cases h
theorem Dig.append {a b : List UInt8} (ha : Dig a) (hb : Dig b) : Dig (a ++ b) := fun x hx => by
  rcases List.mem_append.1 hx with h | h
  · exact ha x h
  · exact hb x h
theorem Dig.left {a b : List UInt8} (h : Dig (a ++ b)) : Dig a := fun x hx => h x (List.mem_append.2 (.inl hx))
theorem Dig.right {a b : List UInt8} (h : Dig (a ++ b)) : Dig b := fun x hx => h x (List.mem_append.2 (.inr hx))
theorem Dig.one {b : UInt8} (h1 : 48 ≤ b.toNat) (h2 : b.toNat ≤ 57) : Dig [b] := fun x hx => by
  rw [List.mem_singleton] at hx; subst hx; exact ⟨h1, h2⟩
theorem Dig.head {b : UInt8} {t : List UInt8} (h : Dig (b :: t)) : 48 ≤ b.toNat ∧ b.toNat ≤ 57 := h b (by simp)
theorem Dig.tail {b : UInt8} {t : List UInt8} (h : Dig (b :: t)) : Dig t := fun x hx => h x (List.mem_cons_of_mem _ hx)
theorem Dig.drop {l : List UInt8} (h : Dig l) (k : Nat) : Dig (l.drop k) := fun x hx => h x (List.mem_of_mem_drop hx)
theorem Dig.take {l : List UInt8} (h : Dig l) (k : Nat) : Dig (l.take k) := fun x hx => h x (List.mem_of_mem_take hx)
theorem snoc_induction {P : List UInt8 → Prop} (h0 : P []) (h1 : ∀ l b, P l → P (l ++ [b])) (l : List UInt8) : P l := by
  have h : ∀ l : List UInt8, P l.reverse := by
    intro l
    induction l with
    | nil => exact h0
    | cons b t ih => rw [List.reverse_cons]; exact h1 _ _ ih
  have := h l.reverse
  rwa [List.reverse_reverse] at this
theorem val_lt {l : List UInt8} (h : Dig l) : val l < 10 ^ l.length := by
  induction l using snoc_induction with
  | h0 => simp [val]
  | h1 l b ih =>
    have hb := h b (by simp)
    have := ih h.left
    rw [val_snoc, List.length_append, List.length_singleton, Nat.pow_succ]
    omega
theorem ofNat_toNat {d : Nat} (h : d < 10) : (UInt8.ofNat (48 + d)).toNat = 48 + d := by
  rw [UInt8.toNat_ofNat']; exact Nat.mod_eq_of_lt (by omega)
theorem dig_ofNat {d : Nat} (h : d < 10) : Dig [UInt8.ofNat (48 + d)] := Dig.one (by rw [ofNat_toNat h]; omega) (by rw [ofNat_toNat h]; omega)
theorem decDigits_lt {n : Nat} (h : n < 10) : decDigits n = [UInt8.ofNat (48 + n)] := by rw [decDigits, dif_pos h]
theorem decDigits_ge {n : Nat} (h : ¬ n < 10) : decDigits n = decDigits (n / 10) ++ [UInt8.ofNat (48 + n % 10)] := by rw [decDigits, dif_neg h]
theorem dec_dig (n : Nat) : Dig (decDigits n) := by
  induction n using Nat.strongRecOn with
  | _ n ih =>
    by_cases h : n < 10
    · rw [decDigits_lt h]; exact dig_ofNat h
    · rw [decDigits_ge h]; exact (ih (n / 10) (by omega)).append (dig_ofNat (by omega))
theorem val_dec (n : Nat) : val (decDigits n) = n := by
  induction n using Nat.strongRecOn with
  | _ n ih =>
    by_cases h : n < 10
    · rw [decDigits_lt h, show [UInt8.ofNat (48 + n)] = [] ++ [UInt8.ofNat (48 + n)] from rfl, val_snoc, ofNat_toNat h]; simp [val]
    · rw [decDigits_ge h, val_snoc, ih (n / 10) (by omega), ofNat_toNat (by omega)]; omega
theorem dec_ne (n : Nat) : decDigits n ≠ [] := by
  intro h
  have := decDigits_length n
  have := nDigits_pos n
  rw [h] at *
  simp at *
  omega
theorem dec_length_pos (n : Nat) : 1 ≤ (decDigits n).length := by rw [decDigits_length]; exact nDigits_pos n
theorem dec_val {l : List UInt8} (h : Dig l) (hne : l ≠ []) (hz : l.head hne ≠ 48 ∨ l.length = 1) : decDigits (val l) = l := by
  have key : ∀ l : List UInt8, Dig l → ∀ hne : l ≠ [], l.head hne ≠ 48 → decDigits (val l) = l ∧ 1 ≤ val l := by
    intro l
    induction l using snoc_induction with
    | h0 => intro _ hne; exact absurd rfl hne
    | h1 l b ih =>
      intro h hne hz
      have hb := h b (by simp)
      have hbb : UInt8.ofNat (48 + (b.toNat - 48)) = b := by rw [show 48 + (b.toNat - 48) = b.toNat by omega]; exact UInt8.ofNat_toNat
      by_cases hl : l = []
      · subst hl
        have hz' : b ≠ 48 := by simpa using hz
        have : b.toNat ≠ 48 := fun e => hz' (UInt8.toNat_inj.1 (by simpa using e))
        rw [val_snoc, val_nil, decDigits_lt (by omega)]
        simp only [Nat.zero_mul, Nat.zero_add, List.nil_append]
        rw [hbb]
        exact ⟨rfl, by omega⟩
      · obtain ⟨e, hv⟩ := ih h.left hl (by rw [List.head_append_of_ne_nil hl] at hz; exact hz)
        rw [val_snoc]
        refine ⟨?_, by omega⟩
        rw [decDigits_ge (by omega), show (val l * 10 + (b.toNat - 48)) / 10 = val l by omega, e, show (val l * 10 + (b.toNat - 48)) % 10 = b.toNat - 48 by omega, hbb]
  rcases hz with hz | hz
  · exact (key l h hne hz).1
  · match l, hz with
    | [b], _ =>
      have hb := h b (by simp)
      rw [show [b] = [] ++ [b] from rfl, val_snoc, val_nil, decDigits_lt (by omega)]
      simp only [Nat.zero_mul, Nat.zero_add, List.nil_append]
      rw [show 48 + (b.toNat - 48) = b.toNat by omega, UInt8.ofNat_toNat]
theorem dec_inj {m n : Nat} (h : decDigits m = decDigits n) : m = n := by rw [← val_dec m, h, val_dec]
theorem dec_zero : decDigits 0 = [48] := by rw [decDigits_lt (by omega)]; rfl
theorem dec_one : decDigits 1 = [49] := by rw [decDigits_lt (by omega)]; rfl
theorem dec_head {n : Nat} (h : n ≠ 0) : ∀ hne : decDigits n ≠ [], (decDigits n).head hne ≠ 48 := by
  induction n using Nat.strongRecOn with
  | _ n ih =>
    intro hne
    by_cases hn : n < 10
    · simp only [decDigits_lt hn, List.head_cons]
      intro e
      have := congrArg UInt8.toNat e
      rw [ofNat_toNat hn] at this
      simp at this
      omega
    · simp only [decDigits_ge hn]
      rw [List.head_append_of_ne_nil (dec_ne _)]
      exact ih (n / 10) (by omega) (by omega) (dec_ne _)
theorem dec_length_le {n k : Nat} (hk : 1 ≤ k) : (decDigits n).length ≤ k ↔ n < 10 ^ k := by
  rw [decDigits_length]
  constructor
  · intro h
    exact Nat.lt_of_lt_of_le (lt_pow_nDigits n) (Nat.pow_le_pow_right (by omega) h)
  · intro h
    by_cases h10 : n < 10
    · rw [nDigits_small h10]; exact hk
    · refine Nat.le_of_not_lt fun hlt => ?_
      have e := nDigits_unique (nDigits n - 1) n ?_ ?_
      · obtain ⟨m, hm⟩ : ∃ m, nDigits n = m + 1 := ⟨nDigits n - 1, by omega⟩
        have hv := val_dec n
        have hp : 10 ^ (nDigits n - 1) ≤ n := by
          have hl := decDigits_length n
          match hd : decDigits n with
          | [] => exact absurd hd (dec_ne n)
          | b :: t =>
            have hb := dec_head (n := n) (by omega) (dec_ne n)
            have hdg := dec_dig n
            rw [hd] at hv hl hdg
            simp only [hd, List.head_cons] at hb
            have hb48 : b.toNat ≠ 48 := fun e => hb (UInt8.toNat_inj.1 (by simpa using e))
            rw [val_cons] at hv
            have := hdg.head
            have h1 : 1 ≤ b.toNat - 48 := by omega
            have h2 := Nat.mul_le_mul_right (10 ^ t.length) h1
            simp only [List.length_cons] at hl
            rw [← hl, Nat.add_sub_cancel]
            omega
        have : 10 ^ k ≤ 10 ^ (nDigits n - 1) := Nat.pow_le_pow_right (by omega) (by omega)
        omega
      · have hl := decDigits_length n
        match hd : decDigits n with
        | [] => exact absurd hd (dec_ne n)
        | b :: t =>
          have hv := val_dec n
          have hb := dec_head (n := n) (by omega) (dec_ne n)
          have hdg := dec_dig n
          rw [hd] at hv hl hdg
          simp only [hd, List.head_cons] at hb
          have hb48 : b.toNat ≠ 48 := fun e => hb (UInt8.toNat_inj.1 (by simpa using e))
          rw [val_cons] at hv
          have := hdg.head
          have h1 : 1 ≤ b.toNat - 48 := by omega
          have h2 := Nat.mul_le_mul_right (10 ^ t.length) h1
          simp only [List.length_cons] at hl
          rw [← hl, Nat.add_sub_cancel]
          omega
      · rw [Nat.sub_add_cancel (nDigits_pos n)]; exact lt_pow_nDigits n
theorem pow_le_of_length {n k : Nat} (h : k < (decDigits n).length) (hk : 1 ≤ k) : 10 ^ k ≤ n := by
  refine Nat.le_of_not_lt fun hlt => ?_
  have := (dec_length_le hk).2 hlt
  omega
def pad : Nat → Nat → List UInt8
  | 0, _ => []
  | k + 1, r => pad k (r / 10) ++ [UInt8.ofNat (48 + r % 10)]
theorem pad_length : ∀ k r, (pad k r).length = k
  | 0, _ => rfl
  | k + 1, r => by simp [pad, pad_length k]
theorem dec_pad : ∀ (k q r : Nat), 1 ≤ q → r < 10 ^ k → decDigits (q * 10 ^ k + r) = decDigits q ++ pad k r
  | 0, q, r, _, h => by
    have : r = 0 := by simpa using h
    subst this
    simp [pad]
  | k + 1, q, r, hq, h => by
    rw [Nat.pow_succ] at h ⊢
    have hp : 1 ≤ 10 ^ k := Nat.one_le_pow _ _ (by decide)
    have hqk : 1 ≤ q * 10 ^ k := by have := Nat.mul_le_mul hq hp; omega
    have e : q * (10 ^ k * 10) = q * 10 ^ k * 10 := by rw [Nat.mul_assoc]
    rw [e, decDigits_ge (by omega), show (q * 10 ^ k * 10 + r) / 10 = q * 10 ^ k + r / 10 by omega, dec_pad k q (r / 10) hq (by omega)]
    rw [show (q * 10 ^ k * 10 + r) % 10 = r % 10 by omega]
    simp [pad, List.append_assoc]
theorem pad_zero : ∀ k, pad k 0 = List.replicate k 48
  | 0 => rfl
  | k + 1 => by
    rw [pad, Nat.zero_div, pad_zero k, List.replicate_succ']
    rfl
theorem pad_dec : ∀ (k r : Nat), r < 10 ^ k → (decDigits r).length ≤ k → pad k r = List.replicate (k - (decDigits r).length) 48 ++ decDigits r
  | 0, r, _, h2 => by have := dec_length_pos r; omega
  | k + 1, r, h, h2 => by
    by_cases hr : r < 10
    · rw [pad, decDigits_lt hr, Nat.div_eq_of_lt hr, pad_zero, Nat.mod_eq_of_lt hr]
      simp
    · rw [decDigits_ge hr] at h2 ⊢
      rw [List.length_append, List.length_singleton] at h2 ⊢
      rw [Nat.pow_succ] at h
      rw [pad, pad_dec k (r / 10) (by omega) (by omega), Nat.add_sub_add_right]
      simp
abbrev T (z : Int) : List UInt8 := itoa z
theorem T_nonneg {z : Int} (h : 0 ≤ z) : T z = decDigits z.toNat := by rw [T, itoa, if_neg (by omega)]
theorem T_neg {z : Int} (h : z < 0) : T z = 45 :: decDigits z.natAbs := by rw [T, itoa, if_pos h]
theorem T_nat (n : Nat) : T (n : Int) = decDigits n := by rw [T_nonneg (by omega)]; simp
theorem T_zero : T 0 = [48] := by rw [T_nonneg (by omega)]; exact dec_zero
theorem T_one : T 1 = [49] := by rw [T_nonneg (by omega)]; exact dec_one
def mag (l : List UInt8) : List UInt8 := match l with
  | 45 :: t => t
  | l => l
theorem dec_head_dig (n : Nat) : ∃ b t, decDigits n = b :: t ∧ 48 ≤ b.toNat ∧ b.toNat ≤ 57 := by
  match hd : decDigits n with
  | [] => exact absurd hd (dec_ne n)
  | b :: t => have h := dec_dig n; rw [hd] at h; exact ⟨b, t, rfl, h.head.1, h.head.2⟩
theorem mag_dec (n : Nat) : mag (decDigits n) = decDigits n := by
  obtain ⟨b, t, e, h1, h2⟩ := dec_head_dig n
  rw [e]
  unfold mag
  split
  · rename_i t' heq
    injection heq with hb _
    rw [hb] at h1
    simp at h1
  · rfl
theorem mag_T (z : Int) : mag (T z) = decDigits z.natAbs := by
  by_cases h : z < 0
  · rw [T_neg h]; rfl
  · rw [T_nonneg (by omega), mag_dec]; congr 1; omega
theorem T_ne (z : Int) : T z ≠ [] := by
  by_cases h : z < 0
  · rw [T_neg h]; simp
  · rw [T_nonneg (by omega)]; exact dec_ne _
theorem T_head_neg {z : Int} : (T z).head? = some 45 ↔ z < 0 := by
  by_cases h : z < 0
  · rw [T_neg h]; simp [h]
  · rw [T_nonneg (by omega)]
    obtain ⟨b, t, e, h1, _⟩ := dec_head_dig z.toNat
    rw [e]
    simp only [List.head?_cons, Option.some.injEq, h, iff_false]
    rintro rfl
    simp at h1
theorem T_inj {x y : Int} (h : T x = T y) : x = y := by
  have hm : x.natAbs = y.natAbs := dec_inj (by rw [← mag_T, ← mag_T, h])
  have hx := T_head_neg (z := x)
  have hy := T_head_neg (z := y)
  rw [h] at hx
  have : x < 0 ↔ y < 0 := hx.symm.trans hy
  omega
theorem T_length (z : Int) : (T z).length = (if z < 0 then 1 else 0) + (decDigits z.natAbs).length := by
  by_cases h : z < 0
  · rw [T_neg h, if_pos h]; simp; omega
  · rw [T_nonneg (by omega), if_neg h, show z.toNat = z.natAbs by omega]; omega
theorem decFrom_val : ∀ (l : List UInt8) (acc : Nat), Dig l → decFrom acc l = some (acc * 10 ^ l.length + val l)
  | [], acc, _ => by simp [decFrom, val]
  | b :: t, acc, h => by
    have hb := h.head
    rw [decFrom, digitVal, if_pos hb]
    simp only
    rw [decFrom_val t _ h.tail, val_cons, List.length_cons, Nat.pow_succ]
    congr 1
    rw [Nat.add_mul, Nat.mul_assoc, Nat.mul_comm 10 (10 ^ t.length)]
    omega
theorem atoi_dig {l : List UInt8} (h : Dig l) (hne : l ≠ []) : atoi l = some (val l : Int) := by
  match l, hne with
  | b :: t, _ =>
    have hb := h.head
    have h45 : (b == 45) = false := by
      rw [beq_eq_false_iff_ne]; rintro rfl; simp at hb
    have h43 : (b == 43) = false := by
      rw [beq_eq_false_iff_ne]; rintro rfl; simp at hb
    rw [atoi]
    simp only [h45, h43]
    rw [if_neg (by simp), if_neg (by simp), decNat]
    simp only [List.isEmpty_cons]
    rw [if_neg (by simp), decFrom_val _ _ h]
    simp
theorem atoi_T (z : Int) : atoi (T z) = some z := by
  by_cases h : z < 0
  · rw [T_neg h, atoi]
    rw [if_pos (by simp), decNat]
    have : (decDigits z.natAbs).isEmpty = false := by
      rw [List.isEmpty_eq_false_iff]; exact dec_ne _
    rw [this, if_neg (by simp), decFrom_val _ _ (dec_dig _), val_dec]
    simp
    omega
  · rw [T_nonneg (by omega), atoi_dig (dec_dig _) (dec_ne _), val_dec]
    congr 1
    omega
theorem T_of_canon {l : List UInt8} (hd : Dig (mag l)) (hne : mag l ≠ []) (hz : (mag l).head hne ≠ 48 ∨ l = [48]) : ∃ z, T z = l ∧ z.natAbs = val (mag l) := by
  have hm : decDigits (val (mag l)) = mag l := by
    rcases hz with hz | hz
    · exact dec_val hd hne (.inl hz)
    · exact dec_val hd hne (.inr (by rw [hz]; rfl))
  unfold mag at hm hd hne hz ⊢
  split at hm
  · rename_i t
    have hz0 : val t ≠ 0 := by
      rcases hz with hz | hz
      · intro e
        rw [e, dec_zero] at hm
        subst hm
        exact hz rfl
      · injection hz with h _
        simp at h
    refine ⟨-(val t : Int), ?_, by simp⟩
    rw [T_neg (by omega)]
    congr 1
    simpa using hm
  · refine ⟨(val l : Int), ?_, by simp⟩
    rw [T_nat]; exact hm
def digB (l : List UInt8) : Bool := l.all fun b => decide (48 ≤ b.toNat ∧ b.toNat ≤ 57)
theorem digB_iff {l : List UInt8} : digB l = true ↔ Dig l := by simp [digB, Dig]
def chk (l : List UInt8) : Int :=
  if mag l = [] ∨ digB (mag l) = false then 3 else if (mag l).head? = some 48 ∧ l ≠ [48] then 3 else if 1024 < (mag l).length then 11 else 0
def Big : Nat := 10 ^ 1024
theorem big_len {n : Nat} : (decDigits n).length ≤ 1024 ↔ n < Big := by
  have h := dec_length_le (n := n) (k := 1024) (by decide)
  unfold Big
  exact h
theorem chk_T (z : Int) : chk (T z) = if z.natAbs < Big then 0 else 11 := by
  have hm := mag_T z
  have hd : digB (mag (T z)) = true := by rw [hm]; exact digB_iff.2 (dec_dig _)
  have hne : mag (T z) ≠ [] := by rw [hm]; exact dec_ne _
  have hz : ¬ ((mag (T z)).head? = some 48 ∧ T z ≠ [48]) := by
    rw [hm]
    rintro ⟨h1, h2⟩
    by_cases h0 : z.natAbs = 0
    · have : z = 0 := by omega
      subst this
      exact h2 T_zero
    · have := dec_head h0 (dec_ne _)
      rw [List.head?_eq_some_head (dec_ne _)] at h1
      injection h1 with h1
      exact this h1
  rw [chk, if_neg (by simp [hne, hd]), if_neg hz, hm]
  have hl := dec_length_le (n := z.natAbs) (k := 1024) (by omega)
  unfold Big
  by_cases h : z.natAbs < 10 ^ 1024
  · rw [if_pos h, if_neg (by have := hl.2 h; omega)]
  · rw [if_neg h, if_pos (Nat.lt_of_not_le fun h' => h (hl.1 h'))]
theorem chk_canon {l : List UInt8} (h : chk l ≠ 3) : ∃ z, T z = l := by
  unfold chk at h
  by_cases h1 : mag l = [] ∨ digB (mag l) = false
  · rw [if_pos h1] at h; exact absurd rfl h
  · rw [if_neg h1] at h
    by_cases h2 : (mag l).head? = some 48 ∧ l ≠ [48]
    · rw [if_pos h2] at h; exact absurd rfl h
    · have hne : mag l ≠ [] := fun e => h1 (.inl e)
      have hd : Dig (mag l) := digB_iff.1 (by cases hh : digB (mag l) <;> simp_all)
      obtain ⟨z, hz, _⟩ := T_of_canon hd hne (by
        by_cases h3 : l = [48]
        · exact .inr h3
        · refine .inl fun e => h2 ⟨?_, h3⟩
          rw [List.head?_eq_some_head hne, e])
      exact ⟨z, hz⟩
theorem chk_vals (l : List UInt8) : chk l = 0 ∨ chk l = 3 ∨ chk l = 11 := by
  unfold chk; split
  · simp
  · split
    · simp
    · split <;> simp
theorem chk_zero {l : List UInt8} (h : chk l = 0) : ∃ z, T z = l ∧ z.natAbs < Big := by
  obtain ⟨z, rfl⟩ := chk_canon (l := l) (by omega)
  refine ⟨z, rfl, ?_⟩
  rw [chk_T] at h
  by_cases hz : z.natAbs < Big
  · exact hz
  · rw [if_neg hz] at h; omega
theorem trimPrefix_mag (l : List UInt8) : trimPrefix l [45] = mag l := by
  unfold trimPrefix hasPrefix mag
  cases l with
  | nil => rfl
  | cons b t =>
    by_cases hb : b = 45
    · subst hb; simp
    · have : ¬ (45 : UInt8) = b := fun e => hb e.symm
      simp [this]
      split
      · rename_i heq; injection heq with h1 _; exact absurd h1 hb
      · rfl
theorem trimS_digits {m : List UInt8} : trimS m [48, 49, 50, 51, 52, 53, 54, 55, 56, 57] = [] ↔ digB m = true := by
  have hc : ∀ b : UInt8, ([48, 49, 50, 51, 52, 53, 54, 55, 56, 57] : List UInt8).contains b = decide (48 ≤ b.toNat ∧ b.toNat ≤ 57) := by
    intro b
    rw [Bool.eq_iff_iff]
    simp only [List.contains_iff_mem, List.mem_cons, List.not_mem_nil, or_false, decide_eq_true_eq]
    constructor
    · rintro (rfl | rfl | rfl | rfl | rfl | rfl | rfl | rfl | rfl | rfl) <;> simp
    · rintro ⟨h1, h2⟩
      have : ∀ k : UInt8, b.toNat = k.toNat → b = k := fun k h => UInt8.toNat_inj.1 h
      have hcase : b.toNat = 48 ∨ b.toNat = 49 ∨ b.toNat = 50 ∨ b.toNat = 51 ∨ b.toNat = 52 ∨ b.toNat = 53 ∨ b.toNat = 54 ∨ b.toNat = 55 ∨ b.toNat = 56 ∨ b.toNat = 57 := by omega
      rcases hcase with h | h | h | h | h | h | h | h | h | h
      · exact .inl (this 48 h)
      · exact .inr (.inl (this 49 h))
      · exact .inr (.inr (.inl (this 50 h)))
      · exact .inr (.inr (.inr (.inl (this 51 h))))
      · exact .inr (.inr (.inr (.inr (.inl (this 52 h)))))
      · exact .inr (.inr (.inr (.inr (.inr (.inl (this 53 h))))))
      · exact .inr (.inr (.inr (.inr (.inr (.inr (.inl (this 54 h)))))))
      · exact .inr (.inr (.inr (.inr (.inr (.inr (.inr (.inl (this 55 h))))))))
      · exact .inr (.inr (.inr (.inr (.inr (.inr (.inr (.inr (.inl (this 56 h)))))))))
      · exact .inr (.inr (.inr (.inr (.inr (.inr (.inr (.inr (.inr (this 57 h)))))))))
  have nilof : ∀ (p : UInt8 → Bool) (l : List UInt8), l.dropWhile p = [] ↔ ∀ b ∈ l, p b = true := by
    intro p l
    induction l with
    | nil => simp
    | cons a t ih =>
      rw [List.dropWhile_cons]
      by_cases ha : p a = true
      · rw [if_pos ha, ih]; simp [ha]
      · rw [if_neg ha]; simp [ha]
  unfold trimS trimLeftS trimRightS
  rw [nilof]
  constructor
  · intro h
    rw [digB, List.all_eq_true]
    intro b hb
    rw [← hc]
    by_cases hcb : ([48, 49, 50, 51, 52, 53, 54, 55, 56, 57] : List UInt8).contains b = true
    · exact hcb
    · refine h b ?_
      rw [List.mem_reverse]
      have : ∀ (l : List UInt8), b ∈ l → b ∈ l.dropWhile (([48, 49, 50, 51, 52, 53, 54, 55, 56, 57] : List UInt8).contains ·) := by
        intro l
        induction l with
        | nil => intro h; cases h
        | cons a t ih =>
          intro hm
          rw [List.dropWhile_cons]
          split
          · rename_i ha
            rcases List.mem_cons.1 hm with rfl | hm
            · exact absurd ha hcb
            · exact ih hm
          · exact hm
      exact this _ (List.mem_reverse.2 hb)
  · intro h b hb
    rw [hc]
    rw [digB, List.all_eq_true] at h
    refine h b ?_
    have := List.mem_reverse.1 hb
    exact List.mem_reverse.1 ((List.dropWhile_sublist _).mem this)
end MLab
namespace MLab
def W9 : Nat := 1000000000
theorem W9_eq : W9 = 1000000000 := rfl
def num (d : Nat → Nat) : Nat → Nat
  | 0 => 0
  | n + 1 => num d n + d n * W9 ^ n
theorem num_zero (d : Nat → Nat) : num d 0 = 0 := rfl
theorem num_succ (d : Nat → Nat) (n : Nat) : num d (n + 1) = num d n + d n * W9 ^ n := rfl
def Lows (d : Nat → Nat) : Prop := ∀ i, d i < W9
def Beyond0 (d : Nat → Nat) (n : Nat) : Prop := ∀ i, n ≤ i → d i = 0
theorem W9_pos (n : Nat) : 1 ≤ W9 ^ n := Nat.one_le_pow _ _ (by decide)
theorem num_congr {d e : Nat → Nat} : ∀ {n : Nat}, (∀ i, i < n → d i = e i) → num d n = num e n
  | 0, _ => rfl
  | n + 1, h => by rw [num_succ, num_succ, num_congr (n := n) (fun i hi => h i (by omega)), h n (by omega)]
theorem num_lt {d : Nat → Nat} (h : Lows d) : ∀ n, num d n < W9 ^ n
  | 0 => by simp [num]
  | n + 1 => by
    have h1 := num_lt h n
    have h2 : (d n + 1) * W9 ^ n ≤ W9 * W9 ^ n := Nat.mul_le_mul_right _ (h n)
    rw [num_succ, Nat.pow_succ, Nat.mul_comm (W9 ^ n) W9]
    rw [Nat.add_mul, Nat.one_mul] at h2
    omega
theorem num_ends {d : Nat → Nat} {n : Nat} (h : Beyond0 d n) : ∀ m, n ≤ m → num d m = num d n := by
  intro m hm
  induction m with
  | zero => have : n = 0 := by omega
            subst this; rfl
  | succ m ih =>
    by_cases e : n = m + 1
    · subst e; rfl
    · rw [num_succ, ih (by omega), h m (by omega)]; simp
theorem Beyond0.mono {d : Nat → Nat} {n m : Nat} (h : Beyond0 d n) (hm : n ≤ m) : Beyond0 d m := fun i hi => h i (by omega)
theorem num_pos {d : Nat → Nat} {n : Nat} (h : d n ≠ 0) : W9 ^ n ≤ num d (n + 1) := by
  rw [num_succ]
  have := Nat.mul_le_mul_right (W9 ^ n) (Nat.one_le_iff_ne_zero.2 h)
  rw [Nat.one_mul] at this
  omega
def Full (d : Nat → Nat) (n : Nat) : Prop := n = 0 ∨ d (n - 1) ≠ 0
theorem full_le {d : Nat → Nat} {n : Nat} (h : Full d n) (hn : n ≠ 0) : W9 ^ (n - 1) ≤ num d n := by
  rcases h with h | h
  · exact absurd h hn
  · have := num_pos h
    rwa [Nat.sub_add_cancel (by omega)] at this
theorem full_lt {d e : Nat → Nat} {n m : Nat} (hd : Lows d) (he : Full e m) (h : n < m) : num d n < num e m := by
  have h1 := num_lt hd n
  have h2 := full_le he (by omega)
  have h3 : W9 ^ n ≤ W9 ^ (m - 1) := Nat.pow_le_pow_right (by decide) (by omega)
  omega
theorem num_zero_iff {d : Nat → Nat} {n : Nat} (h : Full d n) : num d n = 0 ↔ n = 0 := by
  constructor
  · intro e
    rcases Nat.eq_zero_or_pos n with h0 | h0
    · exact h0
    · have := full_le h (by omega)
      have := W9_pos (n - 1)
      omega
  · rintro rfl; rfl
theorem num_cmp {d e : Nat → Nat} (hd : Lows d) {k n : Nat} (hk : k < n) (heq : ∀ i, k < i → i < n → d i = e i) (hlt : d k < e k) : num d n < num e n := by
  induction n with
  | zero => omega
  | succ n ih =>
    rw [num_succ, num_succ]
    by_cases e' : k = n
    · subst e'
      have h1 := num_lt hd k
      have h2 : (d k + 1) * W9 ^ k ≤ e k * W9 ^ k := Nat.mul_le_mul_right _ hlt
      rw [Nat.add_mul, Nat.one_mul] at h2
      omega
    · have h1 := ih (by omega) (fun i h1 h2 => heq i h1 (by omega))
      rw [heq n (by omega) (by omega)]
      omega
def upd (d : Nat → Nat) (i v : Nat) : Nat → Nat := fun j => if j = i then v else d j
theorem upd_same (d : Nat → Nat) (i v : Nat) : upd d i v i = v := by simp [upd]
theorem upd_other (d : Nat → Nat) {i j : Nat} (v : Nat) (h : j ≠ i) : upd d i v j = d j := by simp [upd, h]
theorem Lows.upd {d : Nat → Nat} (h : Lows d) (i : Nat) {v : Nat} (hv : v < W9) : Lows (upd d i v) := fun j => by
  unfold MLab.upd; split
  · exact hv
  · exact h j
theorem num_upd (d : Nat → Nat) (i v : Nat) {n : Nat} (h : n ≤ i) : num (upd d i v) n = num d n := num_congr fun j hj => upd_other d v (by omega)
structure Carried (d y : Nat → Nat) (f : Int) (up i : Nat) (e : Nat → Nat) (r : Int) : Prop where
  lows : Lows e
  same : ∀ j, (j < up ∨ i + up ≤ j) → e j = d j
  sum : (num e (i + up) : Int) + r * ((W9 ^ (i + up) : Nat) : Int) = num d (i + up) + f * num y i * ((W9 ^ up : Nat) : Int)
  low : -999999999 ≤ r
  high : r ≤ 999999999
theorem Carried.start {d y : Nat → Nat} {f : Int} {up : Nat} (h : Lows d) : Carried d y f up 0 d 0 :=
  ⟨h, fun _ _ => rfl, by simp [num], by omega, by omega⟩
theorem Carried.step {d y e : Nat → Nat} {f r r' : Int} {up i s : Nat} (h : Carried d y f up i e r) (hs : s < W9)
    (he : (e (i + up) : Int) + r + f * y i = r' * 1000000000 + s) (h1 : -999999999 ≤ r') (h2 : r' ≤ 999999999) : Carried d y f up (i + 1) (upd e (i + up) s) r' := by
  refine ⟨h.lows.upd _ hs, fun j hj => ?_, ?_, h1, h2⟩
  · rw [upd_other _ _ (by omega)]; exact h.same j (by omega)
  · have hsum := h.sum
    have hd := h.same (i + up) (.inr (by omega))
    rw [show i + 1 + up = (i + up) + 1 by omega, num_succ, num_succ, num_upd _ _ _ (Nat.le_refl _), upd_same, num_succ y i, ← hd]
    have hp : ((W9 ^ (i + up) : Nat) : Int) = ((W9 ^ i : Nat) : Int) * ((W9 ^ up : Nat) : Int) := by rw [Nat.pow_add]; simp
    have hp1 : ((W9 ^ (i + up + 1) : Nat) : Int) = 1000000000 * ((W9 ^ (i + up) : Nat) : Int) := by rw [Nat.pow_succ, Nat.mul_comm]; simp [W9]
    simp only [Int.natCast_add, Int.natCast_mul, hp1]
    have e2 := congrArg (· * ((W9 ^ (i + up) : Nat) : Int)) he
    simp only [Int.add_mul] at e2
    have e3 : f * (y i : Int) * ((W9 ^ (i + up) : Nat) : Int) = f * ((y i : Int) * ((W9 ^ i : Nat) : Int)) * ((W9 ^ up : Nat) : Int) := by
      rw [hp]; simp only [Int.mul_assoc]
    rw [e3] at e2
    clear e3 he hp hp1
    grind
theorem num_tail {d e : Nat → Nat} {k : Nat} (h : ∀ i, k ≤ i → e i = d i) : ∀ n, k ≤ n → num e n + num d k = num d n + num e k := by
  intro n hn
  induction n with
  | zero => have : k = 0 := by omega
            subst this; rfl
  | succ n ih =>
    by_cases e' : k = n + 1
    · subst e'; omega
    · rw [num_succ, num_succ, h n (by omega)]
      have := ih (by omega)
      omega
theorem Carried.total {d y e : Nat → Nat} {f r : Int} {up j n m Z : Nat} (h : Carried d y f up j e r) (hd : Beyond0 d n) (hn : n ≤ 232) (hy : Beyond0 y m) (hj : m ≤ j) (hju : j + up ≤ 232)
    (hZ : (num d n : Int) + f * num y m * ((W9 ^ up : Nat) : Int) = (Z : Int)) : (num e 232 : Int) + r * ((W9 ^ (j + up) : Nat) : Int) = Z := by
  have h1 := h.sum
  have h2 := num_tail (d := d) (e := e) (k := j + up) (fun i hi => h.same i (.inr hi)) 232 hju
  have h3 := num_ends hd 232 hn
  have h4 := num_ends hy j hj
  rw [h4] at h1
  omega
theorem Carried.room {d y e : Nat → Nat} {f r : Int} {up j n m Z : Nat} (h : Carried d y f up j e r) (hd : Beyond0 d n) (hn : n ≤ 232) (hy : Beyond0 y m) (hj : m ≤ j) (hju : j + up ≤ 232)
    (hZ : (num d n : Int) + f * num y m * ((W9 ^ up : Nat) : Int) = (Z : Int)) (hZ2 : Z < W9 ^ 232) (hr : r ≠ 0) : j + up < 232 := by
  refine Nat.lt_of_le_of_ne hju fun e' => ?_
  have h1 := h.total hd hn hy hj hju hZ
  rw [e'] at h1
  have h2 := num_lt h.lows 232
  generalize W9 ^ 232 = P at *
  rcases Int.lt_or_gt_of_ne hr with hr | hr
  · have := Int.mul_le_mul_of_nonneg_right (show r ≤ -1 by omega) (show (0 : Int) ≤ (P : Int) by omega)
    omega
  · have := Int.mul_le_mul_of_nonneg_right (show 1 ≤ r by omega) (show (0 : Int) ≤ (P : Int) by omega)
    omega
theorem num_head (e : Nat → Nat) : ∀ n, num e (n + 1) = e 0 + W9 * num (fun i => e (i + 1)) n
  | 0 => by simp [num]
  | n + 1 => by
    rw [num_succ, num_head e n, num_succ (fun i => e (i + 1)) n, Nat.mul_add, Nat.pow_succ, ← Nat.mul_assoc, ← Nat.mul_assoc, Nat.mul_comm W9 (e (n + 1)), Nat.mul_assoc (e (n + 1)) W9, Nat.mul_comm W9 (W9 ^ n), ← Nat.mul_assoc]
    omega
theorem div_step {X low q Y R x P W dig R' : Nat} (h : X = (low + x * P) + q * Y + R * (P * W)) (hd : dig * Y + R' = R * W + x) : X = low + (q + dig * P) * Y + R' * P := by
  have e : (dig * Y + R') * P = (R * W + x) * P := by rw [hd]
  rw [Nat.add_mul, Nat.add_mul] at e
  have h1 : dig * P * Y = dig * Y * P := by rw [Nat.mul_assoc, Nat.mul_comm P Y, ← Nat.mul_assoc]
  have h2 : R * (P * W) = R * W * P := by rw [Nat.mul_comm P W, ← Nat.mul_assoc]
  rw [h, Nat.add_mul, h1, h2]
  omega
theorem div_lt {d Y R : Nat} (h : d * Y + R < Y * W9) : d < W9 := by
  refine Nat.lt_of_not_le fun hle => ?_
  have := Nat.mul_le_mul_right Y hle
  rw [Nat.mul_comm W9 Y] at this
  omega
theorem quo_rem {X q Y R : Nat} (h : X = q * Y + R) (hR : R < Y) : X / Y = q ∧ X % Y = R := by
  subst h
  constructor
  · rw [Nat.mul_comm, Nat.mul_add_div (by omega), Nat.div_eq_of_lt hR, Nat.add_zero]
  · rw [Nat.mul_comm, Nat.mul_add_mod, Nat.mod_eq_of_lt hR]
theorem num_upd_top (d : Nat → Nat) {i n : Nat} (v : Nat) (hi : i < n) (h0 : d i = 0) : num (upd d i v) n = num d n + v * W9 ^ i := by
  induction n with
  | zero => omega
  | succ n ih =>
    rw [num_succ, num_succ]
    by_cases e : i = n
    · subst e; rw [num_upd _ _ _ (Nat.le_refl _), upd_same, h0]; omega
    · rw [ih (by omega), upd_other _ _ (by omega)]; omega
theorem mul_bounds {f : Int} {d : Nat} (h1 : -1000000000 < f) (h2 : f < 1000000000) (hd : d < 1000000000) : f * (d : Int) ≤ 999999998000000001 ∧ -999999998000000001 ≤ f * (d : Int) := by
  have a := Int.mul_le_mul_of_nonneg_right (show f ≤ 999999999 by omega) (show (0 : Int) ≤ (d : Int) by omega)
  have b := Int.mul_le_mul_of_nonneg_right (show -999999999 ≤ f by omega) (show (0 : Int) ≤ (d : Int) by omega)
  omega
end MLab

namespace MLab
def sumN (f : Nat → Nat) : Nat → Nat
  | 0 => 0
  | n + 1 => sumN f n + f n
theorem sumN_succ (f : Nat → Nat) (n : Nat) : sumN f (n + 1) = sumN f n + f n := rfl
theorem sumN_congr {f g : Nat → Nat} : ∀ {n : Nat}, (∀ i, i < n → f i = g i) → sumN f n = sumN g n
  | 0, _ => rfl
  | n + 1, h => by rw [sumN_succ, sumN_succ, sumN_congr (fun i hi => h i (by omega)), h n (by omega)]
theorem sumN_add (f g : Nat → Nat) : ∀ n, sumN (fun i => f i + g i) n = sumN f n + sumN g n
  | 0 => rfl
  | n + 1 => by rw [sumN_succ, sumN_succ, sumN_succ, sumN_add f g n]; omega
theorem sumN_first (f : Nat → Nat) : ∀ n, sumN f (n + 1) = f 0 + sumN (fun i => f (i + 1)) n
  | 0 => by simp [sumN]
  | n + 1 => by rw [sumN_succ, sumN_first f n, sumN_succ]; omega
theorem sumN_split (f : Nat → Nat) (a : Nat) : ∀ b, sumN f (a + b) = sumN f a + sumN (fun i => f (a + i)) b
  | 0 => by simp [sumN]
  | b + 1 => by rw [← Nat.add_assoc, sumN_succ, sumN_split f a b, sumN_succ]; omega
theorem sumN_mono (f : Nat → Nat) {a b : Nat} (h : a ≤ b) : sumN f a ≤ sumN f b := by
  obtain ⟨c, rfl⟩ := Nat.le.dest h
  rw [sumN_split]; omega
def bin : Nat → Nat → Nat
  | _, 0 => 1
  | 0, _ + 1 => 0
  | n + 1, k + 1 => bin n k + bin n (k + 1)
theorem bin_zero (n : Nat) : bin n 0 = 1 := by cases n <;> rfl
theorem bin_ss (n k : Nat) : bin (n + 1) (k + 1) = bin n k + bin n (k + 1) := rfl
theorem bin_far : ∀ {n k : Nat}, n < k → bin n k = 0
  | _, 0, h => absurd h (by omega)
  | 0, k + 1, _ => rfl
  | n + 1, k + 1, h => by rw [bin_ss, bin_far (by omega), bin_far (by omega)]
theorem bin_self : ∀ n, bin n n = 1
  | 0 => rfl
  | n + 1 => by rw [bin_ss, bin_self n, bin_far (by omega)]
theorem bin_pos : ∀ {n k : Nat}, k ≤ n → 0 < bin n k
  | n, 0, _ => by rw [bin_zero]; omega
  | 0, k + 1, h => absurd h (by omega)
  | n + 1, k + 1, h => by rw [bin_ss]; have := bin_pos (n := n) (k := k) (by omega); omega
theorem bin_symm : ∀ {n k : Nat}, k ≤ n → bin n (n - k) = bin n k
  | n, 0, _ => by rw [bin_zero]; exact bin_self n
  | 0, k + 1, h => absurd h (by omega)
  | n + 1, k + 1, h => by
    rcases Nat.lt_or_ge k n with hk | hk
    · rw [show n + 1 - (k + 1) = (n - (k + 1)) + 1 by omega, bin_ss, bin_ss, show n - (k + 1) + 1 = n - k by omega, bin_symm (n := n) (k := k + 1) (by omega), bin_symm (n := n) (k := k) (by omega)]
      omega
    · obtain rfl : k = n := by omega
      rw [Nat.sub_self, bin_zero, bin_self]
theorem bin_step : ∀ (n k : Nat), bin n (k + 1) * (k + 1) = bin n k * (n - k)
  | 0, k => by rw [bin_far (by omega)]; simp
  | n + 1, 0 => by
    have := bin_step n 0
    rw [bin_zero] at *
    rw [bin_ss, bin_zero]
    omega
  | n + 1, k + 1 => by
    have h1 := bin_step n k
    have h2 := bin_step n (k + 1)
    rw [bin_ss n (k + 1), bin_ss n k]
    rcases Nat.lt_or_ge n (k + 1) with h | h
    · rw [bin_far (n := n) (k := k + 1) (by omega), bin_far (n := n) (k := k + 1 + 1) (by omega)] at *
      rw [show n + 1 - (k + 1) = n - k by omega]
      have : n - k = 0 := by omega
      rw [this]; simp
    · obtain ⟨d, rfl⟩ := Nat.le.dest h
      rw [show k + 1 + d - k = d + 1 by omega] at h1
      rw [show k + 1 + d - (k + 1) = d by omega] at h2
      rw [show k + 1 + d + 1 - (k + 1) = d + 1 by omega]
      grind
theorem bin_le_pow (n : Nat) : ∀ k, bin n k ≤ 2 ^ n := by
  induction n with
  | zero => intro k; cases k with
    | zero => exact Nat.le_refl _
    | succ k => show 0 ≤ _; omega
  | succ n ih =>
    intro k
    cases k with
    | zero => rw [bin_zero]; exact Nat.one_le_two_pow
    | succ k => rw [bin_ss, Nat.pow_succ]; have := ih k; have := ih (k + 1); omega
def accN (b g N C : Nat) : Nat := sumN (fun k => bin b k * bin g (N - k)) (C + 1)
theorem accN_zero (b g N : Nat) : accN b g N 0 = bin g N := by simp [accN, sumN, bin_zero]
theorem accN_bad (b g N C : Nat) : accN (b + 1) g (N + 1) (C + 1) = accN b g (N + 1) (C + 1) + accN b g N C := by
  unfold accN
  rw [sumN_first, sumN_first (fun k => bin b k * bin g (N + 1 - k))]
  have : sumN (fun i => bin (b + 1) (i + 1) * bin g (N + 1 - (i + 1))) (C + 1) = sumN (fun i => bin b (i + 1) * bin g (N + 1 - (i + 1))) (C + 1) + sumN (fun k => bin b k * bin g (N - k)) (C + 1) := by
    rw [← sumN_add]
    refine sumN_congr fun i _ => ?_
    rw [bin_ss, show N + 1 - (i + 1) = N - i by omega]; grind
  rw [this, bin_zero, bin_zero]; omega
theorem accN_all : ∀ (b g N : Nat), accN b g N N = bin (b + g) N
  | b, g, 0 => by rw [accN_zero, bin_zero, bin_zero]
  | 0, g, N + 1 => by
    unfold accN
    rw [sumN_first, bin_zero, Nat.zero_add]
    have : sumN (fun i => bin 0 (i + 1) * bin g (N + 1 - (i + 1))) (N + 1) = 0 := by
      have h : ∀ n, sumN (fun i => bin 0 (i + 1) * bin g (N + 1 - (i + 1))) n = 0 := by
        intro n; induction n with
        | zero => rfl
        | succ n ih => rw [sumN_succ, ih]; show 0 + 0 * _ = 0; omega
      exact h _
    rw [this]; simp
  | b + 1, g, N + 1 => by
    rw [accN_bad, accN_all b g (N + 1), accN_all b g N, show b + 1 + g = (b + g) + 1 by omega, bin_ss]; omega
theorem accN_monoC (b g N : Nat) {C D : Nat} (h : C ≤ D) : accN b g N C ≤ accN b g N D := sumN_mono _ (by omega)
end MLab

namespace MLab
def accQ (b g N C : Nat) : Rat := Rat.divInt (accN b g N C : Nat) (bin (b + g) N : Nat)
end MLab
