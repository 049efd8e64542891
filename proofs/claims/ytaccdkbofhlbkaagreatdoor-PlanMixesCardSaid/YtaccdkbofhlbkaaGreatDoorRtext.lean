/- Texts of rational numbers: plain facts on how they are cut and checked. Sizes of rational numbers; what made computes. Plain: no program in sight. -/
import Derived.Test.YtaccdkbofhlbkaaGreatDoorRatio
import Derived.Lib.IndexMore
import Derived.Lib.IndexBytes
import Derived.Lib.IndexLaws
namespace Go.Proofs.YtaccdkbofhlbkaaGreatDoor
open Go.RowKit MLab

/-- Where the first slash is; the length if there is none. -/
def sl (l : List UInt8) : Nat := l.findIdx (· == 47)
def numL (l : List UInt8) : List UInt8 := l.take (sl l)
def wrB (l : List UInt8) : Bool := decide (sl l < l.length)
def denL (l : List UInt8) : List UInt8 := if sl l < l.length then l.drop (sl l + 1) else [49]

theorem one_lt_big : 1 < Big := by
  have := (big_len (n := 1)).1 (by rw [dec_one]; decide)
  exact this

theorem sl_le (l : List UInt8) : sl l ≤ l.length := List.findIdx_le_length
theorem sl_at {l : List UInt8} (h : sl l < l.length) : l[sl l]? = some 47 := by
  have := List.findIdx_getElem (p := (· == (47 : UInt8))) (w := h)
  rw [List.getElem?_eq_getElem h]
  exact congrArg some (beq_iff_eq.1 this)
theorem sl_before {l : List UInt8} {k : Nat} (h : k < sl l) : l[k]? ≠ some 47 := by
  have hl : k < l.length := Nat.lt_of_lt_of_le h (sl_le l)
  have := List.not_of_lt_findIdx (p := (· == (47 : UInt8))) h
  rw [List.getElem?_eq_getElem hl]
  intro e
  rw [Option.some.inj e] at this
  simp at this
theorem sl_eq {l : List UInt8} {o : Nat} (h1 : l[o]? = some 47) (h2 : ∀ k, k < o → l[k]? ≠ some 47) : sl l = o := by
  have ho : o < l.length := by
    rcases Nat.lt_or_ge o l.length with h | h
    · exact h
    · rw [List.getElem?_eq_none h] at h1; cases h1
  rcases Nat.lt_trichotomy (sl l) o with h | h | h
  · exact absurd (sl_at (by omega)) (h2 _ h)
  · exact h
  · exact absurd h1 (sl_before h)
theorem sl_none {l : List UInt8} (h : ∀ k : Nat, l[k]? ≠ some 47) : sl l = l.length := by
  rcases Nat.lt_or_ge (sl l) l.length with h1 | h1
  · exact absurd (sl_at h1) (h _)
  · have := sl_le l; omega

theorem cut_slash (l : List UInt8) : Lib.cut l [47] = if sl l < l.length then (numL l, denL l, true) else (l, [], false) := by
  unfold Lib.cut
  rw [Lib.index_one]
  have hge := Lib.indexByte_ge l 47
  by_cases h : 0 ≤ Lib.indexByte l 47
  · rw [if_pos h]
    obtain ⟨h1, h2⟩ := Lib.indexByte_some (l := l) (c := 47) (o := (Lib.indexByte l 47).toNat) (by omega)
    have e := sl_eq h1 h2
    have hlt : sl l < l.length := by
      rw [e]
      rcases Nat.lt_or_ge (Lib.indexByte l 47).toNat l.length with h3 | h3
      · exact h3
      · rw [List.getElem?_eq_none h3] at h1; cases h1
    rw [if_pos hlt, numL, denL, if_pos hlt, e]; rfl
  · rw [if_neg h]
    have h1 := Lib.indexByte_none (l := l) (c := 47) (by omega)
    have e := sl_none h1
    rw [if_neg (by omega)]

theorem T_no_slash (z : Int) : ∀ b ∈ T z, b ≠ 47 := by
  intro b hb
  by_cases h : z < 0
  · rw [T_neg h] at hb
    rcases List.mem_cons.1 hb with rfl | hb
    · decide
    · have := dec_dig _ b hb
      rintro rfl
      exact absurd this.1 (by decide)
  · rw [T_nonneg (by omega)] at hb
    have := dec_dig _ b hb
    rintro rfl
    exact absurd this.1 (by decide)

theorem sl_T (z : Int) : sl (T z) = (T z).length := sl_none fun _ e => T_no_slash z _ (List.mem_of_getElem? e) rfl
theorem sl_two (z : Int) (r : List UInt8) : sl (T z ++ 47 :: r) = (T z).length :=
  sl_eq (by rw [List.getElem?_append_right (Nat.le_refl _), Nat.sub_self]; rfl) fun k hk e => by
    rw [List.getElem?_append_left hk] at e
    exact T_no_slash z _ (List.mem_of_getElem? e) rfl

theorem RT_num (q : Rat) : numL (RT q) = T q.num := by
  unfold RT numL
  split
  · rw [sl_T, List.take_length]
  · rw [sl_two, List.take_left']; rfl
theorem RT_den (q : Rat) : denL (RT q) = T (q.den : Int) := by
  unfold RT denL
  split
  · rename_i h
    rw [sl_T, if_neg (by omega), h]; exact T_one.symm
  · rw [sl_two, if_pos (by simp), T_nat, List.drop_append, List.drop_of_length_le (by omega), show (T q.num).length + 1 - (T q.num).length = 1 by omega]; rfl
theorem RT_wr (q : Rat) : wrB (RT q) = !decide (q.den = 1) := by
  unfold RT wrB
  split
  · rename_i h
    rw [sl_T, h]; simp
  · rename_i h
    rw [sl_two]; simp [h]
theorem RT_cut (q : Rat) : (numL (RT q), denL (RT q), wrB (RT q)) = (T q.num, T (q.den : Int), !decide (q.den = 1)) := by rw [RT_num, RT_den, RT_wr]

theorem RT_inj {p q : Rat} (h : RT p = RT q) : p = q := by
  have h1 := congrArg numL h
  have h2 := congrArg denL h
  rw [RT_num, RT_num] at h1
  rw [RT_den, RT_den] at h2
  exact Rat.ext (T_inj h1) (by have := T_inj h2; omega)

/-- The error number of a text of a rational number. -/
def chkR (l : List UInt8) : Int :=
  if chk (numL l) = 3 ∨ chk (denL l) = 3 then 3
  else if chk (numL l) ≠ 0 ∨ chk (denL l) ≠ 0 then 11
  else if wrB l = false then 0
  else if 1 < (Lib.atoi (denL l)).getD 0 ∧ Int.gcd ((Lib.atoi (numL l)).getD 0) ((Lib.atoi (denL l)).getD 0) = 1 then 0 else 3

/-- A number whose numerator and denominator are not too long. -/
def Fit (q : Rat) : Prop := q.num.natAbs < Big ∧ q.den < Big

theorem chk_T3 (z : Int) : chk (T z) ≠ 3 := by rw [chk_T]; split <;> decide

theorem chkR_RT {q : Rat} (h : Fit q) : chkR (RT q) = 0 := by
  have h1 : chk (T q.num) = 0 := by rw [chk_T, if_pos h.1]
  have h2 : chk (T (q.den : Int)) = 0 := by rw [chk_T, if_pos (show ((q.den : Int)).natAbs < Big from h.2)]
  rw [chkR, RT_num, RT_den, RT_wr, h1, h2, if_neg (by decide), if_neg (by decide)]
  by_cases hd : q.den = 1
  · rw [if_pos (by simp [hd])]
  · rw [if_neg (by simp [hd]), atoi_T, atoi_T]
    have hp := q.den_pos
    rw [if_pos]
    exact ⟨by simp; omega, by simpa [Int.gcd] using q.reduced⟩

theorem chkR_zero {l : List UInt8} (h : chkR l = 0) : ∃ q, l = RT q ∧ Fit q := by
  unfold chkR at h
  split at h
  · cases h
  · rename_i h3
    split at h
    · cases h
    · rename_i h0
      have e1 : chk (numL l) = 0 := Classical.byContradiction fun e => h0 (.inl e)
      have e2 : chk (denL l) = 0 := Classical.byContradiction fun e => h0 (.inr e)
      obtain ⟨n, hn, hnb⟩ := chk_zero e1
      obtain ⟨d, hd, hdb⟩ := chk_zero e2
      split at h
      · rename_i hw
        have hs : sl l = l.length := by
          unfold wrB at hw
          have := of_decide_eq_false hw
          have := sl_le l
          omega
        refine ⟨(n : Rat), ?_, ?_⟩
        · rw [RT, if_pos (by simp)]
          have : numL l = l := by rw [numL, hs, List.take_length]
          rw [← this, ← hn]; simp
        · have := Nat.lt_of_le_of_lt (Nat.zero_le _) hnb
          exact ⟨by simpa using hnb, by simp; exact one_lt_big⟩
      · rename_i hw
        split at h
        · rename_i hc
          rw [← hn, ← hd, atoi_T, atoi_T] at hc
          simp only [Option.getD_some] at hc
          obtain ⟨c1, c2⟩ := hc
          have hs : sl l < l.length := by
            unfold wrB at hw
            rw [Bool.not_eq_false] at hw
            exact of_decide_eq_true hw
          have hdn : (d.natAbs : Int) = d := by omega
          refine ⟨⟨n, d.natAbs, by omega, by simpa [Int.gcd, Nat.Coprime] using c2⟩, ?_, hnb, hdb⟩
          rw [RT, if_neg (by show ¬ d.natAbs = 1; omega)]
          show l = T n ++ 47 :: Lib.decDigits d.natAbs
          rw [← T_nat, hdn, hd, hn, numL, denL, if_pos hs]
          have h4 := sl_at hs
          rw [List.getElem?_eq_getElem hs] at h4
          rw [← Option.some.inj h4, List.getElem_cons_drop, List.take_append_drop]
        · cases h
theorem chkR_vals (l : List UInt8) : chkR l = 0 ∨ chkR l = 3 ∨ chkR l = 11 := by
  unfold chkR
  split
  · exact .inr (.inl rfl)
  · split
    · exact .inr (.inr rfl)
    · split
      · exact .inl rfl
      · split
        · exact .inl rfl
        · exact .inr (.inl rfl)
end Go.Proofs.YtaccdkbofhlbkaaGreatDoor

namespace Go.Proofs.YtaccdkbofhlbkaaGreatDoor
open Go.RowKit MLab

/-- The numerator has at most a digits, the denominator is at most 10^b. -/
def Sz (a b : Nat) (q : Rat) : Prop := q.num.natAbs < 10 ^ a ∧ q.den ≤ 10 ^ b
theorem Sz.mono {a b c d : Nat} {q : Rat} (h : Sz a b q) (h1 : a ≤ c) (h2 : b ≤ d) : Sz c d q :=
  ⟨Nat.lt_of_lt_of_le h.1 (Nat.pow_le_pow_right (by omega) h1), Nat.le_trans h.2 (Nat.pow_le_pow_right (by omega) h2)⟩
theorem pow_big {k : Nat} (h : k ≤ 1024) : 10 ^ k ≤ Big := by
  unfold Big
  generalize 1024 = m at *
  exact Nat.pow_le_pow_right (by omega) h
theorem big_of_pow {n k : Nat} (h : n < 10 ^ k) (hk : k ≤ 1024) : n < Big := Nat.lt_of_lt_of_le h (pow_big hk)
theorem big_of_le {n k : Nat} (h : n ≤ 10 ^ k) (hk : k < 1024) : n < Big := by
  refine big_of_pow (k := k + 1) (Nat.lt_of_le_of_lt h ?_) (by omega)
  exact Nat.pow_lt_pow_right (by omega) (by omega)
theorem Sz.fit {a b : Nat} {q : Rat} (h : Sz a b q) (ha : a ≤ 1024) (hb : b < 1024) : Fit q := ⟨big_of_pow h.1 ha, big_of_le h.2 hb⟩

theorem add_divInt (p q : Rat) : Rat.divInt (p.num * q.den + q.num * p.den) ((p.den : Int) * q.den) = p + q := by
  rw [Rat.add_def', ← Int.natCast_mul, Rat.divInt_ofNat]
theorem sub_divInt (p q : Rat) : Rat.divInt (p.num * q.den - q.num * p.den) ((p.den : Int) * q.den) = p - q := by
  rw [Rat.sub_def', ← Int.natCast_mul, Rat.divInt_ofNat]
theorem mul_divInt (p q : Rat) : Rat.divInt (p.num * q.num) ((p.den : Int) * q.den) = p * q := by
  rw [Rat.mul_def', ← Int.natCast_mul, Rat.divInt_ofNat]

/-- A quotient in lowest terms is no greater than what it is made of. -/
theorem low_le (x : Int) {y : Int} (hy : y ≠ 0) : (Rat.divInt x y).num.natAbs ≤ x.natAbs ∧ (Rat.divInt x y).den ≤ y.natAbs := by
  have h := low_num (x := x) hy
  have h2 := low_mul x y
  have hg := lowG_ne (x := x) hy
  constructor
  · rw [← h.1]; exact fdiv_le hg h2.1
  · have := fdiv_le hg h2.2
    rw [h.2] at this
    omega
theorem den_ne (q : Rat) : (q.den : Int) ≠ 0 := by have := q.den_nz; omega
theorem dens_ne (p q : Rat) : (p.den : Int) * q.den ≠ 0 := Int.mul_ne_zero (den_ne p) (den_ne q)

/-- What the sum is made of, and the sum. -/
theorem cross_lt {a b c d : Nat} {p q : Rat} (hp : Sz a b p) (hq : Sz c d q) : (p.num * q.den).natAbs < 10 ^ (a + d) := by
  rw [Int.natAbs_mul, Nat.pow_add]
  have hd : 0 < q.den := q.den_pos
  show p.num.natAbs * ((q.den : Int)).natAbs < _
  rw [Int.natAbs_natCast]
  exact Nat.lt_of_lt_of_le (Nat.mul_lt_mul_of_pos_right hp.1 hd) (Nat.mul_le_mul_left _ hq.2)
theorem dens_le {a b c d : Nat} {p q : Rat} (hp : Sz a b p) (hq : Sz c d q) : ((p.den : Int) * q.den).natAbs ≤ 10 ^ (b + d) := by
  rw [Int.natAbs_mul, Nat.pow_add, Int.natAbs_natCast, Int.natAbs_natCast]
  exact Nat.mul_le_mul hp.2 hq.2
theorem nums_lt {a b c d : Nat} {p q : Rat} (hp : Sz a b p) (hq : Sz c d q) : (p.num * q.num).natAbs < 10 ^ (a + c) := by
  rw [Int.natAbs_mul, Nat.pow_add]
  exact Nat.mul_lt_mul'' hp.1 hq.1
theorem pow_up {n k m : Nat} (h : n < 10 ^ k) (hk : k ≤ m) : n < 10 ^ m := Nat.lt_of_lt_of_le h (Nat.pow_le_pow_right (by omega) hk)
theorem two_pow (m : Nat) : 10 ^ m + 10 ^ m ≤ 10 ^ (m + 1) := by rw [Nat.pow_succ]; omega
theorem sum_lt {a b c d m : Nat} {p q : Rat} (hp : Sz a b p) (hq : Sz c d q) (h1 : a + d ≤ m) (h2 : c + b ≤ m) : (p.num * q.den + q.num * p.den).natAbs < 10 ^ (m + 1) := by
  have e1 := pow_up (cross_lt hp hq) h1
  have e2 := pow_up (cross_lt hq hp) h2
  have e3 := two_pow m
  generalize p.num * q.den = x at *
  generalize q.num * p.den = y at *
  generalize 10 ^ m = A at *
  generalize 10 ^ (m + 1) = B at *
  omega
theorem dif_lt {a b c d m : Nat} {p q : Rat} (hp : Sz a b p) (hq : Sz c d q) (h1 : a + d ≤ m) (h2 : c + b ≤ m) : (p.num * q.den - q.num * p.den).natAbs < 10 ^ (m + 1) := by
  have e1 := pow_up (cross_lt hp hq) h1
  have e2 := pow_up (cross_lt hq hp) h2
  have e3 := two_pow m
  generalize p.num * q.den = x at *
  generalize q.num * p.den = y at *
  generalize 10 ^ m = A at *
  generalize 10 ^ (m + 1) = B at *
  omega
theorem Sz.add {a b c d m : Nat} {p q : Rat} (hp : Sz a b p) (hq : Sz c d q) (h1 : a + d ≤ m) (h2 : c + b ≤ m) : Sz (m + 1) (b + d) (p + q) := by
  rw [← add_divInt]
  have h := low_le (p.num * q.den + q.num * p.den) (dens_ne p q)
  exact ⟨Nat.lt_of_le_of_lt h.1 (sum_lt hp hq h1 h2), Nat.le_trans h.2 (dens_le hp hq)⟩
theorem Sz.sub {a b c d m : Nat} {p q : Rat} (hp : Sz a b p) (hq : Sz c d q) (h1 : a + d ≤ m) (h2 : c + b ≤ m) : Sz (m + 1) (b + d) (p - q) := by
  rw [← sub_divInt]
  have h := low_le (p.num * q.den - q.num * p.den) (dens_ne p q)
  exact ⟨Nat.lt_of_le_of_lt h.1 (dif_lt hp hq h1 h2), Nat.le_trans h.2 (dens_le hp hq)⟩
theorem Sz.mul {a b c d : Nat} {p q : Rat} (hp : Sz a b p) (hq : Sz c d q) : Sz (a + c) (b + d) (p * q) := by
  rw [← mul_divInt]
  have h := low_le (p.num * q.num) (dens_ne p q)
  exact ⟨Nat.lt_of_le_of_lt h.1 (nums_lt hp hq), Nat.le_trans h.2 (dens_le hp hq)⟩
theorem Sz.neg {a b : Nat} {p : Rat} (hp : Sz a b p) : Sz a b (-p) := by
  refine ⟨?_, ?_⟩
  · rw [Rat.neg_num, Int.natAbs_neg]; exact hp.1
  · rw [Rat.neg_den]; exact hp.2
theorem Sz.int {a : Nat} {n : Int} (h : n.natAbs < 10 ^ a) : Sz a 0 (n : Rat) := ⟨by simpa using h, by simp⟩
end Go.Proofs.YtaccdkbofhlbkaaGreatDoor
