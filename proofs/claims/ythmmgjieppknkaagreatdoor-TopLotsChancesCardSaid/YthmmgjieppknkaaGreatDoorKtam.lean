/- Contracts and plain laws that the statements of this seat share (part Ktam). -/
import Derived.Test.YthmmgjieppknkaaGreatDoorKtaa
import Derived.Test.YthmmgjieppknkaaGreatDoorKtac
import Derived.Test.YthmmgjieppknkaaGreatDoorKtaf
import Derived.Test.YthmmgjieppknkaaGreatDoorKtal
import Derived.Lib.IndexMore
import Derived.Lib.IndexBytes
import Derived.Lib.IndexLaws
namespace Go.Proofs.YthmmgjieppknkaaGreatDoor
open Go.RowKit MLab
def sl (l : List UInt8) : Nat := l.findIdx (· == 47)
def numL (l : List UInt8) : List UInt8 := l.take (sl l)
def wrB (l : List UInt8) : Bool := decide (sl l < l.length)
def denL (l : List UInt8) : List UInt8 := if sl l < l.length then l.drop (sl l + 1) else [49]
theorem one_lt_big : 1 < Big := by
  have := (big_len (n := 1)).1 (by rw [dec_one]; decide)
  exact this
theorem sl_le (l : List UInt8) : sl l ≤ l.length := List.findIdx_le_length
theorem sl_at {l : List UInt8} (h : sl l < l.length) : l[sl l]? = some 47 := by
  have := List.findIdx_getElem (p := (· == (47 : UInt8))) (w := h)
  rw [List.getElem?_eq_getElem h]
  exact congrArg some (beq_iff_eq.1 this)
theorem sl_before {l : List UInt8} {k : Nat} (h : k < sl l) : l[k]? ≠ some 47 := by
  have hl : k < l.length := Nat.lt_of_lt_of_le h (sl_le l)
  have := List.not_of_lt_findIdx (p := (· == (47 : UInt8))) h
  rw [List.getElem?_eq_getElem hl]
  intro e
  rw [Option.some.inj e] at this
  simp at this
theorem sl_eq {l : List UInt8} {o : Nat} (h1 : l[o]? = some 47) (h2 : ∀ k, k < o → l[k]? ≠ some 47) : sl l = o := by
  have ho : o < l.length := by
    rcases Nat.lt_or_ge o l.length with h | h
    · exact h
    · rw [List.getElem?_eq_none h] at h1; cases h1
  rcases Nat.lt_trichotomy (sl l) o with h | h | h
  · exact absurd (sl_at (by omega)) (h2 _ h)
  · exact h
  · exact absurd h1 (sl_before h)
theorem sl_none {l : List UInt8} (h : ∀ k : Nat, l[k]? ≠ some 47) : sl l = l.length := by
  rcases Nat.lt_or_ge (sl l) l.length with h1 | h1
  · exact absurd (sl_at h1) (h _)
  · have := sl_le l; omega
theorem cut_slash (l : List UInt8) : Lib.cut l [47] = if sl l < l.length then (numL l, denL l, true) else (l, [], false) := by
  unfold Lib.cut
  rw [Lib.index_one]
  have hge := Lib.indexByte_ge l 47
  by_cases h : 0 ≤ Lib.indexByte l 47
  · rw [if_pos h]
    obtain ⟨h1, h2⟩ := Lib.indexByte_some (l := l) (c := 47) (o := (Lib.indexByte l 47).toNat) (by omega)
    have e := sl_eq h1 h2
    have hlt : sl l < l.length := by
      rw [e]
      rcases Nat.lt_or_ge (Lib.indexByte l 47).toNat l.length with h3 | h3
      · exact h3
      · rw [List.getElem?_eq_none h3] at h1; cases h1
    rw [if_pos hlt, numL, denL, if_pos hlt, e]; rfl
  · rw [if_neg h]
    have h1 := Lib.indexByte_none (l := l) (c := 47) (by omega)
    have e := sl_none h1
    rw [if_neg (by omega)]
theorem T_no_slash (z : Int) : ∀ b ∈ T z, b ≠ 47 := by
  intro b hb
  by_cases h : z < 0
  · rw [T_neg h] at hb
    rcases List.mem_cons.1 hb with rfl | hb
    · decide
    · have := dec_dig _ b hb
      rintro rfl
      exact absurd this.1 (by decide)
  · rw [T_nonneg (by omega)] at hb
    have := dec_dig _ b hb
    rintro rfl
    exact absurd this.1 (by decide)
theorem sl_T (z : Int) : sl (T z) = (T z).length := sl_none fun _ e => T_no_slash z _ (List.mem_of_getElem? e) rfl
theorem sl_two (z : Int) (r : List UInt8) : sl (T z ++ 47 :: r) = (T z).length :=
  sl_eq (by rw [List.getElem?_append_right (Nat.le_refl _), Nat.sub_self]; rfl) fun k hk e => by
    rw [List.getElem?_append_left hk] at e
    exact T_no_slash z _ (List.mem_of_getElem? e) rfl
theorem RT_num (q : Rat) : numL (RT q) = T q.num := by
  unfold RT numL
  split
  · rw [sl_T, List.take_length]
  · rw [sl_two, List.take_left']; rfl
theorem RT_den (q : Rat) : denL (RT q) = T (q.den : Int) := by
  unfold RT denL
  split
  · rename_i h
    rw [sl_T, if_neg (by omega), h]; exact T_one.symm
  · rw [sl_two, if_pos (by simp), T_nat, List.drop_append, List.drop_of_length_le (by omega), show (T q.num).length + 1 - (T q.num).length = 1 by omega]; rfl
theorem RT_wr (q : Rat) : wrB (RT q) = !decide (q.den = 1) := by
  unfold RT wrB
  split
  · rename_i h
    rw [sl_T, h]; simp
  · rename_i h
    rw [sl_two]; simp [h]
def chkR (l : List UInt8) : Int :=
  if chk (numL l) = 3 ∨ chk (denL l) = 3 then 3
  else if chk (numL l) ≠ 0 ∨ chk (denL l) ≠ 0 then 11
  else if wrB l = false then 0
  else if 1 < (Lib.atoi (denL l)).getD 0 ∧ Int.gcd ((Lib.atoi (numL l)).getD 0) ((Lib.atoi (denL l)).getD 0) = 1 then 0 else 3
def Fit (q : Rat) : Prop := q.num.natAbs < Big ∧ q.den < Big
theorem chkR_RT {q : Rat} (h : Fit q) : chkR (RT q) = 0 := by
  have h1 : chk (T q.num) = 0 := by rw [chk_T, if_pos h.1]
  have h2 : chk (T (q.den : Int)) = 0 := by rw [chk_T, if_pos (show ((q.den : Int)).natAbs < Big from h.2)]
  rw [chkR, RT_num, RT_den, RT_wr, h1, h2, if_neg (by decide), if_neg (by decide)]
  by_cases hd : q.den = 1
  · rw [if_pos (by simp [hd])]
  · rw [if_neg (by simp [hd]), atoi_T, atoi_T]
    have hp := q.den_pos
    rw [if_pos]
    exact ⟨by simp; omega, by simpa [Int.gcd] using q.reduced⟩
end Go.Proofs.YthmmgjieppknkaaGreatDoor
namespace Go.Proofs.YthmmgjieppknkaaGreatDoor
open Go.RowKit MLab
def Sz (a b : Nat) (q : Rat) : Prop := q.num.natAbs < 10 ^ a ∧ q.den ≤ 10 ^ b
theorem Sz.mono {a b c d : Nat} {q : Rat} (h : Sz a b q) (h1 : a ≤ c) (h2 : b ≤ d) : Sz c d q :=
  ⟨Nat.lt_of_lt_of_le h.1 (Nat.pow_le_pow_right (by omega) h1), Nat.le_trans h.2 (Nat.pow_le_pow_right (by omega) h2)⟩
theorem pow_big {k : Nat} (h : k ≤ 1024) : 10 ^ k ≤ Big := by
  unfold Big
  generalize 1024 = m at *
  exact Nat.pow_le_pow_right (by omega) h
theorem big_of_pow {n k : Nat} (h : n < 10 ^ k) (hk : k ≤ 1024) : n < Big := Nat.lt_of_lt_of_le h (pow_big hk)
theorem big_of_le {n k : Nat} (h : n ≤ 10 ^ k) (hk : k < 1024) : n < Big := by
  refine big_of_pow (k := k + 1) (Nat.lt_of_le_of_lt h ?_) (by omega)
  exact Nat.pow_lt_pow_right (by omega) (by omega)
theorem Sz.fit {a b : Nat} {q : Rat} (h : Sz a b q) (ha : a ≤ 1024) (hb : b < 1024) : Fit q := ⟨big_of_pow h.1 ha, big_of_le h.2 hb⟩
theorem add_divInt (p q : Rat) : Rat.divInt (p.num * q.den + q.num * p.den) ((p.den : Int) * q.den) = p + q := by
  rw [Rat.add_def', ← Int.natCast_mul, Rat.divInt_ofNat]
theorem sub_divInt (p q : Rat) : Rat.divInt (p.num * q.den - q.num * p.den) ((p.den : Int) * q.den) = p - q := by
  rw [Rat.sub_def', ← Int.natCast_mul, Rat.divInt_ofNat]
theorem mul_divInt (p q : Rat) : Rat.divInt (p.num * q.num) ((p.den : Int) * q.den) = p * q := by
  rw [Rat.mul_def', ← Int.natCast_mul, Rat.divInt_ofNat]
theorem low_le (x : Int) {y : Int} (hy : y ≠ 0) : (Rat.divInt x y).num.natAbs ≤ x.natAbs ∧ (Rat.divInt x y).den ≤ y.natAbs := by
  have h := low_num (x := x) hy
  have h2 := low_mul x y
  have hg := lowG_ne (x := x) hy
  constructor
  · rw [← h.1]; exact fdiv_le hg h2.1
  · have := fdiv_le hg h2.2
    rw [h.2] at this
    omega
theorem den_ne (q : Rat) : (q.den : Int) ≠ 0 := by have := q.den_nz; omega
theorem dens_ne (p q : Rat) : (p.den : Int) * q.den ≠ 0 := Int.mul_ne_zero (den_ne p) (den_ne q)
theorem cross_lt {a b c d : Nat} {p q : Rat} (hp : Sz a b p) (hq : Sz c d q) : (p.num * q.den).natAbs < 10 ^ (a + d) := by
  rw [Int.natAbs_mul, Nat.pow_add]
  have hd : 0 < q.den := q.den_pos
  show p.num.natAbs * ((q.den : Int)).natAbs < _
  rw [Int.natAbs_natCast]
  exact Nat.lt_of_lt_of_le (Nat.mul_lt_mul_of_pos_right hp.1 hd) (Nat.mul_le_mul_left _ hq.2)
theorem dens_le {a b c d : Nat} {p q : Rat} (hp : Sz a b p) (hq : Sz c d q) : ((p.den : Int) * q.den).natAbs ≤ 10 ^ (b + d) := by
  rw [Int.natAbs_mul, Nat.pow_add, Int.natAbs_natCast, Int.natAbs_natCast]
  exact Nat.mul_le_mul hp.2 hq.2
theorem nums_lt {a b c d : Nat} {p q : Rat} (hp : Sz a b p) (hq : Sz c d q) : (p.num * q.num).natAbs < 10 ^ (a + c) := by
  rw [Int.natAbs_mul, Nat.pow_add]
  exact Nat.mul_lt_mul'' hp.1 hq.1
theorem pow_up {n k m : Nat} (h : n < 10 ^ k) (hk : k ≤ m) : n < 10 ^ m := Nat.lt_of_lt_of_le h (Nat.pow_le_pow_right (by omega) hk)
theorem two_pow (m : Nat) : 10 ^ m + 10 ^ m ≤ 10 ^ (m + 1) := by rw [Nat.pow_succ]; omega
theorem sum_lt {a b c d m : Nat} {p q : Rat} (hp : Sz a b p) (hq : Sz c d q) (h1 : a + d ≤ m) (h2 : c + b ≤ m) : (p.num * q.den + q.num * p.den).natAbs < 10 ^ (m + 1) := by
  have e1 := pow_up (cross_lt hp hq) h1
  have e2 := pow_up (cross_lt hq hp) h2
  have e3 := two_pow m
  generalize p.num * q.den = x at *
  generalize q.num * p.den = y at *
  generalize 10 ^ m = A at *
  generalize 10 ^ (m + 1) = B at *
  omega
theorem dif_lt {a b c d m : Nat} {p q : Rat} (hp : Sz a b p) (hq : Sz c d q) (h1 : a + d ≤ m) (h2 : c + b ≤ m) : (p.num * q.den - q.num * p.den).natAbs < 10 ^ (m + 1) := by
  have e1 := pow_up (cross_lt hp hq) h1
  have e2 := pow_up (cross_lt hq hp) h2
  have e3 := two_pow m
  generalize p.num * q.den = x at *
  generalize q.num * p.den = y at *
  generalize 10 ^ m = A at *
  generalize 10 ^ (m + 1) = B at *
  omega
theorem Sz.add {a b c d m : Nat} {p q : Rat} (hp : Sz a b p) (hq : Sz c d q) (h1 : a + d ≤ m) (h2 : c + b ≤ m) : Sz (m + 1) (b + d) (p + q) := by
  rw [← add_divInt]
  have h := low_le (p.num * q.den + q.num * p.den) (dens_ne p q)
  exact ⟨Nat.lt_of_le_of_lt h.1 (sum_lt hp hq h1 h2), Nat.le_trans h.2 (dens_le hp hq)⟩
theorem Sz.mul {a b c d : Nat} {p q : Rat} (hp : Sz a b p) (hq : Sz c d q) : Sz (a + c) (b + d) (p * q) := by
  rw [← mul_divInt]
  have h := low_le (p.num * q.num) (dens_ne p q)
  exact ⟨Nat.lt_of_le_of_lt h.1 (nums_lt hp hq), Nat.le_trans h.2 (dens_le hp hq)⟩
theorem Sz.int {a : Nat} {n : Int} (h : n.natAbs < 10 ^ a) : Sz a 0 (n : Rat) := ⟨by simpa using h, by simp⟩
end Go.Proofs.YthmmgjieppknkaaGreatDoor

namespace MLab
open Go.Lib
def dg (l : List UInt8) (i : Nat) : Nat := (l.getD i 48).toNat - 48
theorem dg_lt {l : List UInt8} (h : Dig l) (i : Nat) : dg l i ≤ 9 := by
  unfold dg
  by_cases hi : i < l.length
  · have := h l[i] (List.getElem_mem hi)
    rw [show l.getD i 48 = l[i] from by rw [List.getD_eq_getElem?_getD, List.getElem?_eq_getElem hi]; rfl]
    omega
  · rw [show l.getD i 48 = 48 from by rw [List.getD_eq_getElem?_getD, List.getElem?_eq_none (by omega)]; rfl]
    decide
theorem dg_at {l : List UInt8} {i : Nat} (h : i < l.length) : dg l i = l[i].toNat - 48 := by
  unfold dg; rw [show l.getD i 48 = l[i] from by rw [List.getD_eq_getElem?_getD, List.getElem?_eq_getElem h]; rfl]
def dval (d : Nat → Nat) : Nat → Nat → Nat
  | _, 0 => 0
  | i, k + 1 => d i * 10 ^ k + dval d (i + 1) k
theorem dval_congr {d e : Nat → Nat} : ∀ (k i : Nat), (∀ j, i ≤ j → j < i + k → d j = e j) → dval d i k = dval e i k
  | 0, _, _ => rfl
  | k + 1, i, h => by rw [dval, dval, h i (by omega) (by omega), dval_congr k (i + 1) (fun j h1 h2 => h j (by omega) (by omega))]
end MLab
namespace Go.Proofs.YthmmgjieppknkaaGreatDoor
open Go.RowKit MLab
theorem ba_toList (l : List UInt8) : (⟨l.toArray⟩ : ByteArray).toList = l := by rw [Lib.toList_data]
theorem ba_size (l : List UInt8) : (⟨l.toArray⟩ : ByteArray).size = l.length := by rw [Lib.size_eq]
end Go.Proofs.YthmmgjieppknkaaGreatDoor
namespace Go.Proofs.YthmmgjieppknkaaGreatDoor
open Go.RowKit MLab
theorem take_snoc {l : List UInt8} {k : Nat} (h : k < l.length) : l.take (k + 1) = l.take k ++ [l[k]] := List.take_succ_eq_append_getElem h
theorem mag_T_len {s : ByteArray} {z : Int} (hs : s.data.toList = T z) : (Lib.decDigits z.natAbs).length ≤ s.size ∧ s.size ≤ (Lib.decDigits z.natAbs).length + 1 := by
  rw [Lib.size_eq, hs, T_length]; split <;> omega
end Go.Proofs.YthmmgjieppknkaaGreatDoor

namespace Go.Proofs.YthmmgjieppknkaaGreatDoor
open Go.RowKit MLab
theorem data47 : (⟨#[47]⟩ : ByteArray).data.toList = [47] := rfl
theorem numL_len (l : List UInt8) : (numL l).length ≤ l.length := by rw [numL, List.length_take]; omega
theorem denL_len (l : List UInt8) : (denL l).length ≤ l.length + 1 := by
  unfold denL; split
  · rw [List.length_drop]; omega
  · simp
set_option maxRecDepth 100000 in
set_option maxHeartbeats 1000000 in
theorem rcut_any (w : World) (s : ByteArray) (l : List UInt8) (hl : s.data.toList = l) (hsz : s.size < 4000000000) (hs : Std w) :
    Calls Tryz.prog 122 #[.string s] w fun e w' => e = .returned (.tuple #[.string ⟨(numL l).toArray⟩, .string ⟨(denL l).toArray⟩, .bool (wrB l)]) ∧ Below w.heap.size w w' := by
  have h1 := Tryz.strings_Cut_shaped s ⟨#[47]⟩ w hs.shp (by omega)
  rw [data47, hl, cut_slash] at h1
  by_cases hlt : sl l < l.length
  · rw [if_pos hlt] at h1
    have hw : wrB l = true := decide_eq_true hlt
    rw [hw]
    have H1 := hide h1
    clear h1 hl hlt hw hs
    go_enter Tryz.func122, Tryz.ntmps122
    go_wp2_with fail
    refine H1.out.mono ?_
    rintro e w1 ⟨rfl, n, rfl⟩
    go_wp2_with fail
    go_ret3
    exact ⟨rfl, below_drewN (Below.refl _ _) n⟩
  · rw [if_neg hlt] at h1
    have hw : wrB l = false := decide_eq_false hlt
    have hn : numL l = l := by rw [numL, List.take_of_length_le (by omega)]
    have hd : denL l = [49] := by rw [denL, if_neg hlt]
    rw [hw, hn, hd]
    have H1 := hide h1
    clear h1 hl hlt hw hn hd hs
    go_enter Tryz.func122, Tryz.ntmps122
    go_wp2_with fail
    refine H1.out.mono ?_
    rintro e w1 ⟨rfl, n, rfl⟩
    go_wp2_with fail
    go_ret3
    exact ⟨rfl, below_drewN (Below.refl _ _) n⟩
theorem std_next {w w1 : World} (h : Std w) (hb : Below w.heap.size w w1) : Std w1 := h.below hb (Nat.le_refl _)
set_option maxRecDepth 100000 in
set_option maxHeartbeats 4000000 in
theorem rcheck_any (w : World) (s : ByteArray) (l : List UInt8) (hl : s.data.toList = l) (hsz : s.size < 4000000000) (hs : Std w) :
    Calls Tryz.prog 101 #[.string s] w fun e w' => e = .returned (.int .i64 (chkR l)) ∧ Below w.heap.size w w' := by
  have HL := hide hl
  have HS := hide hs
  have hlz : l.length < 4000000000 := by rw [← hl, ← Lib.size_eq]; exact hsz
  have sn : (⟨(numL l).toArray⟩ : ByteArray).size ≤ 9223372036854775807 := by rw [ba_size]; have := numL_len l; omega
  have sd : (⟨(denL l).toArray⟩ : ByteArray).size ≤ 9223372036854775807 := by rw [ba_size]; have := denL_len l; omega
  have SN := hide sn
  have SD := hide sd
  clear hl hs sn sd
  by_cases e3 : chk (numL l) = 3
  · have hc : chkR l = 3 := by rw [chkR, if_pos (.inl e3)]
    have HC := hide hc
    have E3 := hide e3
    clear e3 hc
    go_enter Tryz.func101, Tryz.ntmps101
    go_wp2_with fail
    refine (rcut_any _ s l HL.out hsz HS.out).mono ?_
    rintro e w1 ⟨rfl, hb1⟩
    have B1 := hide hb1
    clear hb1
    go_wp2_with fail
    refine (check_any _ (numL l) rfl SN.out _).mono ?_
    rintro e w2 ⟨rfl, hb2⟩
    have B2 := hide (B1.out.trans (hb2.mono B1.out.size))
    clear hb2
    rw [E3.out]
    go_wp2_with fail
    refine (check_any _ (denL l) rfl SD.out _).mono ?_
    rintro e w3 ⟨rfl, hb3⟩
    have B3 := hide (B2.out.trans (hb3.mono B2.out.size))
    clear hb3
    go_wp2_with fail
    go_ret
    exact ⟨by rw [HC.out]; rfl, B3.out⟩
  · have he := chk_vals (numL l)
    by_cases f3 : chk (denL l) = 3
    · have hc : chkR l = 3 := by rw [chkR, if_pos (.inr f3)]
      have HC := hide hc
      have F3 := hide f3
      have e03 : (chk (numL l) == 3) = false := by rw [beq_eq_false_iff_ne]; exact e3
      clear e3 f3 hc he
      go_enter Tryz.func101, Tryz.ntmps101
      go_wp2_with fail
      refine (rcut_any _ s l HL.out hsz HS.out).mono ?_
      rintro e w1 ⟨rfl, hb1⟩
      have B1 := hide hb1
      clear hb1
      go_wp2_with fail
      refine (check_any _ (numL l) rfl SN.out _).mono ?_
      rintro e w2 ⟨rfl, hb2⟩
      have B2 := hide (B1.out.trans (hb2.mono B1.out.size))
      clear hb2
      go_wp2_with fail
      refine (check_any _ (denL l) rfl SD.out _).mono ?_
      rintro e w3 ⟨rfl, hb3⟩
      have B3 := hide (B2.out.trans (hb3.mono B2.out.size))
      clear hb3
      rw [F3.out]
      go_wp2_with fail
      go_ret
      exact ⟨by rw [HC.out]; rfl, B3.out⟩
    · have hf := chk_vals (denL l)
      by_cases e0 : chk (numL l) = 0
      · by_cases f0 : chk (denL l) = 0
        · obtain ⟨n, hn, hnb⟩ := chk_zero e0
          obtain ⟨d, hd, hdb⟩ := chk_zero f0
          have hcc : chkR l = if wrB l = false then 0 else if 1 < d ∧ Int.gcd n d = 1 then 0 else 3 := by
            rw [chkR, if_neg (by omega), if_neg (by omega), ← hn, ← hd, atoi_T, atoi_T]; rfl
          have E0 := hide e0
          have F0 := hide f0
          clear e3 f3 e0 f0 he hf
          cases hw : wrB l
          · have hc : chkR l = 0 := by rw [hcc, if_pos hw]
            have HC := hide hc
            have HW := hide hw
            clear hc hcc hn hd hw
            go_enter Tryz.func101, Tryz.ntmps101
            go_wp2_with fail
            refine (rcut_any _ s l HL.out hsz HS.out).mono ?_
            rintro e w1 ⟨rfl, hb1⟩
            have B1 := hide hb1
            clear hb1
            rw [HW.out]
            go_wp2_with fail
            refine (check_any _ (numL l) rfl SN.out _).mono ?_
            rintro e w2 ⟨rfl, hb2⟩
            have B2 := hide (B1.out.trans (hb2.mono B1.out.size))
            clear hb2
            rw [E0.out]
            go_wp2_with fail
            refine (check_any _ (denL l) rfl SD.out _).mono ?_
            rintro e w3 ⟨rfl, hb3⟩
            have B3 := hide (B2.out.trans (hb3.mono B2.out.size))
            clear hb3
            rw [F0.out]
            go_wp2_with fail
            go_ret
            exact ⟨by rw [HC.out]; rfl, B3.out⟩
          · rw [if_neg (by rw [hw]; simp)] at hcc
            have HW := hide hw
            have hn2 : (⟨(numL l).toArray⟩ : ByteArray) = ⟨(T n).toArray⟩ := by rw [hn]
            have hd2 : (⟨(denL l).toArray⟩ : ByteArray) = ⟨(T d).toArray⟩ := by rw [hd]
            have HN := hide hn2
            have HD := hide hd2
            have hgt : (⟨(T (Int.gcd n d : Int)).toArray⟩ : ByteArray).toList = T (Int.gcd n d : Int) := ba_toList _
            have HCC := hide hcc
            have HGT := hide hgt
            clear hn hd hn2 hd2 hcc hw hgt
            go_enter Tryz.func101, Tryz.ntmps101
            go_wp2_with fail
            refine (rcut_any _ s l HL.out hsz HS.out).mono ?_
            rintro e w1 ⟨rfl, hb1⟩
            have B1 := hide hb1
            clear hb1
            rw [HW.out]
            go_wp2_with fail
            refine (check_any _ (numL l) rfl SN.out _).mono ?_
            rintro e w2 ⟨rfl, hb2⟩
            have B2 := hide (B1.out.trans (hb2.mono B1.out.size))
            clear hb2
            rw [E0.out]
            go_wp2_with fail
            refine (check_any _ (denL l) rfl SD.out _).mono ?_
            rintro e w3 ⟨rfl, hb3⟩
            have B3 := hide (B2.out.trans (hb3.mono B2.out.size))
            clear hb3
            rw [F0.out]
            rw [HN.out, HD.out]
            go_wp2_with fail
            refine (compare_any _ _ _ d 1 ⟨rfl, T_one.symm, hdb, one_lt_big⟩).mono ?_
            rintro e w4 ⟨rfl, hb4⟩
            have B4 := hide (B3.out.trans (hb4.mono B3.out.size))
            clear hb4
            go_wp2_with fail
            refine (gcd_any _ _ _ n d ⟨rfl, rfl, hnb, hdb⟩ (std_next HS.out B4.out)).mono ?_
            rintro e w5 ⟨rfl, hb5⟩
            have B5 := hide (B4.out.trans (hb5.mono B4.out.size))
            clear hb5
            generalize (⟨(T (Int.gcd n d : Int)).toArray⟩ : ByteArray) = g at *
            by_cases h1 : 1 < d
            · have hsg : ¬ d ≤ 1 := by omega
              by_cases h2 : Int.gcd n d = 1
              · have hc : chkR l = 0 := by rw [HCC.out, if_pos ⟨h1, h2⟩]
                have HC := hide hc
                have hg1 : (g.toList == [49]) = true := by rw [HGT.out, h2, show ((1 : Nat) : Int) = 1 from rfl, T_one]; rfl
                have hg2 : (!(g.toList == [49])) = false := by rw [hg1]; rfl
                clear hc h1 h2
                go_wp2_with fail
                go_ret
                exact ⟨by rw [HC.out]; rfl, B5.out⟩
              · have hc : chkR l = 3 := by rw [HCC.out, if_neg (fun h => h2 h.2)]
                have HC := hide hc
                have hg1 : (g.toList == [49]) = false := by
                  rw [beq_eq_false_iff_ne, HGT.out, ← T_one]; intro e; have := T_inj e; omega
                have hg2 : (!(g.toList == [49])) = true := by rw [hg1]; rfl
                clear hc h1 h2
                go_wp2_with fail
                go_ret
                exact ⟨by rw [HC.out]; rfl, B5.out⟩
            · have hsg : d ≤ 1 := by omega
              have hc : chkR l = 3 := by rw [HCC.out, if_neg (fun h => h1 h.1)]
              have HC := hide hc
              clear hc h1
              go_wp2_with fail
              go_ret
              exact ⟨by rw [HC.out]; rfl, B5.out⟩
        · have f11 : chk (denL l) = 11 := by omega
          have hc : chkR l = 11 := by rw [chkR, if_neg (by omega), if_pos (.inr f0)]
          have HC := hide hc
          have E0 := hide e0
          have F11 := hide f11
          clear e3 f3 e0 f0 f11 he hf hc
          go_enter Tryz.func101, Tryz.ntmps101
          go_wp2_with fail
          refine (rcut_any _ s l HL.out hsz HS.out).mono ?_
          rintro e w1 ⟨rfl, hb1⟩
          have B1 := hide hb1
          clear hb1
          go_wp2_with fail
          refine (check_any _ (numL l) rfl SN.out _).mono ?_
          rintro e w2 ⟨rfl, hb2⟩
          have B2 := hide (B1.out.trans (hb2.mono B1.out.size))
          clear hb2
          rw [E0.out]
          go_wp2_with fail
          refine (check_any _ (denL l) rfl SD.out _).mono ?_
          rintro e w3 ⟨rfl, hb3⟩
          have B3 := hide (B2.out.trans (hb3.mono B2.out.size))
          clear hb3
          rw [F11.out]
          go_wp2_with fail
          go_ret
          exact ⟨by rw [HC.out]; rfl, B3.out⟩
      · have e11 : chk (numL l) = 11 := by omega
        have hc : chkR l = 11 := by rw [chkR, if_neg (by omega), if_pos (.inl e0)]
        have HC := hide hc
        have E11 := hide e11
        rcases (show chk (denL l) = 0 ∨ chk (denL l) = 11 by omega) with f0 | f11
        · have F0 := hide f0
          clear e3 f3 e0 f0 e11 he hf hc
          go_enter Tryz.func101, Tryz.ntmps101
          go_wp2_with fail
          refine (rcut_any _ s l HL.out hsz HS.out).mono ?_
          rintro e w1 ⟨rfl, hb1⟩
          have B1 := hide hb1
          clear hb1
          go_wp2_with fail
          refine (check_any _ (numL l) rfl SN.out _).mono ?_
          rintro e w2 ⟨rfl, hb2⟩
          have B2 := hide (B1.out.trans (hb2.mono B1.out.size))
          clear hb2
          rw [E11.out]
          go_wp2_with fail
          refine (check_any _ (denL l) rfl SD.out _).mono ?_
          rintro e w3 ⟨rfl, hb3⟩
          have B3 := hide (B2.out.trans (hb3.mono B2.out.size))
          clear hb3
          rw [F0.out]
          go_wp2_with fail
          go_ret
          exact ⟨by rw [HC.out]; rfl, B3.out⟩
        · have F11 := hide f11
          clear e3 f3 e0 f11 e11 he hf hc
          go_enter Tryz.func101, Tryz.ntmps101
          go_wp2_with fail
          refine (rcut_any _ s l HL.out hsz HS.out).mono ?_
          rintro e w1 ⟨rfl, hb1⟩
          have B1 := hide hb1
          clear hb1
          go_wp2_with fail
          refine (check_any _ (numL l) rfl SN.out _).mono ?_
          rintro e w2 ⟨rfl, hb2⟩
          have B2 := hide (B1.out.trans (hb2.mono B1.out.size))
          clear hb2
          rw [E11.out]
          go_wp2_with fail
          refine (check_any _ (denL l) rfl SD.out _).mono ?_
          rintro e w3 ⟨rfl, hb3⟩
          have B3 := hide (B2.out.trans (hb3.mono B2.out.size))
          clear hb3
          rw [F11.out]
          go_wp2_with fail
          go_ret
          exact ⟨by rw [HC.out]; rfl, B3.out⟩
end Go.Proofs.YthmmgjieppknkaaGreatDoor
namespace Go.Proofs.YthmmgjieppknkaaGreatDoor
open Go.RowKit MLab
def chkRs (L : List (List UInt8)) : Int := match L with
  | [] => 0
  | l :: t => if chkR l = 0 then chkRs t else chkR l
theorem chkRs_skip : ∀ (L : List (List UInt8)) (k : Nat), (∀ i l, i < k → L[i]? = some l → chkR l = 0) → chkRs L = chkRs (L.drop k)
  | _, 0, _ => rfl
  | [], k + 1, _ => rfl
  | l :: t, k + 1, h => by
    rw [chkRs, if_pos (h 0 l (by omega) rfl), List.drop_succ_cons]
    exact chkRs_skip t k fun i l' hi hl => h (i + 1) l' (by omega) (by simpa using hl)
theorem chkRs_fit : ∀ {L : List Rat}, (∀ q ∈ L, Fit q) → chkRs (L.map RT) = 0
  | [], _ => rfl
  | q :: t, h => by
    rw [List.map_cons, chkRs, if_pos (chkR_RT (h q (by simp)))]
    exact chkRs_fit fun p hp => h p (by simp [hp])
set_option maxRecDepth 100000 in
set_option maxHeartbeats 1000000 in
theorem checks_any (w : World) (v : Value) (L : List (List UInt8)) (hv : Strs w v L) (hL : L.length ≤ 1000000) (hsz : ∀ l ∈ L, l.length < 4000000000) (hs : Std w) :
    Calls Tryz.prog 139 #[v] w fun e w' => e = .returned (.int .i64 (chkRs L)) ∧ Below w.heap.size w w' := by
  obtain ⟨A, c, rfl, hc⟩ := id hv
  have HV := hide hv
  have HC := hide hc
  have HSZ := hide hsz
  have HS := hide hs
  clear hv hc hsz hs
  go_enter Tryz.func139, Tryz.ntmps139
  go_wp2_with fail
  go_loopg [8] L.length (fun k i wr => ∃ j : Nat, i = .int .i64 (j : Int) ∧ k + j = L.length ∧ (∀ t l, t < j → L[t]? = some l → chkR l = 0) ∧ Below w.heap.size w wr)
  case atStart => exact ⟨0, rfl, rfl, fun t l h => by omega, Below.refl _ _⟩
  case round =>
    obtain ⟨j, rfl, hk, hok, hb⟩ := hrel
    have hj : j ≤ L.length := by omega
    have HK := hide hk
    have HOK := hide hok
    have HB := hide hb
    clear hk hok hb
    by_cases hlt : j < L.length
    · have hji : (j : Int) < (L.length : Int) := by omega
      obtain ⟨b, off, hA, hcell⟩ := HC.out (by omega)
      obtain ⟨s, h1, h2⟩ := hcell j _ (List.getElem?_eq_getElem hlt)
      have hsl : s.size < 4000000000 := by rw [Lib.size_eq, h2]; exact HSZ.out _ (List.getElem_mem hlt)
      have hc1 : wr.cell? ⟨b, off + j, none⟩ = some (.string s) := (HB.out.cell (p := ⟨b, off + j, none⟩) (block_lt_of_cell h1)).trans h1
      have H2 := hide h2
      clear hcell h1 h2
      subst hA
      go_wp2_with fail
      refine (rcheck_any _ s _ H2.out hsl (std_next HS.out HB.out)).mono ?_
      rintro e w2 ⟨rfl, hb2⟩
      have HB2 := hide hb2
      clear hb2
      by_cases hz : chkR L[j] = 0
      · have hz1 : (chkR L[j] == 0) = true := by rw [hz]; rfl
        have hz2 : (chkR L[j] != 0) = false := by rw [hz]; rfl
        have HZ := hide hz
        clear hz
        go_wp2_with fail
        go_roundg (gk - 1)
        case measure => have := HK.out; omega
        case rel =>
          refine ⟨j + 1, by go_num, by have := HK.out; omega, fun t l ht hl => ?_, HB.out.trans (HB2.out.mono HB.out.size)⟩
          by_cases e : t = j
          · subst e; rw [List.getElem?_eq_getElem hlt] at hl; injection hl with hl; rw [← hl]; exact HZ.out
          · exact HOK.out t l (by omega) hl
      · have hz1 : (chkR L[j] == 0) = false := by rw [beq_eq_false_iff_ne]; exact hz
        have hz2 : (chkR L[j] != 0) = true := by rw [bne_iff_ne]; exact hz
        have HZ := hide hz
        clear hz
        go_wp2_with fail
        go_ret
        refine ⟨?_, HB.out.trans (HB2.out.mono HB.out.size)⟩
        rw [chkRs_skip L j HOK.out, List.drop_eq_getElem_cons hlt, chkRs, if_neg HZ.out]; rfl
    · have hji : ¬ (j : Int) < (L.length : Int) := by omega
      go_wp2_with fail
      go_ret
      refine ⟨?_, HB.out⟩
      rw [chkRs_skip L j HOK.out, List.drop_of_length_le (by omega)]; rfl
theorem RT_len {q : Rat} (h : Fit q) : (RT q).length ≤ 2051 := by
  have h1 := T_len_big h.1
  have h2 := big_len.2 h.2
  unfold RT
  split
  · omega
  · rw [List.length_append, List.length_cons]; omega
theorem checks_two (w : World) (a b : ByteArray) (p q : Rat) (ha : a.data.toList = RT p) (hb : b.data.toList = RT q) (hp : Fit p) (hq : Fit q) (t : TypeId) (hs : Std w) :
    Calls Tryz.prog 139 #[.slice (some ⟨w.heap.size, 0, none⟩) 2 2] (w.alloc (.cells #[.string a, .string b] t)) fun e w' => e = .returned (.int .i64 0) ∧ Below w.heap.size w w' := by
  have h1 := strs_two w a b t
  rw [ha, hb] at h1
  have hbl : Below w.heap.size w (w.alloc (.cells #[.string a, .string b] t)) := (Below.refl _ _).alloc (Nat.le_refl _) _
  refine (checks_any _ _ _ h1 (by simp) ?_ (std_next hs hbl)).mono ?_
  · intro l hl
    have l1 := RT_len hp
    have l2 := RT_len hq
    rcases List.mem_cons.1 hl with rfl | hl
    · omega
    · rcases List.mem_cons.1 hl with rfl | hl
      · omega
      · cases hl
  · rintro e w' ⟨rfl, hbb⟩
    rw [show chkRs [RT p, RT q] = 0 from chkRs_fit (L := [p, q]) (fun x hx => by
      rcases List.mem_cons.1 hx with rfl | hx
      · exact hp
      · rcases List.mem_cons.1 hx with rfl | hx
        · exact hq
        · cases hx)]
    exact ⟨rfl, hbl.trans (hbb.mono (by simp))⟩
set_option maxRecDepth 100000 in
theorem do_err (w : World) (b : Nat) (f : FuncId) (s t : ByteArray) (e0 : Int) (he : e0 ≠ 0) (hb : Sums w b e0) :
    Calls Tryz.prog 141 #[.pointer (some ⟨b, 0, none⟩), .func (.func f) #[] #[], .string s, .string t] w fun e w' => e = .returned (.string ⟨#[48]⟩) ∧ w = w' := by
  have c0 := hb.err
  have e1 : (e0 != 0) = true := by rw [bne_iff_ne]; exact he
  have e2 : (e0 == 0) = false := by rw [beq_eq_false_iff_ne]; exact he
  clear hb he
  go_enter Tryz.func141, Tryz.ntmps141
  go_wp2_with fail
  go_ret
  exact ⟨rfl, rfl⟩
def mulStep (p : Int × Int) (z : Int) : Int × Int := if p.2 ≠ 0 then (0, p.2) else if (p.1 * z).natAbs < Big then (p.1 * z, 0) else (0, 11)
def mulS (e : Int) (zs : List Int) : Int × Int := zs.foldl mulStep (1, e)
theorem mulS_snoc (e : Int) (zs : List Int) (z : Int) : mulS e (zs ++ [z]) = mulStep (mulS e zs) z := by rw [mulS, List.foldl_append]; rfl
theorem mulS_big (e : Int) : ∀ zs, (mulS e zs).1.natAbs < Big := by
  have h0 : (0 : Int).natAbs < Big := Nat.lt_of_lt_of_le (by decide) (Nat.le_of_lt one_lt_big)
  have key : ∀ (zs : List Int) (p : Int × Int), p.1.natAbs < Big → (zs.foldl mulStep p).1.natAbs < Big := by
    intro zs
    induction zs with
    | nil => intro p h; exact h
    | cons z t ih =>
      intro p h
      refine ih _ ?_
      unfold mulStep
      split
      · exact h0
      · split
        · assumption
        · exact h0
  exact fun zs => key zs _ one_lt_big
set_option maxRecDepth 100000 in
set_option maxHeartbeats 2000000 in
theorem rmul_any (w : World) (b g : Nat) (zs : List Int) (t : TypeId) (e0 : Int) (hg : Blk w g t ((zs.map fun z => Value.string ⟨(T z).toArray⟩).toArray)) (hgb : g ≠ b) (hz : ∀ z ∈ zs, z.natAbs < Big) (hL : zs.length ≤ 1000000) (hb : Sums w b e0) (hs : ∀ W, w.grownBy W (some b) → Std W) (cap : Nat) :
    Calls Tryz.prog 107 #[.pointer (some ⟨b, 0, none⟩), .slice (some ⟨g, 0, none⟩) zs.length cap] w fun e w' => e = .returned (.string ⟨(T (mulS e0 zs).1).toArray⟩) ∧ w.grownBy w' (some b) ∧ Sums w' b (mulS e0 zs).2 := by
  have HG := hide hg
  have HZ := hide hz
  have HB := hide hb
  have HS := hide hs
  clear hg hz hb hs
  go_enter Tryz.func107, Tryz.ntmps107
  go_wp2_with fail
  go_loopg [5, 13] zs.length (fun k v i wr => ∃ j : Nat, i = .int .i64 (j : Int) ∧ k + j = zs.length ∧ v = .string ⟨(T (mulS e0 (zs.take j)).1).toArray⟩ ∧ w.grownBy wr (some b) ∧ Sums wr b (mulS e0 (zs.take j)).2)
  case atStart => exact ⟨0, rfl, rfl, by rw [List.take_zero]; exact congrArg (fun l : List UInt8 => Value.string ⟨l.toArray⟩) T_one.symm, only_refl _ _, HB.out⟩
  case round =>
    obtain ⟨j, rfl, hk, rfl, hgr, hS⟩ := hrel
    have hj : j ≤ zs.length := by omega
    have HK := hide hk
    have HGR := hide hgr
    clear hk hgr
    by_cases hlt : j < zs.length
    · have hji : (j : Int) < (zs.length : Int) := by omega
      have hgw := HG.out.grown HGR.out (by intro e; injection e with e; exact hgb e)
      have hc : wr.cell? ⟨g, j, none⟩ = some (.string ⟨(T zs[j]).toArray⟩) := by rw [hgw.cell]; simp [hlt]
      have hsn : mulS e0 (zs.take (j + 1)) = mulStep (mulS e0 (zs.take j)) zs[j] := by rw [List.take_succ_eq_append_getElem hlt, mulS_snoc]
      have hbig := mulS_big e0 (zs.take j)
      have hzb := HZ.out _ (List.getElem_mem hlt)
      have HSN := hide hsn
      have HBG := hide hbig
      have HZB := hide hzb
      clear hsn hbig hzb hgw
      generalize hp : mulS e0 (zs.take j) = p at *
      have HP := hide hp
      clear hp
      generalize zs[j] = z at *
      by_cases he : p.2 = 0
      · have HE := hide he
        rw [he] at hS
        have D1 := hide (do_mul wr b ⟨(T p.1).toArray⟩ ⟨(T z).toArray⟩ _ hS (mul_any wr _ _ p.1 z ⟨rfl, rfl, HBG.out, HZB.out⟩ (HS.out _ HGR.out)))
        clear hS he
        go_wp2_with fail
        refine D1.out.mono ?_
        rintro e w1 ⟨rfl, hg1, hS1⟩
        have G1 := hide (only_trans HGR.out hg1)
        have S1 := hide hS1
        clear hg1 hS1 D1
        go_wp2_with fail
        go_roundg (gk - 1)
        case measure => have := HK.out; omega
        case rel =>
          refine ⟨j + 1, by go_num, by have := HK.out; omega, ?_, G1.out, ?_⟩
          · rw [HSN.out, mulStep, if_neg (by rw [HE.out]; simp)]
            by_cases h : (p.1 * z).natAbs < Big
            · rw [if_pos h, doRes_ok h]
            · rw [if_neg h, lim_no h]; exact congrArg (fun l : List UInt8 => Value.string ⟨l.toArray⟩) T_zero.symm
          · rw [HSN.out, mulStep, if_neg (by rw [HE.out]; simp)]
            have := S1.out
            by_cases h : (p.1 * z).natAbs < Big
            · rw [if_pos h]; rw [lim_ok h] at this; exact this
            · rw [if_neg h]; rw [lim_no h] at this; exact this
      · have HE := hide he
        have D1 := hide (do_err wr b 127 ⟨(T p.1).toArray⟩ ⟨(T z).toArray⟩ _ he hS)
        have S0 := hide hS
        clear hS he
        go_wp2_with fail
        refine D1.out.mono ?_
        rintro e w1 ⟨rfl, rfl⟩
        clear D1
        go_wp2_with fail
        go_roundg (gk - 1)
        case measure => have := HK.out; omega
        case rel =>
          refine ⟨j + 1, by go_num, by have := HK.out; omega, ?_, HGR.out, ?_⟩
          · rw [HSN.out, mulStep, if_pos HE.out]; exact congrArg (fun l : List UInt8 => Value.string ⟨l.toArray⟩) T_zero.symm
          · rw [HSN.out, mulStep, if_pos HE.out]; exact S0.out
    · have hji : ¬ (j : Int) < (zs.length : Int) := by omega
      have hf : zs.take j = zs := List.take_of_length_le (by omega)
      rw [hf] at hS
      have HF := hide hf
      have S0 := hide hS
      clear hS hf
      go_wp2_with fail
      go_ret
      exact ⟨by rw [HF.out]; rfl, HGR.out, S0.out⟩
theorem mulS_two {a b : Int} (ha : a.natAbs < Big) : mulS 0 [a, b] = if (a * b).natAbs < Big then (a * b, 0) else (0, 11) := by
  have h1 : mulStep (1, 0) a = (a, 0) := by
    rw [mulStep, if_neg (by simp), if_pos (by rw [Int.one_mul]; exact ha), Int.one_mul]
  rw [mulS, List.foldl_cons, List.foldl_cons, List.foldl_nil, h1, mulStep, if_neg (by simp)]
theorem mulS_err {e a b : Int} (he : e ≠ 0) : mulS e [a, b] = (0, e) := by
  show mulStep (mulStep (1, e) a) b = _
  have h1 : ∀ x z : Int, mulStep (x, e) z = (0, e) := fun x z => by unfold mulStep; rw [if_pos he]
  rw [h1, h1]
def cmpV (p q : Rat) : Value := if (p.num * q.den).natAbs < Big ∧ (q.num * p.den).natAbs < Big then .tuple #[.int .i64 (p.num * q.den - q.num * p.den).sign, .int .i64 0] else .tuple #[.int .i64 0, .int .i64 11]
set_option maxRecDepth 100000 in
set_option maxHeartbeats 4000000 in
theorem rcompare_any (w : World) (a b : ByteArray) (p q : Rat) (ha : a.data.toList = RT p) (hb : b.data.toList = RT q) (hp : Fit p) (hq : Fit q) (hs : Std w) :
    Calls Tryz.prog 103 #[.string a, .string b] w fun e w' => e = .returned (cmpV p q) ∧ Below w.heap.size w w' := by
  have HA := hide ha
  have HB := hide hb
  have HP := hide hp
  have HQ := hide hq
  have HS := hide hs
  have az : a.size < 4000000000 := by rw [Lib.size_eq, ha]; have := RT_len hp; omega
  have bz : b.size < 4000000000 := by rw [Lib.size_eq, hb]; have := RT_len hq; omega
  have C0 := hide (fun t => checks_two w a b p q ha hb hp hq t hs)
  have e1 : (⟨(numL (RT p)).toArray⟩ : ByteArray) = ⟨(T p.num).toArray⟩ := by rw [RT_num]
  have e2 : (⟨(denL (RT p)).toArray⟩ : ByteArray) = ⟨(T (p.den : Int)).toArray⟩ := by rw [RT_den]
  have e3 : (⟨(numL (RT q)).toArray⟩ : ByteArray) = ⟨(T q.num).toArray⟩ := by rw [RT_num]
  have e4 : (⟨(denL (RT q)).toArray⟩ : ByteArray) = ⟨(T (q.den : Int)).toArray⟩ := by rw [RT_den]
  have E1 := hide e1
  have E2 := hide e2
  have E3 := hide e3
  have E4 := hide e4
  clear ha hb hp hq hs e1 e2 e3 e4
  go_enter Tryz.func103, Tryz.ntmps103
  go_wp2_with fail
  refine (C0.out _).mono ?_
  rintro e w1 ⟨rfl, hb1⟩
  have B1 := hide hb1
  clear hb1 C0
  go_wp2_with fail
  refine (rcut_any _ a _ HA.out az (std_next HS.out B1.out)).mono ?_
  rintro e w2 ⟨rfl, hb2⟩
  rw [E1.out, E2.out]
  have B2 := hide (B1.out.trans (hb2.mono B1.out.size))
  clear hb2 B1
  go_wp2_with fail
  refine (rcut_any _ b _ HB.out bz (std_next HS.out B2.out)).mono ?_
  rintro e w3 ⟨rfl, hb3⟩
  rw [E3.out, E4.out]
  have B3 := hide (B2.out.trans (hb3.mono B2.out.size))
  clear hb3 B2
  go_upto_region 7 with (fail)
  have hS0 : Sums (w3.alloc (.cells #[.int .i64 0] 200)) w3.heap.size 0 := Blk.new w3 _ _
  have hb4 : Below w.heap.size w (w3.alloc (.cells #[.int .i64 0] 200)) := B3.out.alloc B3.out.size _
  have hz4 : w3.heap.size < (w3.alloc (.cells #[.int .i64 0] 200)).heap.size := by simp
  have hw3 := B3.out.size
  generalize (w3.alloc (.cells #[.int .i64 0] 200)) = w4 at *
  have S4 := hide hS0
  have B4 := hide hb4
  clear hS0 hb4
  go_wp2_with fail
  have hg5 := Blk.new w4 116 #[.string ⟨(T p.num).toArray⟩, .string ⟨(T (q.den : Int)).toArray⟩]
  have hS5 : Sums (w4.alloc (.cells #[.string ⟨(T p.num).toArray⟩, .string ⟨(T (q.den : Int)).toArray⟩] 116)) w3.heap.size 0 := Blk.alloc S4.out _
  have hb5 : Below w.heap.size w (w4.alloc (.cells #[.string ⟨(T p.num).toArray⟩, .string ⟨(T (q.den : Int)).toArray⟩] 116)) := B4.out.alloc B4.out.size _
  have hz5 : w4.heap.size < (w4.alloc (.cells #[.string ⟨(T p.num).toArray⟩, .string ⟨(T (q.den : Int)).toArray⟩] 116)).heap.size := by simp
  generalize (w4.alloc (.cells #[.string ⟨(T p.num).toArray⟩, .string ⟨(T (q.den : Int)).toArray⟩] 116)) = w5 at *
  have hst5 : ∀ W, w5.grownBy W (some w3.heap.size) → Below w.heap.size w W := fun W hg => below_only hb5 hg (by omega) hw3
  have X1 := hide (rmul_any w5 w3.heap.size w4.heap.size [p.num, (q.den : Int)] _ 0 hg5 (by omega) (by
    intro z hz
    rcases List.mem_cons.1 hz with rfl | hz
    · exact HP.out.1
    · rcases List.mem_cons.1 hz with rfl | hz
      · exact HQ.out.2
      · cases hz) (by simp) hS5 (fun W hg => std_next HS.out (hst5 W hg)) 2)
  have ST5 := hide hst5
  clear hg5 hS5 hb5 hst5
  refine X1.out.mono ?_
  rintro e w6 ⟨rfl, hg6, hS6⟩
  have B6 := hide (ST5.out _ hg6)
  have hz6 : w4.heap.size < w6.heap.size := Nat.lt_of_lt_of_le hz5 hg6.size
  have m1 := mulS_two (a := p.num) (b := (q.den : Int)) HP.out.1
  have M1 := hide m1
  have S6 := hide hS6
  clear hg6 hS6 m1 X1 ST5
  go_wp2_with fail
  have hg7 := Blk.new w6 116 #[.string ⟨(T q.num).toArray⟩, .string ⟨(T (p.den : Int)).toArray⟩]
  have hS7 : Sums (w6.alloc (.cells #[.string ⟨(T q.num).toArray⟩, .string ⟨(T (p.den : Int)).toArray⟩] 116)) w3.heap.size _ := Blk.alloc S6.out _
  have hb7 : Below w.heap.size w (w6.alloc (.cells #[.string ⟨(T q.num).toArray⟩, .string ⟨(T (p.den : Int)).toArray⟩] 116)) := B6.out.alloc B6.out.size _
  have hz7 : w6.heap.size < (w6.alloc (.cells #[.string ⟨(T q.num).toArray⟩, .string ⟨(T (p.den : Int)).toArray⟩] 116)).heap.size := by simp
  generalize (w6.alloc (.cells #[.string ⟨(T q.num).toArray⟩, .string ⟨(T (p.den : Int)).toArray⟩] 116)) = w7 at *
  have hst7 : ∀ W, w7.grownBy W (some w3.heap.size) → Below w.heap.size w W := fun W hg => below_only hb7 hg (by omega) hw3
  have X2 := hide (rmul_any w7 w3.heap.size w6.heap.size [q.num, (p.den : Int)] _ _ hg7 (by omega) (by
    intro z hz
    rcases List.mem_cons.1 hz with rfl | hz
    · exact HQ.out.1
    · rcases List.mem_cons.1 hz with rfl | hz
      · exact HP.out.2
      · cases hz) (by simp) hS7 (fun W hg => std_next HS.out (hst7 W hg)) 2)
  have ST7 := hide hst7
  clear hg7 hS7 hb7 hst7
  refine X2.out.mono ?_
  rintro e w8 ⟨rfl, hg8, hS8⟩
  have B8 := hide (ST7.out _ hg8)
  clear hg8 X2 ST7
  by_cases h1 : (p.num * q.den).natAbs < Big
  · rw [M1.out, if_pos h1] at hS8
    rw [M1.out, if_pos h1]
    have m2 := mulS_two (a := q.num) (b := (p.den : Int)) HQ.out.1
    rw [m2] at hS8
    rw [m2]
    clear m2
    by_cases h2 : (q.num * p.den).natAbs < Big
    · rw [if_pos h2] at hS8
      rw [if_pos h2]
      have c8 := Sums.err hS8
      have H1 := hide h1
      have H2 := hide h2
      have HC := hide (show cmpV p q = .tuple #[.int .i64 (p.num * q.den - q.num * p.den).sign, .int .i64 0] by rw [cmpV, if_pos ⟨h1, h2⟩])
      clear hS8 h1 h2
      go_wp2_with fail
      refine (compare_any _ _ _ (p.num * q.den) (q.num * p.den) ⟨rfl, rfl, H1.out, H2.out⟩).mono ?_
      rintro e w9 ⟨rfl, hb9⟩
      have B9 := hide (B8.out.trans (hb9.mono B8.out.size))
      clear hb9
      go_wp2_with fail
      go_ret2
      exact ⟨by rw [HC.out]; rfl, B9.out⟩
    · rw [if_neg h2] at hS8
      rw [if_neg h2]
      have c8 := Sums.err hS8
      have HC := hide (show cmpV p q = .tuple #[.int .i64 0, .int .i64 11] by rw [cmpV, if_neg (fun h => h2 h.2)])
      clear hS8 h1 h2
      go_wp2_with fail
      go_quiet (fail)
      go_wp2_with fail
      go_ret2
      exact ⟨by rw [HC.out]; rfl, below_drewN B8.out _⟩
  · rw [M1.out, if_neg h1] at hS8
    rw [M1.out, if_neg h1]
    have m2 := mulS_err (e := 11) (a := q.num) (b := (p.den : Int)) (by decide)
    rw [m2] at hS8
    rw [m2]
    clear m2
    have c8 := Sums.err hS8
    have HC := hide (show cmpV p q = .tuple #[.int .i64 0, .int .i64 11] by rw [cmpV, if_neg (fun h => h1 h.1)])
    clear hS8 h1
    go_wp2_with fail
    go_quiet (fail)
    go_wp2_with fail
    go_ret2
    exact ⟨by rw [HC.out]; rfl, below_drewN B8.out _⟩
end Go.Proofs.YthmmgjieppknkaaGreatDoor

namespace Go.Proofs.YthmmgjieppknkaaGreatDoor
open Go.RowKit MLab
set_option maxRecDepth 100000 in
set_option maxHeartbeats 1000000 in

theorem rparts_any (w : World) (a : ByteArray) (p : Rat) (ha : a.data.toList = RT p) (hp : Fit p) (hs : Std w) :
    Calls Tryz.prog 80 #[.string a] w fun e w' => e = .returned (.tuple #[.string ⟨(T p.num).toArray⟩, .string ⟨(T (p.den : Int)).toArray⟩, .int .i64 0]) ∧ Below w.heap.size w w' := by
  have az : a.size < 4000000000 := by rw [Lib.size_eq, ha]; have := RT_len hp; omega
  have hc := rcheck_any w a _ ha az hs
  rw [chkR_RT hp] at hc
  have HC := hide hc
  have HS := hide hs
  have hcut := fun W hW => rcut_any W a _ ha az hW
  rw [RT_num, RT_den] at hcut
  have HK := hide hcut
  clear ha hp hs hc hcut az
  go_enter Tryz.func80, Tryz.ntmps80
  go_wp2_with fail
  refine HC.out.mono ?_
  rintro e w1 ⟨rfl, hb1⟩
  have B1 := hide hb1
  clear hb1
  go_wp2_with fail
  refine (HK.out _ (std_next HS.out B1.out)).mono ?_
  rintro e w2 ⟨rfl, hb2⟩
  have B2 := hide (B1.out.trans (hb2.mono B1.out.size))
  clear hb2
  go_wp2_with fail
  exact bodyPost_ret (v := .tuple #[.string ⟨(T p.num).toArray⟩, .string ⟨(T (p.den : Int)).toArray⟩, .int .i64 0]) (by simp [results, Tryz.results80, go_sem]) rfl ⟨rfl, B2.out⟩
end Go.Proofs.YthmmgjieppknkaaGreatDoor
