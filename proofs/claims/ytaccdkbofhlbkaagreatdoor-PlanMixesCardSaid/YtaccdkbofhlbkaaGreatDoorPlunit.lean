/- ratio.Sign, plan.unit; the reference: Signum, Unit, Over. -/
import Derived.Test.YtaccdkbofhlbkaaGreatDoorPlout
import Derived.Test.YtaccdkbofhlbkaaGreatDoorNeg
import Derived.Test.YtaccdkbofhlbkaaGreatDoorRrck
import Derived.Test.YtaccdkbofhlbkaaGreatDoorRord
namespace Go.Proofs.YtaccdkbofhlbkaaGreatDoor
open Go.RowKit Go.Shelf MLab

theorem chkR_ne {l : List UInt8} (h : chkR l ≠ 0) : ∃ z : Int, chkR l = z ∧ ¬ z = 0 := ⟨_, rfl, h⟩
set_option maxRecDepth 100000 in
set_option maxHeartbeats 2000000 in
theorem rparts_bad (w : World) (a : ByteArray) (l : List UInt8) (hl : a.data.toList = l) (hL : l.length < 4000000000) (h : chkR l ≠ 0) (hs : Std w) :
    Calls Tryz.prog 59 #[.string a] w fun e w' => e = .returned (.tuple #[.string ⟨#[]⟩, .string ⟨#[]⟩, .int .i64 (chkR l)]) ∧ Below w.heap.size w w' := by
  have az : a.size < 4000000000 := by rw [Lib.size_eq, hl]; omega
  have HC := hide (rcheck_any w a l hl az hs)
  obtain ⟨z, hz, hz0⟩ := chkR_ne h
  rw [hz] at HC ⊢
  have HZ : Hid (¬ z = 0) := hide hz0
  have hzi : ¬ (z == 0) = true := by simpa using hz0
  clear hl hs az hz h
  go_enter Tryz.func59, Tryz.ntmps59
  go_wp2_with fail
  refine HC.out.mono ?_
  rintro e w1 ⟨rfl, hb1⟩
  have HB := hide hb1
  clear hb1 HC
  go_wp2_with fail
  exact bodyPost_ret (v := .tuple #[.string ⟨#[]⟩, .string ⟨#[]⟩, .int .i64 z]) (by simp [results, Tryz.results59, go_sem]) rfl ⟨rfl, HB.out⟩

set_option maxRecDepth 100000 in
set_option maxHeartbeats 2000000 in
theorem rsign_bad (w : World) (a : ByteArray) (l : List UInt8) (hl : a.data.toList = l) (hL : l.length < 4000000000) (h : chkR l ≠ 0) (hs : Std w) :
    Calls Tryz.prog 105 #[.string a] w fun e w' => e = .returned (.tuple #[.int .i64 0, .int .i64 (chkR l)]) ∧ Below w.heap.size w w' := by
  have HC := hide (rparts_bad w a l hl hL h hs)
  obtain ⟨z, hz, hz0⟩ := chkR_ne h
  rw [hz] at HC ⊢
  clear hl hs hz h
  go_enter Tryz.func105, Tryz.ntmps105
  go_wp2_with fail
  refine HC.out.mono ?_
  rintro e w1 ⟨rfl, hb1⟩
  have HB := hide hb1
  clear hb1 HC
  go_wp2_with fail
  go_ret2
  exact ⟨rfl, HB.out⟩

set_option maxRecDepth 100000 in
set_option maxHeartbeats 2000000 in
theorem wsign_any (w : World) (s : ByteArray) (z : Int) (hs : s.data.toList = T z) (hz : z.natAbs < Big) :
    Calls Tryz.prog 138 #[.string s] w fun e w' => e = .returned (.tuple #[.int .i64 z.sign, .int .i64 0]) ∧ Below w.heap.size w w' := by
  have HC := hide (check_any s _ hs (by have := T_size hs hz; omega) w)
  rw [chk_T, if_pos hz] at HC
  have HG := hide (fun W => sign_any W s z hs)
  obtain ⟨r, hr⟩ : ∃ r, z.sign = r := ⟨_, rfl⟩
  rw [hr] at HG ⊢
  clear hs hz hr
  go_enter Tryz.func138, Tryz.ntmps138
  go_wp2_with fail
  refine HC.out.mono ?_
  rintro e w1 ⟨rfl, hb1⟩
  have HB := hide hb1
  clear hb1 HC
  go_wp2_with fail
  refine (HG.out _).mono ?_
  rintro e w2 ⟨rfl, rfl⟩
  go_wp2_with fail
  go_ret2
  exact ⟨rfl, HB.out⟩

set_option maxRecDepth 100000 in
set_option maxHeartbeats 2000000 in
theorem rsignq_any (w : World) (a : ByteArray) (q : Rat) (ha : a.data.toList = RT q) (hq : Fit q) (hs : Std w) :
    Calls Tryz.prog 105 #[.string a] w fun e w' => e = .returned (.tuple #[.int .i64 q.num.sign, .int .i64 0]) ∧ Below w.heap.size w w' := by
  have HC := hide (rparts_any w a q ha hq hs)
  have HG := hide (fun W => wsign_any W ⟨(T q.num).toArray⟩ q.num rfl hq.1)
  obtain ⟨r, hr⟩ : ∃ r, q.num.sign = r := ⟨_, rfl⟩
  rw [hr] at HG ⊢
  clear ha hq hs hr
  go_enter Tryz.func105, Tryz.ntmps105
  go_wp2_with fail
  refine HC.out.mono ?_
  rintro e w1 ⟨rfl, hb1⟩
  have HB := hide hb1
  clear hb1 HC
  go_wp2_with fail
  refine (HG.out _).mono ?_
  rintro e w2 ⟨rfl, hb2⟩
  replace HB := hide (HB.out.trans (hb2.mono HB.out.size))
  clear hb2
  go_wp2_with fail
  go_ret2
  exact ⟨rfl, HB.out⟩

set_option maxRecDepth 100000 in
set_option maxHeartbeats 2000000 in
theorem unit_bad (w : World) (a : ByteArray) (l : List UInt8) (hl : a.data.toList = l) (hL : l.length < 4000000000) (h : chkR l ≠ 0) (hs : Std w) :
    Calls Tryz.prog 58 #[.string a] w fun e w' => e = .returned (.int .i64 (chkR l)) ∧ Below w.heap.size w w' := by
  have HC := hide (rsign_bad w a l hl hL h hs)
  obtain ⟨z, hz, hz0⟩ := chkR_ne h
  rw [hz] at HC ⊢
  clear hl hs hz h
  go_enter Tryz.func58, Tryz.ntmps58
  go_wp2_with fail
  refine HC.out.mono ?_
  rintro e w1 ⟨rfl, hb1⟩
  have HB := hide hb1
  clear hb1 HC
  go_wp2_with fail
  go_ret
  exact ⟨rfl, HB.out⟩

theorem RT_one : RT 1 = [49] := by rw [RT, if_pos (by rfl)]; exact T_one
theorem fit_one : Fit 1 := ⟨by show (1 : Int).natAbs < Big; exact small30 (n := 1) (by decide), one_lt_big⟩
/-- A number from 0 to 1. -/
def unitQ (q : Rat) : Int := if 0 ≤ q ∧ q ≤ 1 then 0 else 2
theorem cmp_one {q : Rat} (hq : Fit q) : cmpV q 1 = .tuple #[.int .i64 (q.num - q.den).sign, .int .i64 0] := by
  unfold cmpV
  rw [show (1 : Rat).den = 1 from rfl, show (1 : Rat).num = 1 from rfl]
  rw [if_pos ⟨by simpa using hq.1, by simpa using hq.2⟩]
  simp
theorem num_sign {q : Rat} : q.num.sign < 0 ↔ ¬ 0 ≤ q := by
  rw [Int.sign_neg_iff, ← Rat.num_nonneg]; omega
theorem one_sign {q : Rat} : 0 < (q.num - q.den).sign ↔ ¬ q ≤ 1 := by
  rw [Int.sign_pos_iff, Rat.not_le, Rat.lt_iff]
  simp
set_option maxRecDepth 100000 in
set_option maxHeartbeats 2000000 in
theorem unit_any (w : World) (a : ByteArray) (q : Rat) (ha : a.data.toList = RT q) (hq : Fit q) (hs : Std w) :
    Calls Tryz.prog 58 #[.string a] w fun e w' => e = .returned (.int .i64 (unitQ q)) ∧ Below w.heap.size w w' := by
  have HC := hide (rsignq_any w a q ha hq hs)
  have HD := hide (fun W (hS : Std W) => rcompare_any W a ⟨#[49]⟩ q 1 ha RT_one.symm hq fit_one hS)
  rw [cmp_one hq] at HD
  have HS := hide hs
  clear ha hq hs
  by_cases h1 : q.num.sign < 0
  · have hv : unitQ q = 2 := if_neg (fun h => num_sign.1 h1 h.1)
    rw [hv]
    obtain ⟨r, hr⟩ : ∃ r, q.num.sign = r := ⟨_, rfl⟩
    obtain ⟨s, hs1⟩ : ∃ s, (q.num - (q.den : Int)).sign = s := ⟨_, rfl⟩
    rw [hr] at HC
    rw [hs1] at HD
    rw [hr] at h1
    clear hr hs1 hv
    go_enter Tryz.func58, Tryz.ntmps58
    go_wp2_with fail
    refine HC.out.mono ?_
    rintro e w1 ⟨rfl, hb1⟩
    have HB := hide hb1
    clear hb1 HC
    go_wp2_with fail
    refine (HD.out _ (HS.out.below HB.out (Nat.le_refl _))).mono ?_
    rintro e w2 ⟨rfl, hb2⟩
    replace HB := hide (HB.out.trans (hb2.mono HB.out.size))
    clear hb2 HD
    go_wp2_with fail
    go_ret
    exact ⟨rfl, HB.out⟩
  · by_cases h2 : 0 < (q.num - (q.den : Int)).sign
    · have hv : unitQ q = 2 := if_neg (fun h => one_sign.1 h2 h.2)
      rw [hv]
      obtain ⟨r, hr⟩ : ∃ r, q.num.sign = r := ⟨_, rfl⟩
      obtain ⟨s, hs1⟩ : ∃ s, (q.num - (q.den : Int)).sign = s := ⟨_, rfl⟩
      rw [hr] at HC
      rw [hs1] at HD
      rw [hr] at h1
      rw [hs1] at h2
      clear hr hs1 hv
      go_enter Tryz.func58, Tryz.ntmps58
      go_wp2_with fail
      refine HC.out.mono ?_
      rintro e w1 ⟨rfl, hb1⟩
      have HB := hide hb1
      clear hb1 HC
      go_wp2_with fail
      refine (HD.out _ (HS.out.below HB.out (Nat.le_refl _))).mono ?_
      rintro e w2 ⟨rfl, hb2⟩
      replace HB := hide (HB.out.trans (hb2.mono HB.out.size))
      clear hb2 HD
      go_wp2_with fail
      go_ret
      exact ⟨rfl, HB.out⟩
    · have hv : unitQ q = 0 := if_pos ⟨Classical.not_not.1 (fun h => h1 (num_sign.2 h)), Classical.not_not.1 (fun h => h2 (one_sign.2 h))⟩
      rw [hv]
      obtain ⟨r, hr⟩ : ∃ r, q.num.sign = r := ⟨_, rfl⟩
      obtain ⟨s, hs1⟩ : ∃ s, (q.num - (q.den : Int)).sign = s := ⟨_, rfl⟩
      rw [hr] at HC
      rw [hs1] at HD
      rw [hr] at h1
      rw [hs1] at h2
      clear hr hs1 hv
      go_enter Tryz.func58, Tryz.ntmps58
      go_wp2_with fail
      refine HC.out.mono ?_
      rintro e w1 ⟨rfl, hb1⟩
      have HB := hide hb1
      clear hb1 HC
      go_wp2_with fail
      refine (HD.out _ (HS.out.below HB.out (Nat.le_refl _))).mono ?_
      rintro e w2 ⟨rfl, hb2⟩
      replace HB := hide (HB.out.trans (hb2.mono HB.out.size))
      clear hb2 HD
      go_wp2_with fail
      go_ret
      exact ⟨rfl, HB.out⟩

/-- A number from 0 to 1 and the rest up to 1. -/
theorem unit_parts {q : Rat} (h0 : 0 ≤ q) (h1 : q ≤ 1) : ∃ x y : Nat, q.num = (x : Int) ∧ q.den = x + y ∧ (1 - q).num = (y : Int) ∧ (1 - q).den = x + y := by
  have hn : 0 ≤ q.num := Rat.num_nonneg.2 h0
  have hd : q.num ≤ (q.den : Int) := by
    have h := (Rat.le_iff _ _).1 h1
    simpa using h
  obtain ⟨x, hx⟩ : ∃ x : Nat, q.num = (x : Int) := ⟨q.num.toNat, by omega⟩
  obtain ⟨y, hy⟩ : ∃ y : Nat, q.den = x + y := ⟨q.den - x, by omega⟩
  have hc : Nat.Coprime ((y : Int).natAbs) q.den := by
    have h := q.reduced
    rw [hx] at h
    rw [Int.natAbs_natCast] at h ⊢
    rw [hy] at h ⊢
    have h2 : Nat.gcd x (x + y) = 1 := h
    show Nat.gcd y (x + y) = 1
    rw [Nat.gcd_add_self_right, Nat.gcd_comm]
    rwa [Nat.add_comm x y, Nat.gcd_add_self_right] at h2
  have hr : (⟨(y : Int), q.den, q.den_nz, hc⟩ : Rat) = 1 - q := by
    rw [← sub_divInt, Rat.mk_eq_divInt]
    rw [show (1 : Rat).num = 1 from rfl, show (1 : Rat).den = 1 from rfl, hx]
    congr 1
    · omega
    · omega
  exact ⟨x, y, hx, hy, by rw [← hr], by rw [← hr]; exact hy⟩
theorem divi_sz {a b m : Nat} (hb : b ≠ 0) (ha : a < 10 ^ m) (hbm : b ≤ 10 ^ m) : Sz m m (Rat.divInt (a : Int) (b : Int)) := by
  have h := low_le (a : Int) (y := (b : Int)) (by omega)
  rw [Int.natAbs_natCast, Int.natAbs_natCast] at h
  exact ⟨Nat.lt_of_le_of_lt h.1 ha, Nat.le_trans h.2 hbm⟩
theorem powle {x d k n : Nat} (hx : x ≤ 10 ^ d) (hk : k ≤ n) : x ^ k ≤ 10 ^ (d * n) :=
  Nat.le_trans (Nat.pow_le_pow_left hx k) (by rw [← Nat.pow_mul]; exact Nat.pow_le_pow_right (by omega) (Nat.mul_le_mul_left d hk))
theorem term_le (f : Nat → Nat) {i n : Nat} (h : i < n) : f i ≤ sumN f n := by
  have h1 := sumN_mono f (a := i + 1) (b := n) (by omega)
  have h2 : sumN f (i + 1) = sumN f i + f i := rfl
  omega
theorem proterm_le {x y N k : Nat} (hk : k ≤ N) : bin N k * (x ^ k * y ^ (N - k)) ≤ (x + y) ^ N := by
  rw [← proN_all]
  exact term_le (fun k => bin N k * (x ^ k * y ^ (N - k))) (by omega)
theorem pow_two_mul (a b : Nat) : 10 ^ a * 10 ^ b = 10 ^ (a + b) := (Nat.pow_add 10 a b).symm

set_option maxRecDepth 100000 in
set_option maxHeartbeats 4000000 in
theorem powN_any (w : World) (x n d : Nat) (hx : x ≤ 10 ^ d) (hd0 : d < 1024) (hd : d * n < 1024) (hn : n ≤ 4096) (hs : Std w) :
    Calls Tryz.prog 61 #[tx ((x : Nat) : Int), .int .i64 (n : Int)] w fun e w' => e = .returned (.tuple #[tx ((x ^ n : Nat) : Int), .int .i64 0]) ∧ Below w.heap.size w w' := by
  have HS := hide hs
  have hn0 : ¬ (n : Int) < 0 := by omega
  have hn1 : ¬ 4096 < (n : Int) := by omega
  have hB : ∀ j, j ≤ n → ((x ^ j : Nat) : Int).natAbs < Big := fun j hj => by rw [Int.natAbs_natCast]; exact big_of_le (powle hx hj) hd
  have hxB : ((x : Nat) : Int).natAbs < Big := by rw [Int.natAbs_natCast]; exact big_of_le hx hd0
  have HB := hide hB
  have HXB := hide hxB
  have HC := hide (check_any ⟨(T ((x : Nat) : Int)).toArray⟩ _ rfl (by have := T_size (s := ⟨(T ((x : Nat) : Int)).toArray⟩) (z := ((x : Nat) : Int)) rfl hxB; omega) w)
  rw [chk_T, if_pos hxB] at HC
  have H1 : Hid (Value.string ⟨#[49]⟩ = tx ((x ^ 0 : Nat) : Int)) := hide (by rw [Nat.pow_zero]; exact tx_one.symm)
  obtain ⟨R, hR⟩ : ∃ R, x ^ n = R := ⟨_, rfl⟩
  rw [hR]
  have HR := hide hR
  clear hs hx hd hd0 hB hxB hR
  go_enter Tryz.func61, Tryz.ntmps61
  go_wp2_with fail
  refine HC.out.mono ?_
  rintro e w1 ⟨rfl, hb0⟩
  have HB0 := hide hb0
  clear hb0 HC
  go_wp2_with fail
  go_loopg [7, 21] n (fun q ov iv wr => ∃ j : Nat, iv = .int .i64 (j : Int) ∧ q + j = n ∧ ov = tx ((x ^ j : Nat) : Int) ∧ Below w.heap.size w wr)
  case atStart => exact ⟨0, rfl, by omega, H1.out, HB0.out⟩
  case round =>
    obtain ⟨j, rfl, hq, rfl, hb⟩ := hrel
    have HQ := hide hq
    have HW := hide hb
    have hjK : j ≤ n := by omega
    clear hq hb
    by_cases hlt : j < n
    · have hji : (j : Int) < (n : Int) := by omega
      have C1 := hide (fun W (hS : Std W) => mulT_any W ((x ^ j : Nat) : Int) ((x : Nat) : Int) (HB.out j hjK) HXB.out (by rw [← Int.natCast_mul, ← Nat.pow_succ]; exact HB.out (j + 1) (by omega)) hS)
      rw [← Int.natCast_mul, ← Nat.pow_succ] at C1
      obtain ⟨s, hs1⟩ : ∃ s, x ^ j = s := ⟨_, rfl⟩
      obtain ⟨t, ht⟩ : ∃ t, x ^ (j + 1) = t := ⟨_, rfl⟩
      rw [show j.succ = j + 1 from rfl, ht] at C1
      rw [hs1] at C1 ⊢
      have HT := hide ht
      clear ht hs1
      go_wp2_with fail
      refine (C1.out _ (HS.out.below HW.out (Nat.le_refl _))).mono ?_
      rintro e w2 ⟨rfl, hb1⟩
      replace HW := hide (HW.out.trans (hb1.mono HW.out.size))
      clear hb1 C1
      go_wp2_with fail
      go_roundg (gk - 1)
      case measure => have := HQ.out; omega
      case rel => exact ⟨j + 1, by go_num, by have := HQ.out; omega, by rw [← HT.out], HW.out⟩
    · have hji : ¬ (j : Int) < (n : Int) := by omega
      obtain rfl : j = n := by omega
      obtain ⟨s, hs1⟩ : ∃ s, x ^ j = s := ⟨_, rfl⟩
      rw [hs1]
      have HS1 := hide hs1
      clear hs1
      go_wp2_with fail
      go_ret2
      obtain rfl : s = R := HS1.out.symm.trans HR.out
      exact ⟨rfl, HW.out⟩

set_option maxRecDepth 100000 in
set_option maxHeartbeats 4000000 in
theorem binom1_any (w : World) (N C x y d k b1 b2 b3 : Nat) (h1 : Blk w b1 30 #[.int .i64 (N : Int), .int .i64 (C : Int)]) (h2 : Blk w b2 63 #[tx ((x : Nat) : Int)]) (h3 : Blk w b3 63 #[tx ((y : Nat) : Int)]) (hxy : x + y ≤ 10 ^ d) (hd : d * N ≤ 1000) (h1N : 1 ≤ N) (hk : k ≤ N) (hN : N ≤ 64) (hs : Std w) :
    Calls Tryz.prog 63 #[.int .i64 (k : Int), .pointer (some ⟨b1, 0, none⟩), .pointer (some ⟨b2, 0, none⟩), .pointer (some ⟨b3, 0, none⟩)] w fun e w' => e = .returned (.tuple #[tx ((bin N k * (x ^ k * y ^ (N - k)) : Nat) : Int), .int .i64 0]) ∧ Below w.heap.size w w' := by
  have HS := hide hs
  have hw : IntKind.i64.wrap ((N : Int) - (k : Int)) = ((N - k : Nat) : Int) := (IntWalk.i64_in _ (by omega)).trans (by omega)
  have s1 := bin64 (n := N) (k := k) hN
  have s2 : x ^ k ≤ 10 ^ (d * N) := powle (by omega) hk
  have s3 : y ^ (N - k) ≤ 10 ^ (d * N) := powle (by omega) (by omega)
  have s4 := proterm_le (x := x) (y := y) hk
  have s5 : (x + y) ^ N ≤ 10 ^ (d * N) := powle hxy (Nat.le_refl _)
  have s6 := pow_two_mul (d * N) 21
  have hdm : d * k ≤ d * N := Nat.mul_le_mul_left d hk
  have hdm2 : d * (N - k) ≤ d * N := Nat.mul_le_mul_left d (by omega)
  have hd1 : d ≤ d * N := Nat.le_mul_of_pos_right d h1N
  have C1 := hide (fun W (hS : Std W) => chosen_any W N k hN (by omega) hS)
  have C2 := hide (fun W (hS : Std W) => powN_any W x k d (by omega) (by omega) (by omega) (by omega) hS)
  have C3 := hide (fun W (hS : Std W) => powN_any W y (N - k) d (by omega) (by omega) (by omega) (by omega) hS)
  obtain ⟨A, hA⟩ : ∃ A, bin N k = A := ⟨_, rfl⟩
  obtain ⟨B, hB⟩ : ∃ B, x ^ k = B := ⟨_, rfl⟩
  obtain ⟨D, hD⟩ : ∃ D, y ^ (N - k) = D := ⟨_, rfl⟩
  rw [hA] at C1 s1 s4 ⊢
  rw [hB] at C2 s2 s4 ⊢
  rw [hD] at C3 s3 s4 ⊢
  clear hA hB hD
  obtain ⟨E, hE⟩ : ∃ E, 10 ^ (d * N) = E := ⟨_, rfl⟩
  have p20 : (10 : Nat) ^ 20 * 10 = 10 ^ 21 := by decide
  have hE1 : 1 ≤ E := by rw [← hE]; exact Nat.one_le_pow _ _ (by omega)
  rw [hE] at s2 s3 s5 s6
  obtain ⟨F, hF⟩ : ∃ F, (10 : Nat) ^ 20 = F := ⟨_, rfl⟩
  have hF1 : 1 ≤ F := by rw [← hF]; decide
  obtain ⟨G, hG⟩ : ∃ G, (10 : Nat) ^ (d * N + 21) = G := ⟨_, rfl⟩
  rw [← p20, hF] at s6
  rw [hF] at s1
  have t0 : E * (F * 10) = 10 * (E * F) := by rw [Nat.mul_comm F 10, Nat.mul_left_comm]
  have t1 : A * B ≤ F * E := Nat.mul_le_mul (by omega) s2
  have t2 : F ≤ E * F := Nat.le_mul_of_pos_left F (by omega)
  have t3 : E ≤ E * F := Nat.le_mul_of_pos_right E (by omega)
  rw [Nat.mul_comm F E] at t1
  rw [hG, t0] at s6
  have t4 : A * B * D < G := by rw [Nat.mul_assoc]; omega
  have C4 := hide (fun W g (hg : Blk W g 63 #[tx ((A : Nat) : Int), tx ((B : Nat) : Int), tx ((D : Nat) : Int)]) (hS : Std W) => product3_any W g 3 (d * N + 21) ((A : Nat) : Int) ((B : Nat) : Int) ((D : Nat) : Int) hg (by omega) (by rw [hG, Int.natAbs_natCast]; omega) (by rw [hG, Int.natAbs_natCast]; omega) (by rw [hG, Int.natAbs_natCast]; omega) (by rw [hG, ← Int.natCast_mul, Int.natAbs_natCast]; omega) (by rw [hG, ← Int.natCast_mul, ← Int.natCast_mul, Int.natAbs_natCast]; exact t4) hS)
  rw [← Int.natCast_mul, ← Int.natCast_mul, Nat.mul_assoc] at C4
  clear s1 s2 s3 s4 s5 s6 hdm hdm2 hd1 hE hE1 p20 hF hF1 hG t0 t1 t2 t3 t4 hxy hd
  obtain ⟨R, hR⟩ : ∃ R, A * (B * D) = R := ⟨_, rfl⟩
  rw [hR] at C4 ⊢
  clear hR
  have HB := hide (Below.refl w.heap.size w)
  have K_p := hide h1
  have K_x := hide h2
  have K_y := hide h3
  clear h1 h2 h3 hs
  go_enter Tryz.func63, Tryz.ntmps63
  have p0 := (Blk.cell K_p.out 0).trans (rfl : _ = some (Value.int .i64 (N : Int)))
  have p1 := (Blk.cell K_p.out 1).trans (rfl : _ = some (Value.int .i64 (C : Int)))
  go_wp2_with fail
  refine (C1.out _ (HS.out.below HB.out (Nat.le_refl _))).mono ?_
  rintro e w1 ⟨rfl, hb⟩
  clear p0 p1
  replace K_p := hide (Blk.below K_p.out hb (Blk.lt K_p.out))
  replace K_x := hide (Blk.below K_x.out hb (Blk.lt K_x.out))
  replace K_y := hide (Blk.below K_y.out hb (Blk.lt K_y.out))
  replace HB := hide (HB.out.trans (hb.mono HB.out.size))
  clear hb
  have x0 := (Blk.cell K_x.out 0).trans (rfl : _ = some (tx ((x : Nat) : Int)))
  go_wp2_with fail
  refine (C2.out _ (HS.out.below HB.out (Nat.le_refl _))).mono ?_
  rintro e w2 ⟨rfl, hb⟩
  clear x0
  replace K_p := hide (Blk.below K_p.out hb (Blk.lt K_p.out))
  replace K_x := hide (Blk.below K_x.out hb (Blk.lt K_x.out))
  replace K_y := hide (Blk.below K_y.out hb (Blk.lt K_y.out))
  replace HB := hide (HB.out.trans (hb.mono HB.out.size))
  clear hb
  have p0 := (Blk.cell K_p.out 0).trans (rfl : _ = some (Value.int .i64 (N : Int)))
  have p1 := (Blk.cell K_p.out 1).trans (rfl : _ = some (Value.int .i64 (C : Int)))
  have y0 := (Blk.cell K_y.out 0).trans (rfl : _ = some (tx ((y : Nat) : Int)))
  go_wp2_with fail
  refine (C3.out _ (HS.out.below HB.out (Nat.le_refl _))).mono ?_
  rintro e w3 ⟨rfl, hb⟩
  clear p0 p1 y0
  replace K_p := hide (Blk.below K_p.out hb (Blk.lt K_p.out))
  replace K_x := hide (Blk.below K_x.out hb (Blk.lt K_x.out))
  replace K_y := hide (Blk.below K_y.out hb (Blk.lt K_y.out))
  replace HB := hide (HB.out.trans (hb.mono HB.out.size))
  clear hb
  go_wp2_with fail
  have K_m := Blk.new w3 63 #[tx ((A : Nat) : Int), tx ((B : Nat) : Int), tx ((D : Nat) : Int)]
  replace HB := hide (HB.out.alloc HB.out.size (.cells #[tx ((A : Nat) : Int), tx ((B : Nat) : Int), tx ((D : Nat) : Int)] 63))
  clear K_p K_x K_y
  generalize w3.alloc (.cells #[tx ((A : Nat) : Int), tx ((B : Nat) : Int), tx ((D : Nat) : Int)] 63) = wb at *
  refine (C4.out _ _ K_m (HS.out.below HB.out (Nat.le_refl _))).mono ?_
  rintro e w9 ⟨rfl, hb⟩
  replace HB := hide (HB.out.trans (hb.mono HB.out.size))
  clear hb K_m
  go_wp2_with fail
  go_ret2
  exact ⟨rfl, HB.out⟩

end Go.Proofs.YtaccdkbofhlbkaaGreatDoor
