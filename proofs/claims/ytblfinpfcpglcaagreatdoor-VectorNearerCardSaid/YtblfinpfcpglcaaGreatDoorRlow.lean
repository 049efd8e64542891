/- The reference's rational numbers: Lowest, Whole. -/
import Derived.Test.YtblfinpfcpglcaaGreatDoorReight
import Derived.Test.YtblfinpfcpglcaaGreatDoorRatio
namespace Go.Proofs.YtblfinpfcpglcaaGreatDoor
open Go.RowKit MLab

set_option maxRecDepth 100000 in
theorem r2whole_any (n : Int) (h0 : -9223372036854775808 ≤ n) (h1 : n ≤ 9223372036854775807) (w : World) :
    Calls Tryz.prog 44 #[.int .i64 n] w fun e w' => e = .returned (.string ⟨(RT n).toArray⟩) ∧ Below w.heap.size w w' := by
  have hr : RT (n : Rat) = T n := by rw [RT, if_pos (by simp)]; simp
  have HR := hide hr
  clear hr
  go_enter Tryz.func44, Tryz.ntmps44
  go_wp2_with fail
  refine (rof_any n h0 h1 w).mono ?_
  rintro e w1 ⟨rfl, hb⟩
  go_wp2_with fail
  go_ret
  exact ⟨by rw [HR.out]; rfl, hb⟩

theorem gcd_len {x y : Int} (hy : y ≠ 0) {k : Nat} (h : (Lib.decDigits y.natAbs).length ≤ k) : (T (Int.gcd x y : Int)).length ≤ k := by
  rw [T_nat]
  exact Nat.le_trans (dec_len_mono (Nat.le_of_dvd (by omega) (Nat.gcd_dvd_right _ _))) h
theorem lowG_len {x y : Int} (hy : y ≠ 0) {k : Nat} (h : (Lib.decDigits y.natAbs).length ≤ k) : (T (lowG x y)).length ≤ k + 1 := by
  refine T_len_of ?_
  rw [lowG_abs]
  exact Nat.le_trans (dec_len_mono (Nat.le_of_dvd (by omega) (Nat.gcd_dvd_right _ _))) h

set_option maxRecDepth 100000 in
set_option maxHeartbeats 4000000 in
theorem rlowest_any (w : World) (a b : ByteArray) (x y : Int) (h : RTwo a b x y) (hy : y ≠ 0) (haz : a.size ≤ 200000) (hbz : b.size ≤ 200000) :
    Calls Tryz.prog 124 #[.string a, .string b] w fun e w' => e = .returned (.string ⟨(RT (Rat.divInt x y)).toArray⟩) ∧ Below w.heap.size w w' := by
  have H := hide h
  have l2 := (mag_T_len h.hb).1
  have HG := hide (Nat.le_trans (gcd_len (x := x) hy l2) hbz)
  have HL := hide (Nat.le_trans (lowG_len (x := x) hy l2) (Nat.add_le_add_right hbz 1))
  have HNE := hide (lowG_ne (x := x) hy)
  obtain ⟨e1, e2⟩ := low_num (x := x) hy
  have E1 := hide e1
  have E2 := hide e2
  clear h e1 e2
  go_enter Tryz.func124, Tryz.ntmps124
  go_wp2_with fail
  refine (rshared_any _ a b x y H.out (by omega) (by omega)).mono ?_
  rintro e w1 ⟨rfl, hb1⟩
  have HB1 := hide hb1
  clear hb1
  go_wp2_with fail
  refine (rbelow_any _ b y H.out.hb).mono ?_
  rintro e w2 ⟨rfl, rfl⟩
  go_upto_if 14 with (fail)
  go_cut [5] (fun v wc => v = .string ⟨(T (lowG x y)).toArray⟩ ∧ Below w.heap.size w wc)
  case first =>
    by_cases hn : y < 0
    · have hd : decide (y < 0) = true := decide_eq_true hn
      have hl : -(Int.gcd x y : Int) = lowG x y := by rw [lowG, if_pos hn]
      have HLL := hide hl
      rw [hd]
      clear hn hd hl
      go_wp2_with fail
      refine (rturned_any _ _ (Int.gcd x y : Int) rfl (by rw [ba_size]; exact Nat.le_trans HG.out (by decide))).mono ?_
      rintro e w2 ⟨rfl, rfl⟩
      rw [HLL.out]
      go_wp2_with fail
      go_meet
      case rel => exact ⟨rfl, HB1.out⟩
    · have hd : decide (y < 0) = false := decide_eq_false hn
      have hl : (Int.gcd x y : Int) = lowG x y := by rw [lowG, if_neg hn]
      rw [hd, hl]
      clear hn hd hl
      go_wp2_with fail
      go_meet
      case rel => exact ⟨rfl, HB1.out⟩
  case rest =>
    obtain ⟨rfl, hb⟩ := hcut
    have HB := hide hb
    clear hb HB1
    have P1 := hide (rparted_any wc a ⟨(T (lowG x y)).toArray⟩ x (lowG x y) ⟨H.out.ha, rfl, H.out.az, by rw [ba_size]; exact Nat.le_trans HL.out (by decide)⟩ HNE.out (by omega) (by rw [ba_size]; exact Nat.le_trans HL.out (by decide)))
    go_wp2_with fail
    refine P1.out.mono ?_
    rintro e w2 ⟨hr, hb2⟩
    rw [RetPair] at hr
    subst hr
    rw [E1.out]
    have HB2 := hide (HB.out.trans (hb2.mono HB.out.size))
    clear hb2 P1
    have P2 := hide (rparted_any w2 b ⟨(T (lowG x y)).toArray⟩ y (lowG x y) ⟨H.out.hb, rfl, H.out.bz, by rw [ba_size]; exact Nat.le_trans HL.out (by decide)⟩ HNE.out (by omega) (by rw [ba_size]; exact Nat.le_trans HL.out (by decide)))
    go_wp2_with fail
    refine P2.out.mono ?_
    rintro e w3 ⟨hr, hb3⟩
    rw [RetPair] at hr
    subst hr
    rw [E2.out]
    have HB3 := hide (HB2.out.trans (hb3.mono HB2.out.size))
    clear hb3 P2
    generalize hq : Rat.divInt x y = q at *
    have HQ := hide hq
    clear hq
    have zn : (⟨(T q.num).toArray⟩ : ByteArray).size ≤ 300000 := by
      rw [ba_size, ← E1.out]
      have h1 := T_len_fdiv (x := x) HNE.out
      have h2 := (mag_T_len H.out.ha).1
      omega
    have zd : (⟨(T (q.den : Int)).toArray⟩ : ByteArray).size ≤ 300000 := by
      rw [ba_size, ← E2.out]
      have h1 := T_len_fdiv (x := y) HNE.out
      omega
    have tl : (⟨(T (q.den : Int)).toArray⟩ : ByteArray).toList = T (q.den : Int) := ba_toList _
    have dn : (⟨(T q.num).toArray⟩ : ByteArray).data.toList = T q.num := rfl
    have dd : (⟨(T (q.den : Int)).toArray⟩ : ByteArray).data.toList = T (q.den : Int) := rfl
    generalize (⟨(T q.num).toArray⟩ : ByteArray) = gn at *
    generalize (⟨(T (q.den : Int)).toArray⟩ : ByteArray) = gd at *
    by_cases hd1 : q.den = 1
    · have hb : (gd.toList == [49]) = true := by rw [tl, hd1, show ((1 : Nat) : Int) = 1 from rfl, T_one]; rfl
      have e : gn = ⟨(RT q).toArray⟩ := ba_eq (by rw [dn, RT, if_pos hd1])
      have E := hide e
      clear tl dn dd e hd1
      go_wp2_with fail
      go_ret
      exact ⟨by rw [HQ.out, ← E.out]; rfl, HB3.out⟩
    · have hb : (gd.toList == [49]) = false := by
        rw [beq_eq_false_iff_ne, tl]; intro e
        have := T_inj (e.trans T_one.symm)
        omega
      have e : gn ++ (⟨#[47]⟩ : ByteArray) ++ gd = ⟨(RT q).toArray⟩ := ba_eq (by
        rw [ByteArray.data_append, ByteArray.data_append, Array.toList_append, Array.toList_append, dn, dd, RT, if_neg hd1, T_nat, List.append_assoc]; rfl)
      have E := hide e
      clear tl dn dd e hd1
      go_wp2_with fail
      go_ret
      exact ⟨by rw [HQ.out, ← E.out]; rfl, HB3.out⟩
end Go.Proofs.YtblfinpfcpglcaaGreatDoor
