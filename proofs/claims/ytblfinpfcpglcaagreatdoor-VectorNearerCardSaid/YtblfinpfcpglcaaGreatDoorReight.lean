/- The reference's integers: Parted, Shared. -/
import Derived.Test.YtblfinpfcpglcaaGreatDoorRseven
namespace Go.Proofs.YtblfinpfcpglcaaGreatDoor
open Go.RowKit MLab

theorem sub_fmod_tdiv {x y : Int} (hy : y ≠ 0) : (x - x.fmod y).tdiv y = x.fdiv y := by
  have h := Int.mul_fdiv_add_fmod x y
  rw [show x - x.fmod y = y * x.fdiv y by omega, Int.mul_tdiv_cancel_left _ hy]

/-- A pair of texts. -/
def RetPair (p q : List UInt8) (e : Ending) : Prop := e = .returned (.tuple #[.string ⟨p.toArray⟩, .string ⟨q.toArray⟩])

set_option maxRecDepth 100000 in
set_option maxHeartbeats 4000000 in
theorem rparted_small (w : World) (a b : ByteArray) (x y : Int) (h : RTwo a b x y) (hy : y ≠ 0) (h1 : (Lib.decDigits x.natAbs).length ≤ 18) (h2 : (Lib.decDigits y.natAbs).length ≤ 18) :
    Calls Tryz.prog 149 #[.string a, .string b] w fun e w' => RetPair (T (x.fdiv y)) (T (x.fmod y)) e ∧ Below w.heap.size w w' := by
  obtain ⟨x1, x2⟩ := brief_bound h1
  obtain ⟨y1, y2⟩ := brief_bound h2
  have H := hide h
  have htm : (x.tmod y).natAbs < y.natAbs := by rw [Int.natAbs_tmod]; exact Nat.mod_lt _ (by omega)
  have hfl := tdiv_floor (x := x) hy
  have hsf := sub_fmod_tdiv (x := x) hy
  have hfd : (x.fdiv y).natAbs ≤ x.natAbs + 1 := by
    have h3 : (x.tdiv y).natAbs ≤ x.natAbs := by rw [Int.natAbs_tdiv]; exact Nat.div_le_self _ _
    by_cases hc : x.tmod y = 0 ∨ (x.tmod y < 0 ↔ y < 0)
    · rw [(hfl.1 hc).1]; omega
    · rw [(hfl.2 (fun e => hc (.inl e)) (fun e => hc (.inr e))).1]; omega
  have hfm : (x.fmod y).natAbs ≤ y.natAbs := by
    by_cases hc : x.tmod y = 0 ∨ (x.tmod y < 0 ↔ y < 0)
    · rw [(hfl.1 hc).2]; omega
    · rw [(hfl.2 (fun e => hc (.inl e)) (fun e => hc (.inr e))).2]; omega
  have HFL := hide hfl
  have ey : (y == 0) = false := by rw [beq_eq_false_iff_ne]; exact hy
  have ew2 : IntKind.i64.wrap (x.tmod y) = x.tmod y := IntWalk.i64_in _ ⟨by omega, by omega⟩
  have r1 : -1000000000000000000 < x.tmod y := by omega
  have r2 : x.tmod y < 1000000000000000000 := by omega
  have F1 := hide (p := -9223372036854775808 ≤ x.fdiv y ∧ x.fdiv y ≤ 9223372036854775807) (by omega)
  have F2 := hide (p := -9223372036854775808 ≤ x.fmod y ∧ x.fmod y ≤ 9223372036854775807) (by omega)
  have SF := hide hsf
  clear h hfl hsf hfd hfm htm
  go_enter Tryz.func149, Tryz.ntmps149
  go_wp2_with fail
  refine (rbrief_yes _ _ _ x y H.out.ha H.out.hb h1 h2).mono ?_
  rintro e w1 ⟨rfl, rfl⟩
  by_cases hr0 : x.tmod y = 0
  · have hb0 : (x.tmod y != 0) = false := by rw [hr0]; rfl
    obtain ⟨f1, f2⟩ := HFL.out.1 (.inl hr0)
    have G1 := hide (show wrap64 ((x - x.tmod y).tdiv y) = x.fdiv y by rw [← f2, SF.out]; exact IntWalk.wrap64_in _ F1.out)
    have G2 := hide f2
    clear f1 f2 hr0
    go_wp2_with fail
    rw [G1.out]
    refine (rof_any _ F1.out.1 F1.out.2 _).mono ?_
    rintro e w2 ⟨rfl, hb2⟩
    go_wp2_with fail
    rw [← G2.out]
    refine (rof_any _ F2.out.1 F2.out.2 _).mono ?_
    rintro e w3 ⟨rfl, hb3⟩
    have HB := hide (hb2.trans (hb3.mono hb2.size))
    clear hb2 hb3
    go_wp2_with fail
    go_ret2
    exact ⟨rfl, HB.out⟩
  · have hb0 : (x.tmod y != 0) = true := by rw [bne_iff_ne]; exact hr0
    by_cases hk : (x.tmod y < 0 ↔ y < 0)
    · have hb1 : (!(decide (x.tmod y < 0) == decide (y < 0))) = false := by simp [hk]
      obtain ⟨f1, f2⟩ := HFL.out.1 (.inr hk)
      have G1 := hide (show wrap64 ((x - x.tmod y).tdiv y) = x.fdiv y by rw [← f2, SF.out]; exact IntWalk.wrap64_in _ F1.out)
      have G2 := hide f2
      clear f1 f2 hk hr0
      go_wp2_with fail
      rw [G1.out]
      refine (rof_any _ F1.out.1 F1.out.2 _).mono ?_
      rintro e w2 ⟨rfl, hb2⟩
      go_wp2_with fail
      rw [← G2.out]
      refine (rof_any _ F2.out.1 F2.out.2 _).mono ?_
      rintro e w3 ⟨rfl, hb3⟩
      have HB := hide (hb2.trans (hb3.mono hb2.size))
      clear hb2 hb3
      go_wp2_with fail
      go_ret2
      exact ⟨rfl, HB.out⟩
    · have hb1 : (!(decide (x.tmod y < 0) == decide (y < 0))) = true := by
        by_cases h1 : x.tmod y < 0 <;> by_cases h2 : y < 0 <;> simp [h1, h2] at hk ⊢
      obtain ⟨f1, f2⟩ := HFL.out.2 hr0 hk
      have G1 := hide (show wrap64 ((x - (x.tmod y + y)).tdiv y) = x.fdiv y by rw [← f2, SF.out]; exact IntWalk.wrap64_in _ F1.out)
      have G2 := hide f2
      clear f1 f2 hk hr0
      go_wp2_with fail
      rw [G1.out]
      refine (rof_any _ F1.out.1 F1.out.2 _).mono ?_
      rintro e w2 ⟨rfl, hb2⟩
      go_wp2_with fail
      rw [← G2.out]
      refine (rof_any _ F2.out.1 F2.out.2 _).mono ?_
      rintro e w3 ⟨rfl, hb3⟩
      have HB := hide (hb2.trans (hb3.mono hb2.size))
      clear hb2 hb3
      go_wp2_with fail
      go_ret2
      exact ⟨rfl, HB.out⟩

theorem fdiv_abs {x y : Int} (hy : y ≠ 0) : (x.fdiv y).natAbs ≤ x.natAbs + 1 := by
  have hfl := tdiv_floor (x := x) hy
  have h3 : (x.tdiv y).natAbs ≤ x.natAbs := by rw [Int.natAbs_tdiv]; exact Nat.div_le_self _ _
  by_cases hc : x.tmod y = 0 ∨ (x.tmod y < 0 ↔ y < 0)
  · rw [(hfl.1 hc).1]; omega
  · rw [(hfl.2 (fun e => hc (.inl e)) (fun e => hc (.inr e))).1]; omega
theorem fmod_abs {x y : Int} (hy : y ≠ 0) : (x.fmod y).natAbs < y.natAbs := by
  have htm : (x.tmod y).natAbs < y.natAbs := by rw [Int.natAbs_tmod]; exact Nat.mod_lt _ (by omega)
  have hfl := tdiv_floor (x := x) hy
  by_cases hc : x.tmod y = 0 ∨ (x.tmod y < 0 ↔ y < 0)
  · rw [(hfl.1 hc).2]; omega
  · rw [(hfl.2 (fun e => hc (.inl e)) (fun e => hc (.inr e))).2]; omega
theorem T_len_of {z : Int} {k : Nat} (h : (Lib.decDigits z.natAbs).length ≤ k) : (T z).length ≤ k + 1 := by rw [T_length]; split <;> omega
theorem dec_len_succ {a b k : Nat} (hk : 1 ≤ k) (hb : (Lib.decDigits b).length ≤ k) (h : a ≤ b + 1) : (Lib.decDigits a).length ≤ k + 1 :=
  Nat.le_trans (dec_len_mono h) (dec_len_add hk hb (by rw [dec_one]; exact hk))
theorem T_len_fdiv {x y : Int} (hy : y ≠ 0) : (T (x.fdiv y)).length ≤ (Lib.decDigits x.natAbs).length + 2 :=
  T_len_of (dec_len_succ (dec_length_pos _) (Nat.le_refl _) (fdiv_abs hy))

set_option maxRecDepth 100000 in
set_option maxHeartbeats 4000000 in
theorem rparted_great (w : World) (a b : ByteArray) (x y : Int) (h : RTwo a b x y) (hy : y ≠ 0) (haz : a.size ≤ 300000) (hbz : b.size ≤ 300000) (hbr : ¬ ((Lib.decDigits x.natAbs).length ≤ 18 ∧ (Lib.decDigits y.natAbs).length ≤ 18)) :
    Calls Tryz.prog 149 #[.string a, .string b] w fun e w' => RetPair (T (x.fdiv y)) (T (x.fmod y)) e ∧ Below w.heap.size w w' := by
  have H := hide h
  have l1 := (mag_T_len h.ha).1
  have l2 := (mag_T_len h.hb).1
  have hmf := mag_floor (x := x) hy
  have hrest : x - x.fdiv y * y = x.fmod y := by have := Int.mul_fdiv_add_fmod x y; rw [Int.mul_comm] at this; omega
  have hprod : (Lib.decDigits (x.fdiv y * y).natAbs).length ≤ 600003 := by
    rw [Int.natAbs_mul]
    refine Nat.le_trans (dec_len_mul (k := 300002) (l := 300000) (by decide) (by decide) ?_ (by omega)) (by decide)
    exact Nat.le_trans (dec_len_succ (dec_length_pos _) (Nat.le_refl _) (fdiv_abs hy)) (by omega)
  have hq : (Lib.decDigits (x.natAbs / y.natAbs)).length ≤ 300000 := Nat.le_trans (dec_len_mono (Nat.div_le_self _ _)) (by omega)
  have hfd : (T (x.fdiv y)).length ≤ 300002 := Nat.le_trans (T_len_fdiv hy) (by omega)
  have hyn : 0 < y.natAbs := by omega
  have hres : (⟨(Lib.decDigits (x.natAbs % y.natAbs)).toArray⟩ : ByteArray).toList = Lib.decDigits (x.natAbs % y.natAbs) := by rw [Lib.toList_data]
  have HMF := hide hmf
  have HRE := hide hrest
  have HPR := hide hprod
  have HQ := hide hq
  have HFD := hide hfd
  have HRES := hide hres
  clear h hmf hrest hprod hq hfd hres
  go_enter Tryz.func149, Tryz.ntmps149
  go_wp2_with fail
  refine (rbrief_no _ _ _ x y H.out.ha H.out.hb (by omega) (by omega) hbr).mono ?_
  rintro e w1 ⟨rfl, rfl⟩
  clear hbr
  go_wp2_with fail
  refine (rsize_any _ a _ H.out.ha (by omega)).mono ?_
  rintro e w1 ⟨rfl, rfl⟩
  rw [mag_ba]
  go_wp2_with fail
  refine (rsize_any _ b _ H.out.hb (by omega)).mono ?_
  rintro e w1 ⟨rfl, rfl⟩
  rw [mag_ba]
  go_wp2_with fail
  refine (rdivided_any _ _ _ x.natAbs y.natAbs rfl rfl hyn (by rw [ba_size]; omega) (by rw [ba_size]; omega)).mono ?_
  rintro e w1 ⟨rfl, hb1⟩
  have HB1 := hide hb1
  clear hb1
  generalize (⟨(Lib.decDigits (x.natAbs % y.natAbs)).toArray⟩ : ByteArray) = rest at *
  go_wp2_with fail
  refine (rbelow_any _ a x H.out.ha).mono ?_
  rintro e w2 ⟨rfl, rfl⟩
  go_wp2_with fail
  refine (rbelow_any _ b y H.out.hb).mono ?_
  rintro e w2 ⟨rfl, rfl⟩
  have hsv : (!(decide (x < 0) == decide (y < 0))) = (decide (x < 0) != decide (y < 0)) := rfl
  have HSV := hide hsv
  clear hsv
  go_wp2_with fail
  refine (rsigned_any _ _ (x.natAbs / y.natAbs) _ rfl (by rw [ba_size]; exact Nat.le_trans HQ.out (by decide))).mono ?_
  rintro e w2 ⟨rfl, rfl⟩
  rw [HSV.out]
  by_cases hr0 : x.natAbs % y.natAbs = 0
  · have e1 : (rest.toList == [48]) = true := by rw [HRES.out, hr0, dec_zero]; rfl
    have e2 : (!(rest.toList == [48])) = false := by rw [e1]; rfl
    have f1 := (HMF.out.1 (.inl hr0)).1
    rw [← f1]
    clear hr0 f1
    go_wp2_with fail
    refine (rtimes_int _ _ b (x.fdiv y) y ⟨rfl, H.out.hb, by rw [ba_size]; exact Nat.le_trans HFD.out (by decide), H.out.bz⟩).mono ?_
    rintro e w3 ⟨rfl, hb3⟩
    have HB3 := hide (HB1.out.trans (hb3.mono HB1.out.size))
    clear hb3
    go_wp2_with fail
    refine (rminus_int _ a _ x (x.fdiv y * y) ⟨H.out.ha, rfl, H.out.az, by rw [ba_size]; exact Nat.le_trans (T_len_of HPR.out) (by decide)⟩ (by rw [ba_size]; exact Nat.le_trans (T_len_of HPR.out) (by decide))).mono ?_
    rintro e w4 ⟨rfl, hb4⟩
    rw [HRE.out]
    have HB4 := hide (HB3.out.trans (hb4.mono HB3.out.size))
    clear hb4
    go_wp2_with fail
    go_ret2
    exact ⟨rfl, HB4.out⟩
  · have e1 : (rest.toList == [48]) = false := by
      rw [beq_eq_false_iff_ne, HRES.out, ← dec_zero]; intro e; exact hr0 (dec_inj e)
    have e2 : (!(rest.toList == [48])) = true := by rw [e1]; rfl
    by_cases hsg : decide (x < 0) = decide (y < 0)
    · have f1 := (HMF.out.1 (.inr hsg)).1
      rw [← f1]
      have e3 : (!(decide (x < 0) == decide (y < 0))) = false := by rw [hsg]; simp
      clear hr0 f1 hsg
      go_wp2_with fail
      refine (rbelow_any _ a x H.out.ha).mono ?_
      rintro e w2 ⟨rfl, rfl⟩
      go_wp2_with fail
      refine (rbelow_any _ b y H.out.hb).mono ?_
      rintro e w2 ⟨rfl, rfl⟩
      go_wp2_with fail
      refine (rtimes_int _ _ b (x.fdiv y) y ⟨rfl, H.out.hb, by rw [ba_size]; exact Nat.le_trans HFD.out (by decide), H.out.bz⟩).mono ?_
      rintro e w3 ⟨rfl, hb3⟩
      have HB3 := hide (HB1.out.trans (hb3.mono HB1.out.size))
      clear hb3
      go_wp2_with fail
      refine (rminus_int _ a _ x (x.fdiv y * y) ⟨H.out.ha, rfl, H.out.az, by rw [ba_size]; exact Nat.le_trans (T_len_of HPR.out) (by decide)⟩ (by rw [ba_size]; exact Nat.le_trans (T_len_of HPR.out) (by decide))).mono ?_
      rintro e w4 ⟨rfl, hb4⟩
      rw [HRE.out]
      have HB4 := hide (HB3.out.trans (hb4.mono HB3.out.size))
      clear hb4
      go_wp2_with fail
      go_ret2
      exact ⟨rfl, HB4.out⟩
    · have f1 := (HMF.out.2 hr0 hsg).1
      have e3 : (!(decide (x < 0) == decide (y < 0))) = true := by rw [Bool.not_eq_true']; exact beq_eq_false_iff_ne.2 hsg
      have e4 : (decide (x < 0) != decide (y < 0)) = true := e3
      have f2 : sval true (x.natAbs / y.natAbs) - 1 = x.fdiv y := by rw [f1]; simp [sval]; omega
      rw [e4]
      have F2 := hide f2
      have hql : (T (sval true (x.natAbs / y.natAbs))).length ≤ 300001 := T_len_of (by rw [sval_abs]; exact HQ.out)
      have HQL := hide hql
      clear hr0 f1 hsg e4 f2 hql
      go_wp2_with fail
      refine (rbelow_any _ a x H.out.ha).mono ?_
      rintro e w2 ⟨rfl, rfl⟩
      go_wp2_with fail
      refine (rbelow_any _ b y H.out.hb).mono ?_
      rintro e w2 ⟨rfl, rfl⟩
      go_wp2_with fail
      refine (rminus_int _ _ _ (sval true (x.natAbs / y.natAbs)) 1 ⟨rfl, T_one.symm, by rw [ba_size]; exact Nat.le_trans HQL.out (by decide), by decide⟩ (by decide)).mono ?_
      rintro e w2 ⟨rfl, hb2⟩
      rw [F2.out]
      have HB1 := hide (HB1.out.trans (hb2.mono HB1.out.size))
      clear hb2
      go_wp2_with fail
      refine (rtimes_int _ _ b (x.fdiv y) y ⟨rfl, H.out.hb, by rw [ba_size]; exact Nat.le_trans HFD.out (by decide), H.out.bz⟩).mono ?_
      rintro e w3 ⟨rfl, hb3⟩
      have HB3 := hide (HB1.out.trans (hb3.mono HB1.out.size))
      clear hb3
      go_wp2_with fail
      refine (rminus_int _ a _ x (x.fdiv y * y) ⟨H.out.ha, rfl, H.out.az, by rw [ba_size]; exact Nat.le_trans (T_len_of HPR.out) (by decide)⟩ (by rw [ba_size]; exact Nat.le_trans (T_len_of HPR.out) (by decide))).mono ?_
      rintro e w4 ⟨rfl, hb4⟩
      rw [HRE.out]
      have HB4 := hide (HB3.out.trans (hb4.mono HB3.out.size))
      clear hb4
      go_wp2_with fail
      go_ret2
      exact ⟨rfl, HB4.out⟩

theorem rparted_any (w : World) (a b : ByteArray) (x y : Int) (h : RTwo a b x y) (hy : y ≠ 0) (haz : a.size ≤ 300000) (hbz : b.size ≤ 300000) :
    Calls Tryz.prog 149 #[.string a, .string b] w fun e w' => RetPair (T (x.fdiv y)) (T (x.fmod y)) e ∧ Below w.heap.size w w' := by
  by_cases hbr : (Lib.decDigits x.natAbs).length ≤ 18 ∧ (Lib.decDigits y.natAbs).length ≤ 18
  · exact rparted_small w a b x y h hy hbr.1 hbr.2
  · exact rparted_great w a b x y h hy haz hbz hbr

theorem fmod_nat (p q : Nat) : (p : Int).fmod (q : Int) = ((p % q : Nat) : Int) := by
  rw [Int.fmod_eq_emod_of_nonneg _ (by omega)]; simp

set_option maxRecDepth 100000 in
set_option maxHeartbeats 4000000 in
theorem rshared_any (w : World) (a b : ByteArray) (x y : Int) (h : RTwo a b x y) (haz : a.size ≤ 300000) (hbz : b.size ≤ 300000) :
    Calls Tryz.prog 147 #[.string a, .string b] w fun e w' => e = .returned (.string ⟨(T (Int.gcd x y : Int)).toArray⟩) ∧ Below w.heap.size w w' := by
  have H := hide h
  have l1 := (mag_T_len h.ha).1
  have l2 := (mag_T_len h.hb).1
  clear h
  go_enter Tryz.func147, Tryz.ntmps147
  go_wp2_with fail
  refine (rsize_any _ a _ H.out.ha (by omega)).mono ?_
  rintro e w1 ⟨rfl, rfl⟩
  rw [mag_ba]
  go_wp2_with fail
  refine (rsigned_any _ _ x.natAbs _ rfl (by rw [ba_size]; omega)).mono ?_
  rintro e w1 ⟨rfl, rfl⟩
  go_wp2_with fail
  refine (rsize_any _ b _ H.out.hb (by omega)).mono ?_
  rintro e w1 ⟨rfl, rfl⟩
  rw [mag_ba]
  go_wp2_with fail
  refine (rsigned_any _ _ y.natAbs _ rfl (by rw [ba_size]; omega)).mono ?_
  rintro e w1 ⟨rfl, rfl⟩
  go_wp2_with fail
  go_loopg [0, 1] y.natAbs (fun k av bv wr => ∃ (p q : Nat) (s t : ByteArray), av = .string s ∧ bv = .string t ∧ s.data.toList = T (p : Int) ∧ t.data.toList = T (q : Int) ∧ (Lib.decDigits p).length ≤ 300000 ∧ (Lib.decDigits q).length ≤ 300000 ∧ k = q ∧ Nat.gcd p q = Int.gcd x y ∧ Below w.heap.size w wr)
  case atStart => exact ⟨x.natAbs, y.natAbs, _, _, rfl, rfl, rfl, rfl, by omega, by omega, rfl, rfl, Below.refl _ _⟩
  case round =>
    obtain ⟨p, q, s, t, rfl, rfl, hs, ht, hp, hq, hk, hg, hb⟩ := hrel
    have HS := hide hs
    have HT := hide ht
    have HP := hide hp
    have HQ := hide hq
    have HK := hide hk
    have HG := hide hg
    have HB := hide hb
    have zs : s.size ≤ 300000 := by rw [Lib.size_eq, hs, T_nat]; exact hp
    have zt : t.size ≤ 300000 := by rw [Lib.size_eq, ht, T_nat]; exact hq
    have htl : t.toList = Lib.decDigits q := by rw [Lib.toList_data, ht, T_nat]
    clear hs ht hp hq hk hg hb
    by_cases h0 : q = 0
    · have e1 : (t.toList == [48]) = true := by rw [htl, h0, dec_zero]; rfl
      have e2 : (!(t.toList == [48])) = false := by rw [e1]; rfl
      have hfin : s = ⟨(T (Int.gcd x y : Int)).toArray⟩ := ba_eq (by rw [HS.out, ← HG.out, h0, Nat.gcd_zero_right])
      have HF := hide hfin
      clear htl hfin h0
      go_wp2_with fail
      go_ret
      exact ⟨by rw [← HF.out]; rfl, HB.out⟩
    · have e1 : (t.toList == [48]) = false := by
        rw [beq_eq_false_iff_ne, htl, ← dec_zero]; intro e; exact h0 (dec_inj e)
      have e2 : (!(t.toList == [48])) = true := by rw [e1]; rfl
      clear htl
      by_cases hbr : (Lib.decDigits (p : Int).natAbs).length ≤ 18 ∧ (Lib.decDigits (q : Int).natAbs).length ≤ 18
      · obtain ⟨h1, h2⟩ := hbr
        obtain ⟨x1, x2⟩ := brief_bound h1
        obtain ⟨y1, y2⟩ := brief_bound h2
        clear h1 h2
        obtain ⟨wo, rfl⟩ : ∃ wo : World, wo = wr := ⟨_, rfl⟩
        go_wp2_with fail
        refine (rbrief_yes _ _ _ (p : Int) (q : Int) HS.out HT.out ((dec_length_le (by decide)).2 (by omega)) ((dec_length_le (by decide)).2 (by omega))).mono ?_
        rintro e w2 ⟨rfl, rfl⟩
        go_wp2_with fail
        go_loopg [5, 6] q (fun k mv nv wi => ∃ (m n z : Nat), mv = .int .i64 (m : Int) ∧ nv = .int .i64 (n : Int) ∧ k = n ∧ m < 1000000000000000000 ∧ n < 1000000000000000000 ∧ Nat.gcd m n = Int.gcd x y ∧ wi = wo.drewN z)
        case atStart => exact ⟨p, q, 0, rfl, rfl, rfl, by omega, by omega, HG.out, rfl⟩
        case round =>
          obtain ⟨m, n, z, rfl, rfl, hk2, hm, hn, hgmn, rfl⟩ := hrel
          have HK2 := hide hk2
          have GMN := hide hgmn
          clear hk2 hgmn
          by_cases hn0 : n = 0
          · have hz : ¬ (0 : Int) < (n : Int) := by omega
            have hz' : ¬ 0 < n := by omega
            have hmg : m = Int.gcd x y := by have := GMN.out; rw [hn0, Nat.gcd_zero_right] at this; exact this
            have HMG := hide hmg
            clear hmg hn0
            go_wp2_with fail
            refine (rof_any (m : Int) (by omega) (by omega) _).mono ?_
            rintro e w5 ⟨rfl, hb5⟩
            have K5 := hide ((below_drewN HB.out z).trans (hb5.mono (by have := HB.out.size; simpa using this)))
            clear hb5
            go_wp2_with fail
            go_ret
            exact ⟨by rw [← HMG.out]; rfl, K5.out⟩
          · have hz : (0 : Int) < (n : Int) := by omega
            have hz' : 0 < n := by omega
            have hz2 : ((n : Int) == 0) = false := by rw [beq_eq_false_iff_ne]; omega
            have hmod : (m : Int).tmod (n : Int) = ((m % n : Nat) : Int) := by rw [Int.tmod_eq_emod_of_nonneg (by omega)]; simp
            have hml : m % n < n := Nat.mod_lt _ (by omega)
            have ew : IntKind.i64.wrap ((m : Int).tmod (n : Int)) = ((m % n : Nat) : Int) := by rw [hmod]; exact IntWalk.i64_in _ ⟨by omega, by omega⟩
            have HMOD := hide hmod
            clear hmod
            go_wp2_with fail
            go_quiet (fail)
            go_wp2_with fail
            go_roundg (m % n)
            case measure => have := HK2.out; omega
            case rel =>
              refine ⟨n, m % n, _, rfl, ?_, rfl, hn, by omega, ?_, World.drewN_drewN _ _ _⟩
              · first | rfl | (rw [HMOD.out]) | (congr 1)
              · rw [Nat.gcd_comm, ← Nat.gcd_rec, Nat.gcd_comm]; exact GMN.out
      · have hqn : ((q : Nat) : Int) ≠ 0 := by omega
        have hlt : p % q < q := Nat.mod_lt _ (by omega)
        have HPQ := hide (rparted_any wr s t (p : Int) (q : Int) ⟨HS.out, HT.out, by omega, by omega⟩ hqn zs zt)
        have hfm := fmod_nat p q
        have HFM := hide hfm
        clear hfm
        go_wp2_with fail
        refine (rbrief_no _ _ _ (p : Int) (q : Int) HS.out HT.out (by omega) (by omega) hbr).mono ?_
        rintro e w2 ⟨rfl, rfl⟩
        clear hbr
        go_wp2_with fail
        refine HPQ.out.mono ?_
        rintro e w2 ⟨hr, hb2⟩
        rw [RetPair] at hr
        subst hr
        rw [HFM.out]
        have HB2 := hide (HB.out.trans (hb2.mono HB.out.size))
        clear hb2
        go_wp2_with fail
        go_roundg (p % q)
        case measure => have := HK.out; omega
        case rel =>
          refine ⟨q, p % q, t, _, rfl, rfl, HT.out, rfl, HQ.out, Nat.le_trans (dec_len_mono (Nat.le_of_lt hlt)) HQ.out, rfl, ?_, HB2.out⟩
          rw [Nat.gcd_comm, ← Nat.gcd_rec, Nat.gcd_comm]; exact HG.out
end Go.Proofs.YtblfinpfcpglcaaGreatDoor
