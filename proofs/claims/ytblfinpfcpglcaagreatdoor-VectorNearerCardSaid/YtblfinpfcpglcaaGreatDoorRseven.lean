/- The reference's integers: Plus, Minus, Times, Parted, Shared. -/
import Derived.Test.YtblfinpfcpglcaaGreatDoorRsix
import Derived.Test.YtblfinpfcpglcaaGreatDoorDiv
namespace Go.Proofs.YtblfinpfcpglcaaGreatDoor
open Go.RowKit MLab

/-- Texts of integers that are not too long for the reference's paper. -/
structure RTwo (a b : ByteArray) (x y : Int) : Prop where
  ha : a.data.toList = T x
  hb : b.data.toList = T y
  az : a.size ≤ 800000
  bz : b.size ≤ 800000

theorem RTwo.small {a b : ByteArray} {x y : Int} (h : RTwo a b x y) : (Lib.decDigits x.natAbs).length ≤ 800000 ∧ (Lib.decDigits y.natAbs).length ≤ 800000 :=
  ⟨Nat.le_trans (mag_T_len h.ha).1 h.az, Nat.le_trans (mag_T_len h.hb).1 h.bz⟩

theorem dec_len_add {a b k : Nat} (hk : 1 ≤ k) (ha : (Lib.decDigits a).length ≤ k) (hb : (Lib.decDigits b).length ≤ k) : (Lib.decDigits (a + b)).length ≤ k + 1 := by
  have h1 := (dec_length_le hk).1 ha
  have h2 := (dec_length_le hk).1 hb
  refine (dec_length_le (by omega)).2 ?_
  rw [Nat.pow_succ]; omega
theorem dec_len_mul {a b k l : Nat} (hk : 1 ≤ k) (hl : 1 ≤ l) (ha : (Lib.decDigits a).length ≤ k) (hb : (Lib.decDigits b).length ≤ l) : (Lib.decDigits (a * b)).length ≤ k + l := by
  have h1 := (dec_length_le hk).1 ha
  have h2 := (dec_length_le hl).1 hb
  refine (dec_length_le (by omega)).2 ?_
  rw [Nat.pow_add]
  exact Nat.mul_lt_mul'' h1 h2

theorem mag_ba {x : Int} : (⟨(mag (T x)).toArray⟩ : ByteArray) = ⟨(Lib.decDigits x.natAbs).toArray⟩ := by rw [mag_T]

theorem sval_same {x y : Int} (h : decide (x < 0) = decide (y < 0)) : sval (decide (x < 0)) (x.natAbs + y.natAbs) = x + y := by
  unfold sval
  by_cases h1 : x < 0
  · have h2 : y < 0 := by rw [decide_eq_true h1] at h; exact of_decide_eq_true h.symm
    rw [decide_eq_true h1]; simp; omega
  · have h2 : ¬ y < 0 := by rw [decide_eq_false h1] at h; exact of_decide_eq_false h.symm
    rw [decide_eq_false h1]; simp; omega
theorem sval_less {x y : Int} (h : ¬ decide (x < 0) = decide (y < 0)) (hl : x.natAbs < y.natAbs) : sval (decide (y < 0)) (y.natAbs - x.natAbs) = x + y := by
  unfold sval
  by_cases h1 : y < 0
  · have h2 : ¬ x < 0 := fun h2 => h (by rw [decide_eq_true h1, decide_eq_true h2])
    rw [decide_eq_true h1]; simp; omega
  · have h2 : x < 0 := by
      by_cases h2 : x < 0
      · exact h2
      · exact absurd (by rw [decide_eq_false h1, decide_eq_false h2]) h
    rw [decide_eq_false h1]; simp; omega
theorem sval_more {x y : Int} (h : ¬ decide (x < 0) = decide (y < 0)) (hl : ¬ x.natAbs < y.natAbs) : sval (decide (x < 0)) (x.natAbs - y.natAbs) = x + y := by
  unfold sval
  by_cases h1 : x < 0
  · have h2 : ¬ y < 0 := fun h2 => h (by rw [decide_eq_true h1, decide_eq_true h2])
    rw [decide_eq_true h1]; simp; omega
  · have h2 : y < 0 := by
      by_cases h2 : y < 0
      · exact h2
      · exact absurd (by rw [decide_eq_false h1, decide_eq_false h2]) h
    rw [decide_eq_false h1]; simp; omega

set_option maxRecDepth 100000 in
set_option maxHeartbeats 4000000 in
theorem rplus_any (w : World) (a b : ByteArray) (x y : Int) (h : RTwo a b x y) :
    Calls Tryz.prog 154 #[.string a, .string b] w fun e w' => e = .returned (.string ⟨(T (x + y)).toArray⟩) ∧ Below w.heap.size w w' := by
  obtain ⟨hx, hy⟩ := h.small
  have H := hide h
  clear h
  by_cases hbr : (Lib.decDigits x.natAbs).length ≤ 18 ∧ (Lib.decDigits y.natAbs).length ≤ 18
  · obtain ⟨h1, h2⟩ := hbr
    obtain ⟨x1, x2⟩ := brief_bound h1
    obtain ⟨y1, y2⟩ := brief_bound h2
    go_enter Tryz.func154, Tryz.ntmps154
    go_wp2_with fail
    refine (rbrief_yes _ _ _ x y H.out.ha H.out.hb h1 h2).mono ?_
    rintro e w1 ⟨rfl, rfl⟩
    go_wp2_with fail
    refine (rof_any (x + y) (by omega) (by omega) _).mono ?_
    rintro e w1 ⟨rfl, hb⟩
    go_wp2_with fail
    go_ret
    exact ⟨rfl, hb⟩
  · have az := H.out.az
    have bz := H.out.bz
    go_enter Tryz.func154, Tryz.ntmps154
    go_wp2_with fail
    refine (rbrief_no _ _ _ x y H.out.ha H.out.hb (by omega) (by omega) hbr).mono ?_
    rintro e w1 ⟨rfl, rfl⟩
    go_wp2_with fail
    refine (rsize_any _ a _ H.out.ha (by omega)).mono ?_
    rintro e w1 ⟨rfl, rfl⟩
    rw [mag_ba]
    go_wp2_with fail
    refine (rsize_any _ b _ H.out.hb (by omega)).mono ?_
    rintro e w1 ⟨rfl, rfl⟩
    rw [mag_ba]
    have sx : (⟨(Lib.decDigits x.natAbs).toArray⟩ : ByteArray).size ≤ 800000 := by rw [ba_size]; exact hx
    have sy : (⟨(Lib.decDigits y.natAbs).toArray⟩ : ByteArray).size ≤ 800000 := by rw [ba_size]; exact hy
    have dx : (⟨(Lib.decDigits x.natAbs).toArray⟩ : ByteArray).data.toList = Lib.decDigits x.natAbs := rfl
    have dy : (⟨(Lib.decDigits y.natAbs).toArray⟩ : ByteArray).data.toList = Lib.decDigits y.natAbs := rfl
    generalize (⟨(Lib.decDigits x.natAbs).toArray⟩ : ByteArray) = gx at *
    generalize (⟨(Lib.decDigits y.natAbs).toArray⟩ : ByteArray) = gy at *
    have DX := hide dx
    have DY := hide dy
    clear dx dy hbr
    go_wp2_with fail
    refine (rbelow_any _ a x H.out.ha).mono ?_
    rintro e w1 ⟨rfl, rfl⟩
    go_wp2_with fail
    refine (rbelow_any _ b y H.out.hb).mono ?_
    rintro e w1 ⟨rfl, rfl⟩
    by_cases hsg : decide (x < 0) = decide (y < 0)
    · have hq : (decide (x < 0) == decide (y < 0)) = true := by rw [hsg]; simp
      have HSG := hide hsg
      have HRES := hide (sval_same hsg)
      have hlen : (Lib.decDigits (x.natAbs + y.natAbs)).length ≤ 1000000000000 := by
        exact Nat.le_trans (dec_len_add (k := 800000) (by decide) hx hy) (by decide)
      clear hsg
      go_wp2_with fail
      refine (rpaper_add _ gx gy _ _ DX.out DY.out (by omega) (by omega)).mono ?_
      rintro e w1 ⟨rfl, hb⟩
      have HB := hide hb
      clear hb
      go_wp2_with fail
      refine (rbelow_any _ a x H.out.ha).mono ?_
      rintro e w2 ⟨rfl, rfl⟩
      go_wp2_with fail
      refine (rsigned_any _ _ _ _ rfl (by rw [ba_size]; exact hlen)).mono ?_
      rintro e w2 ⟨rfl, rfl⟩
      rw [HRES.out]
      go_wp2_with fail
      go_ret
      exact ⟨rfl, HB.out⟩
    · have hq : (decide (x < 0) == decide (y < 0)) = false := beq_eq_false_iff_ne.2 hsg
      have HSG := hide hsg
      clear hsg
      go_wp2_with fail
      refine (rlessd_any _ gx gy _ _ DX.out DY.out).mono ?_
      rintro e w1 ⟨rfl, rfl⟩
      by_cases hl : x.natAbs < y.natAbs
      · rw [decide_eq_true hl]
        have HRES := hide (sval_less HSG.out hl)
        have HL := hide hl
        have hlen : (Lib.decDigits (y.natAbs - x.natAbs)).length ≤ 1000000000000 := Nat.le_trans (dec_len_mono (Nat.sub_le _ _)) (by omega)
        clear hl
        go_wp2_with fail
        refine (rpaper_sub _ gy gx _ _ DY.out DX.out (by omega) (by omega) (Nat.le_of_lt HL.out)).mono ?_
        rintro e w1 ⟨rfl, hb⟩
        have HB := hide hb
        clear hb
        go_wp2_with fail
        refine (rbelow_any _ b y H.out.hb).mono ?_
        rintro e w2 ⟨rfl, rfl⟩
        go_wp2_with fail
        refine (rsigned_any _ _ _ _ rfl (by rw [ba_size]; exact hlen)).mono ?_
        rintro e w2 ⟨rfl, rfl⟩
        rw [HRES.out]
        go_wp2_with fail
        go_ret
        exact ⟨rfl, HB.out⟩
      · rw [decide_eq_false hl]
        have HRES := hide (sval_more HSG.out hl)
        have HL := hide hl
        have hlen : (Lib.decDigits (x.natAbs - y.natAbs)).length ≤ 1000000000000 := Nat.le_trans (dec_len_mono (Nat.sub_le _ _)) (by omega)
        clear hl
        go_wp2_with fail
        refine (rpaper_sub _ gx gy _ _ DX.out DY.out (by omega) (by omega) (by have := HL.out; omega)).mono ?_
        rintro e w1 ⟨rfl, hb⟩
        have HB := hide hb
        clear hb
        go_wp2_with fail
        refine (rbelow_any _ a x H.out.ha).mono ?_
        rintro e w2 ⟨rfl, rfl⟩
        go_wp2_with fail
        refine (rsigned_any _ _ _ _ rfl (by rw [ba_size]; exact hlen)).mono ?_
        rintro e w2 ⟨rfl, rfl⟩
        rw [HRES.out]
        go_wp2_with fail
        go_ret
        exact ⟨rfl, HB.out⟩

theorem rtwo_turn {a b : ByteArray} {x y : Int} (h : RTwo a b x y) (hb : b.size ≤ 799999) : RTwo a ⟨(T (-y)).toArray⟩ x (-y) :=
  ⟨h.ha, rfl, h.az, by
    rw [ba_size, T_length, show (-y).natAbs = y.natAbs by omega]
    have := (mag_T_len h.hb).1
    split <;> omega⟩

set_option maxRecDepth 100000 in
set_option maxHeartbeats 1000000 in
theorem rminus_int (w : World) (a b : ByteArray) (x y : Int) (h : RTwo a b x y) (hb : b.size ≤ 799999) :
    Calls Tryz.prog 174 #[.string a, .string b] w fun e w' => e = .returned (.string ⟨(T (x - y)).toArray⟩) ∧ Below w.heap.size w w' := by
  have H := hide h
  have H2 := hide (rtwo_turn h hb)
  clear h
  go_enter Tryz.func174, Tryz.ntmps174
  go_wp2_with fail
  refine (rturned_any _ b y H.out.hb (by omega)).mono ?_
  rintro e w1 ⟨rfl, rfl⟩
  go_wp2_with fail
  refine (rplus_any _ a _ x (-y) H2.out).mono ?_
  rintro e w1 ⟨rfl, hbl⟩
  rw [← Int.sub_eq_add_neg]
  go_wp2_with fail
  go_ret
  exact ⟨rfl, hbl⟩

set_option maxRecDepth 100000 in
set_option maxHeartbeats 4000000 in
theorem rtimes_int (w : World) (a b : ByteArray) (x y : Int) (h : RTwo a b x y) :
    Calls Tryz.prog 125 #[.string a, .string b] w fun e w' => e = .returned (.string ⟨(T (x * y)).toArray⟩) ∧ Below w.heap.size w w' := by
  obtain ⟨hx, hy⟩ := h.small
  have H := hide h
  have l1 := (mag_T_len h.ha).1
  have l2 := (mag_T_len h.hb).1
  have az := h.az
  have bz := h.bz
  have hdx := dec_length_pos x.natAbs
  have hdy := dec_length_pos y.natAbs
  clear h
  by_cases hs : a.size + b.size ≤ 18
  · have h1 : (Lib.decDigits x.natAbs).length ≤ 18 := by omega
    have h2 : (Lib.decDigits y.natAbs).length ≤ 18 := by omega
    have hlen : (Lib.decDigits (x * y).natAbs).length ≤ 18 := by
      rw [Int.natAbs_mul]
      exact Nat.le_trans (dec_len_mul hdx hdy (Nat.le_refl _) (Nat.le_refl _)) (by omega)
    obtain ⟨x1, x2⟩ := brief_bound h1
    obtain ⟨y1, y2⟩ := brief_bound h2
    obtain ⟨p1, p2⟩ := brief_bound hlen
    have hsi : (a.size : Int) + (b.size : Int) ≤ 18 := by omega
    clear hlen hx hy l1 l2 hdx hdy
    go_enter Tryz.func125, Tryz.ntmps125
    go_wp2_with fail
    refine (rbrief_yes _ _ _ x y H.out.ha H.out.hb h1 h2).mono ?_
    rintro e w1 ⟨rfl, rfl⟩
    go_wp2_with fail
    refine (rof_any (x * y) (by omega) (by omega) _).mono ?_
    rintro e w1 ⟨rfl, hb⟩
    go_wp2_with fail
    go_ret
    exact ⟨rfl, hb⟩
  · have hsi : ¬ (a.size : Int) + (b.size : Int) ≤ 18 := by omega
    have hlen : (Lib.decDigits (x.natAbs * y.natAbs)).length ≤ 1000000000000 := Nat.le_trans (dec_len_mul hdx hdy (Nat.le_refl _) (Nat.le_refl _)) (by omega)
    have hsv : sval (!(decide (x < 0) == decide (y < 0))) (x.natAbs * y.natAbs) = x * y := sval_mul x y
    have HLEN := hide hlen
    have HSV := hide hsv
    clear hlen l1 l2 hdx hdy hsv
    by_cases hbr : (Lib.decDigits x.natAbs).length ≤ 18 ∧ (Lib.decDigits y.natAbs).length ≤ 18
    · obtain ⟨h1, h2⟩ := hbr
      go_enter Tryz.func125, Tryz.ntmps125
      go_wp2_with fail
      refine (rbrief_yes _ _ _ x y H.out.ha H.out.hb h1 h2).mono ?_
      rintro e w1 ⟨rfl, rfl⟩
      go_wp2_with fail
      refine (rsize_any _ a _ H.out.ha (by omega)).mono ?_
      rintro e w1 ⟨rfl, rfl⟩
      rw [mag_ba]
      go_wp2_with fail
      refine (rsize_any _ b _ H.out.hb (by omega)).mono ?_
      rintro e w1 ⟨rfl, rfl⟩
      rw [mag_ba]
      go_wp2_with fail
      refine (rproduct_any _ _ _ x.natAbs y.natAbs rfl rfl (by rw [ba_size]; omega) (by rw [ba_size]; omega)).mono ?_
      rintro e w1 ⟨rfl, hb⟩
      have HB := hide hb
      clear hb
      go_wp2_with fail
      refine (rbelow_any _ a x H.out.ha).mono ?_
      rintro e w2 ⟨rfl, rfl⟩
      go_wp2_with fail
      refine (rbelow_any _ b y H.out.hb).mono ?_
      rintro e w2 ⟨rfl, rfl⟩
      go_wp2_with fail
      refine (rsigned_any _ _ (x.natAbs * y.natAbs) _ rfl (by rw [ba_size]; exact HLEN.out)).mono ?_
      rintro e w2 ⟨rfl, rfl⟩
      rw [HSV.out]
      go_wp2_with fail
      go_ret
      exact ⟨rfl, HB.out⟩
    · go_enter Tryz.func125, Tryz.ntmps125
      go_wp2_with fail
      refine (rbrief_no _ _ _ x y H.out.ha H.out.hb (by omega) (by omega) hbr).mono ?_
      rintro e w1 ⟨rfl, rfl⟩
      clear hbr
      go_wp2_with fail
      refine (rsize_any _ a _ H.out.ha (by omega)).mono ?_
      rintro e w1 ⟨rfl, rfl⟩
      rw [mag_ba]
      go_wp2_with fail
      refine (rsize_any _ b _ H.out.hb (by omega)).mono ?_
      rintro e w1 ⟨rfl, rfl⟩
      rw [mag_ba]
      go_wp2_with fail
      refine (rproduct_any _ _ _ x.natAbs y.natAbs rfl rfl (by rw [ba_size]; omega) (by rw [ba_size]; omega)).mono ?_
      rintro e w1 ⟨rfl, hb⟩
      have HB := hide hb
      clear hb
      go_wp2_with fail
      refine (rbelow_any _ a x H.out.ha).mono ?_
      rintro e w2 ⟨rfl, rfl⟩
      go_wp2_with fail
      refine (rbelow_any _ b y H.out.hb).mono ?_
      rintro e w2 ⟨rfl, rfl⟩
      go_wp2_with fail
      refine (rsigned_any _ _ (x.natAbs * y.natAbs) _ rfl (by rw [ba_size]; exact HLEN.out)).mono ?_
      rintro e w2 ⟨rfl, rfl⟩
      rw [HSV.out]
      go_wp2_with fail
      go_ret
      exact ⟨rfl, HB.out⟩
end Go.Proofs.YtblfinpfcpglcaaGreatDoor
