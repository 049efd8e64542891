/- The reference's integers: Plus, Minus, Times, Parted, Shared. The reference's integers: Parted, Shared. The reference's rational numbers: Lowest, Whole. -/
import Derived.Test.YtaccdkbofhlbkaaGreatDoorDiv
import Derived.Test.YtaccdkbofhlbkaaGreatDoorRatio
import Derived.Test.YtaccdkbofhlbkaaGreatDoorRfive
namespace Go.Proofs.YtaccdkbofhlbkaaGreatDoor
open Go.RowKit MLab

/-- Texts of integers that are not too long for the reference's paper. -/
structure RTwo (a b : ByteArray) (x y : Int) : Prop where
  ha : a.data.toList = T x
  hb : b.data.toList = T y
  az : a.size ≤ 800000
  bz : b.size ≤ 800000

theorem RTwo.small {a b : ByteArray} {x y : Int} (h : RTwo a b x y) : (Lib.decDigits x.natAbs).length ≤ 800000 ∧ (Lib.decDigits y.natAbs).length ≤ 800000 :=
  ⟨Nat.le_trans (mag_T_len h.ha).1 h.az, Nat.le_trans (mag_T_len h.hb).1 h.bz⟩

theorem dec_len_add {a b k : Nat} (hk : 1 ≤ k) (ha : (Lib.decDigits a).length ≤ k) (hb : (Lib.decDigits b).length ≤ k) : (Lib.decDigits (a + b)).length ≤ k + 1 := by
  have h1 := (dec_length_le hk).1 ha
  have h2 := (dec_length_le hk).1 hb
  refine (dec_length_le (by omega)).2 ?_
  rw [Nat.pow_succ]; omega
theorem dec_len_mul {a b k l : Nat} (hk : 1 ≤ k) (hl : 1 ≤ l) (ha : (Lib.decDigits a).length ≤ k) (hb : (Lib.decDigits b).length ≤ l) : (Lib.decDigits (a * b)).length ≤ k + l := by
  have h1 := (dec_length_le hk).1 ha
  have h2 := (dec_length_le hl).1 hb
  refine (dec_length_le (by omega)).2 ?_
  rw [Nat.pow_add]
  exact Nat.mul_lt_mul'' h1 h2

theorem mag_ba {x : Int} : (⟨(mag (T x)).toArray⟩ : ByteArray) = ⟨(Lib.decDigits x.natAbs).toArray⟩ := by rw [mag_T]

theorem sval_same {x y : Int} (h : decide (x < 0) = decide (y < 0)) : sval (decide (x < 0)) (x.natAbs + y.natAbs) = x + y := by
  unfold sval
  by_cases h1 : x < 0
  · have h2 : y < 0 := by rw [decide_eq_true h1] at h; exact of_decide_eq_true h.symm
    rw [decide_eq_true h1]; simp; omega
  · have h2 : ¬ y < 0 := by rw [decide_eq_false h1] at h; exact of_decide_eq_false h.symm
    rw [decide_eq_false h1]; simp; omega
theorem sval_less {x y : Int} (h : ¬ decide (x < 0) = decide (y < 0)) (hl : x.natAbs < y.natAbs) : sval (decide (y < 0)) (y.natAbs - x.natAbs) = x + y := by
  unfold sval
  by_cases h1 : y < 0
  · have h2 : ¬ x < 0 := fun h2 => h (by rw [decide_eq_true h1, decide_eq_true h2])
    rw [decide_eq_true h1]; simp; omega
  · have h2 : x < 0 := by
      by_cases h2 : x < 0
      · exact h2
      · exact absurd (by rw [decide_eq_false h1, decide_eq_false h2]) h
    rw [decide_eq_false h1]; simp; omega
theorem sval_more {x y : Int} (h : ¬ decide (x < 0) = decide (y < 0)) (hl : ¬ x.natAbs < y.natAbs) : sval (decide (x < 0)) (x.natAbs - y.natAbs) = x + y := by
  unfold sval
  by_cases h1 : x < 0
  · have h2 : ¬ y < 0 := fun h2 => h (by rw [decide_eq_true h1, decide_eq_true h2])
    rw [decide_eq_true h1]; simp; omega
  · have h2 : y < 0 := by
      by_cases h2 : y < 0
      · exact h2
      · exact absurd (by rw [decide_eq_false h1, decide_eq_false h2]) h
    rw [decide_eq_false h1]; simp; omega

set_option maxRecDepth 100000 in
set_option maxHeartbeats 4000000 in
theorem rplus_any (w : World) (a b : ByteArray) (x y : Int) (h : RTwo a b x y) :
    Calls Tryz.prog 84 #[.string a, .string b] w fun e w' => e = .returned (.string ⟨(T (x + y)).toArray⟩) ∧ Below w.heap.size w w' := by
  obtain ⟨hx, hy⟩ := h.small
  have H := hide h
  clear h
  by_cases hbr : (Lib.decDigits x.natAbs).length ≤ 18 ∧ (Lib.decDigits y.natAbs).length ≤ 18
  · obtain ⟨h1, h2⟩ := hbr
    obtain ⟨x1, x2⟩ := brief_bound h1
    obtain ⟨y1, y2⟩ := brief_bound h2
    go_enter Tryz.func84, Tryz.ntmps84
    go_wp2_with fail
    refine (rbrief_yes _ _ _ x y H.out.ha H.out.hb h1 h2).mono ?_
    rintro e w1 ⟨rfl, rfl⟩
    go_wp2_with fail
    refine (rof_any (x + y) (by omega) (by omega) _).mono ?_
    rintro e w1 ⟨rfl, hb⟩
    go_wp2_with fail
    go_ret
    exact ⟨rfl, hb⟩
  · have az := H.out.az
    have bz := H.out.bz
    go_enter Tryz.func84, Tryz.ntmps84
    go_wp2_with fail
    refine (rbrief_no _ _ _ x y H.out.ha H.out.hb (by omega) (by omega) hbr).mono ?_
    rintro e w1 ⟨rfl, rfl⟩
    go_wp2_with fail
    refine (rsize_any _ a _ H.out.ha (by omega)).mono ?_
    rintro e w1 ⟨rfl, rfl⟩
    rw [mag_ba]
    go_wp2_with fail
    refine (rsize_any _ b _ H.out.hb (by omega)).mono ?_
    rintro e w1 ⟨rfl, rfl⟩
    rw [mag_ba]
    have sx : (⟨(Lib.decDigits x.natAbs).toArray⟩ : ByteArray).size ≤ 800000 := by rw [ba_size]; exact hx
    have sy : (⟨(Lib.decDigits y.natAbs).toArray⟩ : ByteArray).size ≤ 800000 := by rw [ba_size]; exact hy
    have dx : (⟨(Lib.decDigits x.natAbs).toArray⟩ : ByteArray).data.toList = Lib.decDigits x.natAbs := rfl
    have dy : (⟨(Lib.decDigits y.natAbs).toArray⟩ : ByteArray).data.toList = Lib.decDigits y.natAbs := rfl
    generalize (⟨(Lib.decDigits x.natAbs).toArray⟩ : ByteArray) = gx at *
    generalize (⟨(Lib.decDigits y.natAbs).toArray⟩ : ByteArray) = gy at *
    have DX := hide dx
    have DY := hide dy
    clear dx dy hbr
    go_wp2_with fail
    refine (rbelow_any _ a x H.out.ha).mono ?_
    rintro e w1 ⟨rfl, rfl⟩
    go_wp2_with fail
    refine (rbelow_any _ b y H.out.hb).mono ?_
    rintro e w1 ⟨rfl, rfl⟩
    by_cases hsg : decide (x < 0) = decide (y < 0)
    · have hq : (decide (x < 0) == decide (y < 0)) = true := by rw [hsg]; simp
      have HSG := hide hsg
      have HRES := hide (sval_same hsg)
      have hlen : (Lib.decDigits (x.natAbs + y.natAbs)).length ≤ 1000000000000 := by
        exact Nat.le_trans (dec_len_add (k := 800000) (by decide) hx hy) (by decide)
      clear hsg
      go_wp2_with fail
      refine (rpaper_add _ gx gy _ _ DX.out DY.out (by omega) (by omega)).mono ?_
      rintro e w1 ⟨rfl, hb⟩
      have HB := hide hb
      clear hb
      go_wp2_with fail
      refine (rbelow_any _ a x H.out.ha).mono ?_
      rintro e w2 ⟨rfl, rfl⟩
      go_wp2_with fail
      refine (rsigned_any _ _ _ _ rfl (by rw [ba_size]; exact hlen)).mono ?_
      rintro e w2 ⟨rfl, rfl⟩
      rw [HRES.out]
      go_wp2_with fail
      go_ret
      exact ⟨rfl, HB.out⟩
    · have hq : (decide (x < 0) == decide (y < 0)) = false := beq_eq_false_iff_ne.2 hsg
      have HSG := hide hsg
      clear hsg
      go_wp2_with fail
      refine (rlessd_any _ gx gy _ _ DX.out DY.out).mono ?_
      rintro e w1 ⟨rfl, rfl⟩
      by_cases hl : x.natAbs < y.natAbs
      · rw [decide_eq_true hl]
        have HRES := hide (sval_less HSG.out hl)
        have HL := hide hl
        have hlen : (Lib.decDigits (y.natAbs - x.natAbs)).length ≤ 1000000000000 := Nat.le_trans (dec_len_mono (Nat.sub_le _ _)) (by omega)
        clear hl
        go_wp2_with fail
        refine (rpaper_sub _ gy gx _ _ DY.out DX.out (by omega) (by omega) (Nat.le_of_lt HL.out)).mono ?_
        rintro e w1 ⟨rfl, hb⟩
        have HB := hide hb
        clear hb
        go_wp2_with fail
        refine (rbelow_any _ b y H.out.hb).mono ?_
        rintro e w2 ⟨rfl, rfl⟩
        go_wp2_with fail
        refine (rsigned_any _ _ _ _ rfl (by rw [ba_size]; exact hlen)).mono ?_
        rintro e w2 ⟨rfl, rfl⟩
        rw [HRES.out]
        go_wp2_with fail
        go_ret
        exact ⟨rfl, HB.out⟩
      · rw [decide_eq_false hl]
        have HRES := hide (sval_more HSG.out hl)
        have HL := hide hl
        have hlen : (Lib.decDigits (x.natAbs - y.natAbs)).length ≤ 1000000000000 := Nat.le_trans (dec_len_mono (Nat.sub_le _ _)) (by omega)
        clear hl
        go_wp2_with fail
        refine (rpaper_sub _ gx gy _ _ DX.out DY.out (by omega) (by omega) (by have := HL.out; omega)).mono ?_
        rintro e w1 ⟨rfl, hb⟩
        have HB := hide hb
        clear hb
        go_wp2_with fail
        refine (rbelow_any _ a x H.out.ha).mono ?_
        rintro e w2 ⟨rfl, rfl⟩
        go_wp2_with fail
        refine (rsigned_any _ _ _ _ rfl (by rw [ba_size]; exact hlen)).mono ?_
        rintro e w2 ⟨rfl, rfl⟩
        rw [HRES.out]
        go_wp2_with fail
        go_ret
        exact ⟨rfl, HB.out⟩

theorem rtwo_turn {a b : ByteArray} {x y : Int} (h : RTwo a b x y) (hb : b.size ≤ 799999) : RTwo a ⟨(T (-y)).toArray⟩ x (-y) :=
  ⟨h.ha, rfl, h.az, by
    rw [ba_size, T_length, show (-y).natAbs = y.natAbs by omega]
    have := (mag_T_len h.hb).1
    split <;> omega⟩

set_option maxRecDepth 100000 in
set_option maxHeartbeats 1000000 in
theorem rminus_int (w : World) (a b : ByteArray) (x y : Int) (h : RTwo a b x y) (hb : b.size ≤ 799999) :
    Calls Tryz.prog 125 #[.string a, .string b] w fun e w' => e = .returned (.string ⟨(T (x - y)).toArray⟩) ∧ Below w.heap.size w w' := by
  have H := hide h
  have H2 := hide (rtwo_turn h hb)
  clear h
  go_enter Tryz.func125, Tryz.ntmps125
  go_wp2_with fail
  refine (rturned_any _ b y H.out.hb (by omega)).mono ?_
  rintro e w1 ⟨rfl, rfl⟩
  go_wp2_with fail
  refine (rplus_any _ a _ x (-y) H2.out).mono ?_
  rintro e w1 ⟨rfl, hbl⟩
  rw [← Int.sub_eq_add_neg]
  go_wp2_with fail
  go_ret
  exact ⟨rfl, hbl⟩

set_option maxRecDepth 100000 in
set_option maxHeartbeats 4000000 in
theorem rtimes_int (w : World) (a b : ByteArray) (x y : Int) (h : RTwo a b x y) :
    Calls Tryz.prog 76 #[.string a, .string b] w fun e w' => e = .returned (.string ⟨(T (x * y)).toArray⟩) ∧ Below w.heap.size w w' := by
  obtain ⟨hx, hy⟩ := h.small
  have H := hide h
  have l1 := (mag_T_len h.ha).1
  have l2 := (mag_T_len h.hb).1
  have az := h.az
  have bz := h.bz
  have hdx := dec_length_pos x.natAbs
  have hdy := dec_length_pos y.natAbs
  clear h
  by_cases hs : a.size + b.size ≤ 18
  · have h1 : (Lib.decDigits x.natAbs).length ≤ 18 := by omega
    have h2 : (Lib.decDigits y.natAbs).length ≤ 18 := by omega
    have hlen : (Lib.decDigits (x * y).natAbs).length ≤ 18 := by
      rw [Int.natAbs_mul]
      exact Nat.le_trans (dec_len_mul hdx hdy (Nat.le_refl _) (Nat.le_refl _)) (by omega)
    obtain ⟨x1, x2⟩ := brief_bound h1
    obtain ⟨y1, y2⟩ := brief_bound h2
    obtain ⟨p1, p2⟩ := brief_bound hlen
    have hsi : (a.size : Int) + (b.size : Int) ≤ 18 := by omega
    clear hlen hx hy l1 l2 hdx hdy
    go_enter Tryz.func76, Tryz.ntmps76
    go_wp2_with fail
    refine (rbrief_yes _ _ _ x y H.out.ha H.out.hb h1 h2).mono ?_
    rintro e w1 ⟨rfl, rfl⟩
    go_wp2_with fail
    refine (rof_any (x * y) (by omega) (by omega) _).mono ?_
    rintro e w1 ⟨rfl, hb⟩
    go_wp2_with fail
    go_ret
    exact ⟨rfl, hb⟩
  · have hsi : ¬ (a.size : Int) + (b.size : Int) ≤ 18 := by omega
    have hlen : (Lib.decDigits (x.natAbs * y.natAbs)).length ≤ 1000000000000 := Nat.le_trans (dec_len_mul hdx hdy (Nat.le_refl _) (Nat.le_refl _)) (by omega)
    have hsv : sval (!(decide (x < 0) == decide (y < 0))) (x.natAbs * y.natAbs) = x * y := sval_mul x y
    have HLEN := hide hlen
    have HSV := hide hsv
    clear hlen l1 l2 hdx hdy hsv
    by_cases hbr : (Lib.decDigits x.natAbs).length ≤ 18 ∧ (Lib.decDigits y.natAbs).length ≤ 18
    · obtain ⟨h1, h2⟩ := hbr
      go_enter Tryz.func76, Tryz.ntmps76
      go_wp2_with fail
      refine (rbrief_yes _ _ _ x y H.out.ha H.out.hb h1 h2).mono ?_
      rintro e w1 ⟨rfl, rfl⟩
      go_wp2_with fail
      refine (rsize_any _ a _ H.out.ha (by omega)).mono ?_
      rintro e w1 ⟨rfl, rfl⟩
      rw [mag_ba]
      go_wp2_with fail
      refine (rsize_any _ b _ H.out.hb (by omega)).mono ?_
      rintro e w1 ⟨rfl, rfl⟩
      rw [mag_ba]
      go_wp2_with fail
      refine (rproduct_any _ _ _ x.natAbs y.natAbs rfl rfl (by rw [ba_size]; omega) (by rw [ba_size]; omega)).mono ?_
      rintro e w1 ⟨rfl, hb⟩
      have HB := hide hb
      clear hb
      go_wp2_with fail
      refine (rbelow_any _ a x H.out.ha).mono ?_
      rintro e w2 ⟨rfl, rfl⟩
      go_wp2_with fail
      refine (rbelow_any _ b y H.out.hb).mono ?_
      rintro e w2 ⟨rfl, rfl⟩
      go_wp2_with fail
      refine (rsigned_any _ _ (x.natAbs * y.natAbs) _ rfl (by rw [ba_size]; exact HLEN.out)).mono ?_
      rintro e w2 ⟨rfl, rfl⟩
      rw [HSV.out]
      go_wp2_with fail
      go_ret
      exact ⟨rfl, HB.out⟩
    · go_enter Tryz.func76, Tryz.ntmps76
      go_wp2_with fail
      refine (rbrief_no _ _ _ x y H.out.ha H.out.hb (by omega) (by omega) hbr).mono ?_
      rintro e w1 ⟨rfl, rfl⟩
      clear hbr
      go_wp2_with fail
      refine (rsize_any _ a _ H.out.ha (by omega)).mono ?_
      rintro e w1 ⟨rfl, rfl⟩
      rw [mag_ba]
      go_wp2_with fail
      refine (rsize_any _ b _ H.out.hb (by omega)).mono ?_
      rintro e w1 ⟨rfl, rfl⟩
      rw [mag_ba]
      go_wp2_with fail
      refine (rproduct_any _ _ _ x.natAbs y.natAbs rfl rfl (by rw [ba_size]; omega) (by rw [ba_size]; omega)).mono ?_
      rintro e w1 ⟨rfl, hb⟩
      have HB := hide hb
      clear hb
      go_wp2_with fail
      refine (rbelow_any _ a x H.out.ha).mono ?_
      rintro e w2 ⟨rfl, rfl⟩
      go_wp2_with fail
      refine (rbelow_any _ b y H.out.hb).mono ?_
      rintro e w2 ⟨rfl, rfl⟩
      go_wp2_with fail
      refine (rsigned_any _ _ (x.natAbs * y.natAbs) _ rfl (by rw [ba_size]; exact HLEN.out)).mono ?_
      rintro e w2 ⟨rfl, rfl⟩
      rw [HSV.out]
      go_wp2_with fail
      go_ret
      exact ⟨rfl, HB.out⟩
end Go.Proofs.YtaccdkbofhlbkaaGreatDoor

namespace Go.Proofs.YtaccdkbofhlbkaaGreatDoor
open Go.RowKit MLab

theorem sub_fmod_tdiv {x y : Int} (hy : y ≠ 0) : (x - x.fmod y).tdiv y = x.fdiv y := by
  have h := Int.mul_fdiv_add_fmod x y
  rw [show x - x.fmod y = y * x.fdiv y by omega, Int.mul_tdiv_cancel_left _ hy]

/-- A pair of texts. -/
def RetPair (p q : List UInt8) (e : Ending) : Prop := e = .returned (.tuple #[.string ⟨p.toArray⟩, .string ⟨q.toArray⟩])

set_option maxRecDepth 100000 in
set_option maxHeartbeats 4000000 in
theorem rparted_small (w : World) (a b : ByteArray) (x y : Int) (h : RTwo a b x y) (hy : y ≠ 0) (h1 : (Lib.decDigits x.natAbs).length ≤ 18) (h2 : (Lib.decDigits y.natAbs).length ≤ 18) :
    Calls Tryz.prog 113 #[.string a, .string b] w fun e w' => RetPair (T (x.fdiv y)) (T (x.fmod y)) e ∧ Below w.heap.size w w' := by
  obtain ⟨x1, x2⟩ := brief_bound h1
  obtain ⟨y1, y2⟩ := brief_bound h2
  have H := hide h
  have htm : (x.tmod y).natAbs < y.natAbs := by rw [Int.natAbs_tmod]; exact Nat.mod_lt _ (by omega)
  have hfl := tdiv_floor (x := x) hy
  have hsf := sub_fmod_tdiv (x := x) hy
  have hfd : (x.fdiv y).natAbs ≤ x.natAbs + 1 := by
    have h3 : (x.tdiv y).natAbs ≤ x.natAbs := by rw [Int.natAbs_tdiv]; exact Nat.div_le_self _ _
    by_cases hc : x.tmod y = 0 ∨ (x.tmod y < 0 ↔ y < 0)
    · rw [(hfl.1 hc).1]; omega
    · rw [(hfl.2 (fun e => hc (.inl e)) (fun e => hc (.inr e))).1]; omega
  have hfm : (x.fmod y).natAbs ≤ y.natAbs := by
    by_cases hc : x.tmod y = 0 ∨ (x.tmod y < 0 ↔ y < 0)
    · rw [(hfl.1 hc).2]; omega
    · rw [(hfl.2 (fun e => hc (.inl e)) (fun e => hc (.inr e))).2]; omega
  have HFL := hide hfl
  have ey : (y == 0) = false := by rw [beq_eq_false_iff_ne]; exact hy
  have ew2 : IntKind.i64.wrap (x.tmod y) = x.tmod y := IntWalk.i64_in _ ⟨by omega, by omega⟩
  have r1 : -1000000000000000000 < x.tmod y := by omega
  have r2 : x.tmod y < 1000000000000000000 := by omega
  have F1 := hide (p := -9223372036854775808 ≤ x.fdiv y ∧ x.fdiv y ≤ 9223372036854775807) (by omega)
  have F2 := hide (p := -9223372036854775808 ≤ x.fmod y ∧ x.fmod y ≤ 9223372036854775807) (by omega)
  have SF := hide hsf
  clear h hfl hsf hfd hfm htm
  go_enter Tryz.func113, Tryz.ntmps113
  go_wp2_with fail
  refine (rbrief_yes _ _ _ x y H.out.ha H.out.hb h1 h2).mono ?_
  rintro e w1 ⟨rfl, rfl⟩
  by_cases hr0 : x.tmod y = 0
  · have hb0 : (x.tmod y != 0) = false := by rw [hr0]; rfl
    obtain ⟨f1, f2⟩ := HFL.out.1 (.inl hr0)
    have G1 := hide (show wrap64 ((x - x.tmod y).tdiv y) = x.fdiv y by rw [← f2, SF.out]; exact IntWalk.wrap64_in _ F1.out)
    have G2 := hide f2
    clear f1 f2 hr0
    go_wp2_with fail
    rw [G1.out]
    refine (rof_any _ F1.out.1 F1.out.2 _).mono ?_
    rintro e w2 ⟨rfl, hb2⟩
    go_wp2_with fail
    rw [← G2.out]
    refine (rof_any _ F2.out.1 F2.out.2 _).mono ?_
    rintro e w3 ⟨rfl, hb3⟩
    have HB := hide (hb2.trans (hb3.mono hb2.size))
    clear hb2 hb3
    go_wp2_with fail
    go_ret2
    exact ⟨rfl, HB.out⟩
  · have hb0 : (x.tmod y != 0) = true := by rw [bne_iff_ne]; exact hr0
    by_cases hk : (x.tmod y < 0 ↔ y < 0)
    · have hb1 : (!(decide (x.tmod y < 0) == decide (y < 0))) = false := by simp [hk]
      obtain ⟨f1, f2⟩ := HFL.out.1 (.inr hk)
      have G1 := hide (show wrap64 ((x - x.tmod y).tdiv y) = x.fdiv y by rw [← f2, SF.out]; exact IntWalk.wrap64_in _ F1.out)
      have G2 := hide f2
      clear f1 f2 hk hr0
      go_wp2_with fail
      rw [G1.out]
      refine (rof_any _ F1.out.1 F1.out.2 _).mono ?_
      rintro e w2 ⟨rfl, hb2⟩
      go_wp2_with fail
      rw [← G2.out]
      refine (rof_any _ F2.out.1 F2.out.2 _).mono ?_
      rintro e w3 ⟨rfl, hb3⟩
      have HB := hide (hb2.trans (hb3.mono hb2.size))
      clear hb2 hb3
      go_wp2_with fail
      go_ret2
      exact ⟨rfl, HB.out⟩
    · have hb1 : (!(decide (x.tmod y < 0) == decide (y < 0))) = true := by
        by_cases h1 : x.tmod y < 0 <;> by_cases h2 : y < 0 <;> simp [h1, h2] at hk ⊢
      obtain ⟨f1, f2⟩ := HFL.out.2 hr0 hk
      have G1 := hide (show wrap64 ((x - (x.tmod y + y)).tdiv y) = x.fdiv y by rw [← f2, SF.out]; exact IntWalk.wrap64_in _ F1.out)
      have G2 := hide f2
      clear f1 f2 hk hr0
      go_wp2_with fail
      rw [G1.out]
      refine (rof_any _ F1.out.1 F1.out.2 _).mono ?_
      rintro e w2 ⟨rfl, hb2⟩
      go_wp2_with fail
      rw [← G2.out]
      refine (rof_any _ F2.out.1 F2.out.2 _).mono ?_
      rintro e w3 ⟨rfl, hb3⟩
      have HB := hide (hb2.trans (hb3.mono hb2.size))
      clear hb2 hb3
      go_wp2_with fail
      go_ret2
      exact ⟨rfl, HB.out⟩

theorem fdiv_abs {x y : Int} (hy : y ≠ 0) : (x.fdiv y).natAbs ≤ x.natAbs + 1 := by
  have hfl := tdiv_floor (x := x) hy
  have h3 : (x.tdiv y).natAbs ≤ x.natAbs := by rw [Int.natAbs_tdiv]; exact Nat.div_le_self _ _
  by_cases hc : x.tmod y = 0 ∨ (x.tmod y < 0 ↔ y < 0)
  · rw [(hfl.1 hc).1]; omega
  · rw [(hfl.2 (fun e => hc (.inl e)) (fun e => hc (.inr e))).1]; omega
theorem fmod_abs {x y : Int} (hy : y ≠ 0) : (x.fmod y).natAbs < y.natAbs := by
  have htm : (x.tmod y).natAbs < y.natAbs := by rw [Int.natAbs_tmod]; exact Nat.mod_lt _ (by omega)
  have hfl := tdiv_floor (x := x) hy
  by_cases hc : x.tmod y = 0 ∨ (x.tmod y < 0 ↔ y < 0)
  · rw [(hfl.1 hc).2]; omega
  · rw [(hfl.2 (fun e => hc (.inl e)) (fun e => hc (.inr e))).2]; omega
theorem T_len_of {z : Int} {k : Nat} (h : (Lib.decDigits z.natAbs).length ≤ k) : (T z).length ≤ k + 1 := by rw [T_length]; split <;> omega
theorem dec_len_succ {a b k : Nat} (hk : 1 ≤ k) (hb : (Lib.decDigits b).length ≤ k) (h : a ≤ b + 1) : (Lib.decDigits a).length ≤ k + 1 :=
  Nat.le_trans (dec_len_mono h) (dec_len_add hk hb (by rw [dec_one]; exact hk))
theorem T_len_fdiv {x y : Int} (hy : y ≠ 0) : (T (x.fdiv y)).length ≤ (Lib.decDigits x.natAbs).length + 2 :=
  T_len_of (dec_len_succ (dec_length_pos _) (Nat.le_refl _) (fdiv_abs hy))

set_option maxRecDepth 100000 in
set_option maxHeartbeats 4000000 in
theorem rparted_great (w : World) (a b : ByteArray) (x y : Int) (h : RTwo a b x y) (hy : y ≠ 0) (haz : a.size ≤ 300000) (hbz : b.size ≤ 300000) (hbr : ¬ ((Lib.decDigits x.natAbs).length ≤ 18 ∧ (Lib.decDigits y.natAbs).length ≤ 18)) :
    Calls Tryz.prog 113 #[.string a, .string b] w fun e w' => RetPair (T (x.fdiv y)) (T (x.fmod y)) e ∧ Below w.heap.size w w' := by
  have H := hide h
  have l1 := (mag_T_len h.ha).1
  have l2 := (mag_T_len h.hb).1
  have hmf := mag_floor (x := x) hy
  have hrest : x - x.fdiv y * y = x.fmod y := by have := Int.mul_fdiv_add_fmod x y; rw [Int.mul_comm] at this; omega
  have hprod : (Lib.decDigits (x.fdiv y * y).natAbs).length ≤ 600003 := by
    rw [Int.natAbs_mul]
    refine Nat.le_trans (dec_len_mul (k := 300002) (l := 300000) (by decide) (by decide) ?_ (by omega)) (by decide)
    exact Nat.le_trans (dec_len_succ (dec_length_pos _) (Nat.le_refl _) (fdiv_abs hy)) (by omega)
  have hq : (Lib.decDigits (x.natAbs / y.natAbs)).length ≤ 300000 := Nat.le_trans (dec_len_mono (Nat.div_le_self _ _)) (by omega)
  have hfd : (T (x.fdiv y)).length ≤ 300002 := Nat.le_trans (T_len_fdiv hy) (by omega)
  have hyn : 0 < y.natAbs := by omega
  have hres : (⟨(Lib.decDigits (x.natAbs % y.natAbs)).toArray⟩ : ByteArray).toList = Lib.decDigits (x.natAbs % y.natAbs) := by rw [Lib.toList_data]
  have HMF := hide hmf
  have HRE := hide hrest
  have HPR := hide hprod
  have HQ := hide hq
  have HFD := hide hfd
  have HRES := hide hres
  clear h hmf hrest hprod hq hfd hres
  go_enter Tryz.func113, Tryz.ntmps113
  go_wp2_with fail
  refine (rbrief_no _ _ _ x y H.out.ha H.out.hb (by omega) (by omega) hbr).mono ?_
  rintro e w1 ⟨rfl, rfl⟩
  clear hbr
  go_wp2_with fail
  refine (rsize_any _ a _ H.out.ha (by omega)).mono ?_
  rintro e w1 ⟨rfl, rfl⟩
  rw [mag_ba]
  go_wp2_with fail
  refine (rsize_any _ b _ H.out.hb (by omega)).mono ?_
  rintro e w1 ⟨rfl, rfl⟩
  rw [mag_ba]
  go_wp2_with fail
  refine (rdivided_any _ _ _ x.natAbs y.natAbs rfl rfl hyn (by rw [ba_size]; omega) (by rw [ba_size]; omega)).mono ?_
  rintro e w1 ⟨rfl, hb1⟩
  have HB1 := hide hb1
  clear hb1
  generalize (⟨(Lib.decDigits (x.natAbs % y.natAbs)).toArray⟩ : ByteArray) = rest at *
  go_wp2_with fail
  refine (rbelow_any _ a x H.out.ha).mono ?_
  rintro e w2 ⟨rfl, rfl⟩
  go_wp2_with fail
  refine (rbelow_any _ b y H.out.hb).mono ?_
  rintro e w2 ⟨rfl, rfl⟩
  have hsv : (!(decide (x < 0) == decide (y < 0))) = (decide (x < 0) != decide (y < 0)) := rfl
  have HSV := hide hsv
  clear hsv
  go_wp2_with fail
  refine (rsigned_any _ _ (x.natAbs / y.natAbs) _ rfl (by rw [ba_size]; exact Nat.le_trans HQ.out (by decide))).mono ?_
  rintro e w2 ⟨rfl, rfl⟩
  rw [HSV.out]
  by_cases hr0 : x.natAbs % y.natAbs = 0
  · have e1 : (rest.toList == [48]) = true := by rw [HRES.out, hr0, dec_zero]; rfl
    have e2 : (!(rest.toList == [48])) = false := by rw [e1]; rfl
    have f1 := (HMF.out.1 (.inl hr0)).1
    rw [← f1]
    clear hr0 f1
    go_wp2_with fail
    refine (rtimes_int _ _ b (x.fdiv y) y ⟨rfl, H.out.hb, by rw [ba_size]; exact Nat.le_trans HFD.out (by decide), H.out.bz⟩).mono ?_
    rintro e w3 ⟨rfl, hb3⟩
    have HB3 := hide (HB1.out.trans (hb3.mono HB1.out.size))
    clear hb3
    go_wp2_with fail
    refine (rminus_int _ a _ x (x.fdiv y * y) ⟨H.out.ha, rfl, H.out.az, by rw [ba_size]; exact Nat.le_trans (T_len_of HPR.out) (by decide)⟩ (by rw [ba_size]; exact Nat.le_trans (T_len_of HPR.out) (by decide))).mono ?_
    rintro e w4 ⟨rfl, hb4⟩
    rw [HRE.out]
    have HB4 := hide (HB3.out.trans (hb4.mono HB3.out.size))
    clear hb4
    go_wp2_with fail
    go_ret2
    exact ⟨rfl, HB4.out⟩
  · have e1 : (rest.toList == [48]) = false := by
      rw [beq_eq_false_iff_ne, HRES.out, ← dec_zero]; intro e; exact hr0 (dec_inj e)
    have e2 : (!(rest.toList == [48])) = true := by rw [e1]; rfl
    by_cases hsg : decide (x < 0) = decide (y < 0)
    · have f1 := (HMF.out.1 (.inr hsg)).1
      rw [← f1]
      have e3 : (!(decide (x < 0) == decide (y < 0))) = false := by rw [hsg]; simp
      clear hr0 f1 hsg
      go_wp2_with fail
      refine (rbelow_any _ a x H.out.ha).mono ?_
      rintro e w2 ⟨rfl, rfl⟩
      go_wp2_with fail
      refine (rbelow_any _ b y H.out.hb).mono ?_
      rintro e w2 ⟨rfl, rfl⟩
      go_wp2_with fail
      refine (rtimes_int _ _ b (x.fdiv y) y ⟨rfl, H.out.hb, by rw [ba_size]; exact Nat.le_trans HFD.out (by decide), H.out.bz⟩).mono ?_
      rintro e w3 ⟨rfl, hb3⟩
      have HB3 := hide (HB1.out.trans (hb3.mono HB1.out.size))
      clear hb3
      go_wp2_with fail
      refine (rminus_int _ a _ x (x.fdiv y * y) ⟨H.out.ha, rfl, H.out.az, by rw [ba_size]; exact Nat.le_trans (T_len_of HPR.out) (by decide)⟩ (by rw [ba_size]; exact Nat.le_trans (T_len_of HPR.out) (by decide))).mono ?_
      rintro e w4 ⟨rfl, hb4⟩
      rw [HRE.out]
      have HB4 := hide (HB3.out.trans (hb4.mono HB3.out.size))
      clear hb4
      go_wp2_with fail
      go_ret2
      exact ⟨rfl, HB4.out⟩
    · have f1 := (HMF.out.2 hr0 hsg).1
      have e3 : (!(decide (x < 0) == decide (y < 0))) = true := by rw [Bool.not_eq_true']; exact beq_eq_false_iff_ne.2 hsg
      have e4 : (decide (x < 0) != decide (y < 0)) = true := e3
      have f2 : sval true (x.natAbs / y.natAbs) - 1 = x.fdiv y := by rw [f1]; simp [sval]; omega
      rw [e4]
      have F2 := hide f2
      have hql : (T (sval true (x.natAbs / y.natAbs))).length ≤ 300001 := T_len_of (by rw [sval_abs]; exact HQ.out)
      have HQL := hide hql
      clear hr0 f1 hsg e4 f2 hql
      go_wp2_with fail
      refine (rbelow_any _ a x H.out.ha).mono ?_
      rintro e w2 ⟨rfl, rfl⟩
      go_wp2_with fail
      refine (rbelow_any _ b y H.out.hb).mono ?_
      rintro e w2 ⟨rfl, rfl⟩
      go_wp2_with fail
      refine (rminus_int _ _ _ (sval true (x.natAbs / y.natAbs)) 1 ⟨rfl, T_one.symm, by rw [ba_size]; exact Nat.le_trans HQL.out (by decide), by decide⟩ (by decide)).mono ?_
      rintro e w2 ⟨rfl, hb2⟩
      rw [F2.out]
      have HB1 := hide (HB1.out.trans (hb2.mono HB1.out.size))
      clear hb2
      go_wp2_with fail
      refine (rtimes_int _ _ b (x.fdiv y) y ⟨rfl, H.out.hb, by rw [ba_size]; exact Nat.le_trans HFD.out (by decide), H.out.bz⟩).mono ?_
      rintro e w3 ⟨rfl, hb3⟩
      have HB3 := hide (HB1.out.trans (hb3.mono HB1.out.size))
      clear hb3
      go_wp2_with fail
      refine (rminus_int _ a _ x (x.fdiv y * y) ⟨H.out.ha, rfl, H.out.az, by rw [ba_size]; exact Nat.le_trans (T_len_of HPR.out) (by decide)⟩ (by rw [ba_size]; exact Nat.le_trans (T_len_of HPR.out) (by decide))).mono ?_
      rintro e w4 ⟨rfl, hb4⟩
      rw [HRE.out]
      have HB4 := hide (HB3.out.trans (hb4.mono HB3.out.size))
      clear hb4
      go_wp2_with fail
      go_ret2
      exact ⟨rfl, HB4.out⟩

theorem rparted_any (w : World) (a b : ByteArray) (x y : Int) (h : RTwo a b x y) (hy : y ≠ 0) (haz : a.size ≤ 300000) (hbz : b.size ≤ 300000) :
    Calls Tryz.prog 113 #[.string a, .string b] w fun e w' => RetPair (T (x.fdiv y)) (T (x.fmod y)) e ∧ Below w.heap.size w w' := by
  by_cases hbr : (Lib.decDigits x.natAbs).length ≤ 18 ∧ (Lib.decDigits y.natAbs).length ≤ 18
  · exact rparted_small w a b x y h hy hbr.1 hbr.2
  · exact rparted_great w a b x y h hy haz hbz hbr

theorem fmod_nat (p q : Nat) : (p : Int).fmod (q : Int) = ((p % q : Nat) : Int) := by
  rw [Int.fmod_eq_emod_of_nonneg _ (by omega)]; simp

set_option maxRecDepth 100000 in
set_option maxHeartbeats 4000000 in
theorem rshared_any (w : World) (a b : ByteArray) (x y : Int) (h : RTwo a b x y) (haz : a.size ≤ 300000) (hbz : b.size ≤ 300000) :
    Calls Tryz.prog 82 #[.string a, .string b] w fun e w' => e = .returned (.string ⟨(T (Int.gcd x y : Int)).toArray⟩) ∧ Below w.heap.size w w' := by
  have H := hide h
  have l1 := (mag_T_len h.ha).1
  have l2 := (mag_T_len h.hb).1
  clear h
  go_enter Tryz.func82, Tryz.ntmps82
  go_wp2_with fail
  refine (rsize_any _ a _ H.out.ha (by omega)).mono ?_
  rintro e w1 ⟨rfl, rfl⟩
  rw [mag_ba]
  go_wp2_with fail
  refine (rsigned_any _ _ x.natAbs _ rfl (by rw [ba_size]; omega)).mono ?_
  rintro e w1 ⟨rfl, rfl⟩
  go_wp2_with fail
  refine (rsize_any _ b _ H.out.hb (by omega)).mono ?_
  rintro e w1 ⟨rfl, rfl⟩
  rw [mag_ba]
  go_wp2_with fail
  refine (rsigned_any _ _ y.natAbs _ rfl (by rw [ba_size]; omega)).mono ?_
  rintro e w1 ⟨rfl, rfl⟩
  go_wp2_with fail
  go_loopg [0, 1] y.natAbs (fun k av bv wr => ∃ (p q : Nat) (s t : ByteArray), av = .string s ∧ bv = .string t ∧ s.data.toList = T (p : Int) ∧ t.data.toList = T (q : Int) ∧ (Lib.decDigits p).length ≤ 300000 ∧ (Lib.decDigits q).length ≤ 300000 ∧ k = q ∧ Nat.gcd p q = Int.gcd x y ∧ Below w.heap.size w wr)
  case atStart => exact ⟨x.natAbs, y.natAbs, _, _, rfl, rfl, rfl, rfl, by omega, by omega, rfl, rfl, Below.refl _ _⟩
  case round =>
    obtain ⟨p, q, s, t, rfl, rfl, hs, ht, hp, hq, hk, hg, hb⟩ := hrel
    have HS := hide hs
    have HT := hide ht
    have HP := hide hp
    have HQ := hide hq
    have HK := hide hk
    have HG := hide hg
    have HB := hide hb
    have zs : s.size ≤ 300000 := by rw [Lib.size_eq, hs, T_nat]; exact hp
    have zt : t.size ≤ 300000 := by rw [Lib.size_eq, ht, T_nat]; exact hq
    have htl : t.toList = Lib.decDigits q := by rw [Lib.toList_data, ht, T_nat]
    clear hs ht hp hq hk hg hb
    by_cases h0 : q = 0
    · have e1 : (t.toList == [48]) = true := by rw [htl, h0, dec_zero]; rfl
      have e2 : (!(t.toList == [48])) = false := by rw [e1]; rfl
      have hfin : s = ⟨(T (Int.gcd x y : Int)).toArray⟩ := ba_eq (by rw [HS.out, ← HG.out, h0, Nat.gcd_zero_right])
      have HF := hide hfin
      clear htl hfin h0
      go_wp2_with fail
      go_ret
      exact ⟨by rw [← HF.out]; rfl, HB.out⟩
    · have e1 : (t.toList == [48]) = false := by
        rw [beq_eq_false_iff_ne, htl, ← dec_zero]; intro e; exact h0 (dec_inj e)
      have e2 : (!(t.toList == [48])) = true := by rw [e1]; rfl
      clear htl
      by_cases hbr : (Lib.decDigits (p : Int).natAbs).length ≤ 18 ∧ (Lib.decDigits (q : Int).natAbs).length ≤ 18
      · obtain ⟨h1, h2⟩ := hbr
        obtain ⟨x1, x2⟩ := brief_bound h1
        obtain ⟨y1, y2⟩ := brief_bound h2
        clear h1 h2
        obtain ⟨wo, rfl⟩ : ∃ wo : World, wo = wr := ⟨_, rfl⟩
        go_wp2_with fail
        refine (rbrief_yes _ _ _ (p : Int) (q : Int) HS.out HT.out ((dec_length_le (by decide)).2 (by omega)) ((dec_length_le (by decide)).2 (by omega))).mono ?_
        rintro e w2 ⟨rfl, rfl⟩
        go_wp2_with fail
        go_loopg [5, 6] q (fun k mv nv wi => ∃ (m n z : Nat), mv = .int .i64 (m : Int) ∧ nv = .int .i64 (n : Int) ∧ k = n ∧ m < 1000000000000000000 ∧ n < 1000000000000000000 ∧ Nat.gcd m n = Int.gcd x y ∧ wi = wo.drewN z)
        case atStart => exact ⟨p, q, 0, rfl, rfl, rfl, by omega, by omega, HG.out, rfl⟩
        case round =>
          obtain ⟨m, n, z, rfl, rfl, hk2, hm, hn, hgmn, rfl⟩ := hrel
          have HK2 := hide hk2
          have GMN := hide hgmn
          clear hk2 hgmn
          by_cases hn0 : n = 0
          · have hz : ¬ (0 : Int) < (n : Int) := by omega
            have hz' : ¬ 0 < n := by omega
            have hmg : m = Int.gcd x y := by have := GMN.out; rw [hn0, Nat.gcd_zero_right] at this; exact this
            have HMG := hide hmg
            clear hmg hn0
            go_wp2_with fail
            refine (rof_any (m : Int) (by omega) (by omega) _).mono ?_
            rintro e w5 ⟨rfl, hb5⟩
            have K5 := hide ((below_drewN HB.out z).trans (hb5.mono (by have := HB.out.size; simpa using this)))
            clear hb5
            go_wp2_with fail
            go_ret
            exact ⟨by rw [← HMG.out]; rfl, K5.out⟩
          · have hz : (0 : Int) < (n : Int) := by omega
            have hz' : 0 < n := by omega
            have hz2 : ((n : Int) == 0) = false := by rw [beq_eq_false_iff_ne]; omega
            have hmod : (m : Int).tmod (n : Int) = ((m % n : Nat) : Int) := by rw [Int.tmod_eq_emod_of_nonneg (by omega)]; simp
            have hml : m % n < n := Nat.mod_lt _ (by omega)
            have ew : IntKind.i64.wrap ((m : Int).tmod (n : Int)) = ((m % n : Nat) : Int) := by rw [hmod]; exact IntWalk.i64_in _ ⟨by omega, by omega⟩
            have HMOD := hide hmod
            clear hmod
            go_wp2_with fail
            go_quiet (fail)
            go_wp2_with fail
            go_roundg (m % n)
            case measure => have := HK2.out; omega
            case rel =>
              refine ⟨n, m % n, _, rfl, ?_, rfl, hn, by omega, ?_, World.drewN_drewN _ _ _⟩
              · first | rfl | (rw [HMOD.out]) | (congr 1)
              · rw [Nat.gcd_comm, ← Nat.gcd_rec, Nat.gcd_comm]; exact GMN.out
      · have hqn : ((q : Nat) : Int) ≠ 0 := by omega
        have hlt : p % q < q := Nat.mod_lt _ (by omega)
        have HPQ := hide (rparted_any wr s t (p : Int) (q : Int) ⟨HS.out, HT.out, by omega, by omega⟩ hqn zs zt)
        have hfm := fmod_nat p q
        have HFM := hide hfm
        clear hfm
        go_wp2_with fail
        refine (rbrief_no _ _ _ (p : Int) (q : Int) HS.out HT.out (by omega) (by omega) hbr).mono ?_
        rintro e w2 ⟨rfl, rfl⟩
        clear hbr
        go_wp2_with fail
        refine HPQ.out.mono ?_
        rintro e w2 ⟨hr, hb2⟩
        rw [RetPair] at hr
        subst hr
        rw [HFM.out]
        have HB2 := hide (HB.out.trans (hb2.mono HB.out.size))
        clear hb2
        go_wp2_with fail
        go_roundg (p % q)
        case measure => have := HK.out; omega
        case rel =>
          refine ⟨q, p % q, t, _, rfl, rfl, HT.out, rfl, HQ.out, Nat.le_trans (dec_len_mono (Nat.le_of_lt hlt)) HQ.out, rfl, ?_, HB2.out⟩
          rw [Nat.gcd_comm, ← Nat.gcd_rec, Nat.gcd_comm]; exact HG.out
end Go.Proofs.YtaccdkbofhlbkaaGreatDoor

namespace Go.Proofs.YtaccdkbofhlbkaaGreatDoor
open Go.RowKit MLab

set_option maxRecDepth 100000 in
theorem r2whole_any (n : Int) (h0 : -9223372036854775808 ≤ n) (h1 : n ≤ 9223372036854775807) (w : World) :
    Calls Tryz.prog 115 #[.int .i64 n] w fun e w' => e = .returned (.string ⟨(RT n).toArray⟩) ∧ Below w.heap.size w w' := by
  have hr : RT (n : Rat) = T n := by rw [RT, if_pos (by simp)]; simp
  have HR := hide hr
  clear hr
  go_enter Tryz.func115, Tryz.ntmps115
  go_wp2_with fail
  refine (rof_any n h0 h1 w).mono ?_
  rintro e w1 ⟨rfl, hb⟩
  go_wp2_with fail
  go_ret
  exact ⟨by rw [HR.out]; rfl, hb⟩

theorem gcd_len {x y : Int} (hy : y ≠ 0) {k : Nat} (h : (Lib.decDigits y.natAbs).length ≤ k) : (T (Int.gcd x y : Int)).length ≤ k := by
  rw [T_nat]
  exact Nat.le_trans (dec_len_mono (Nat.le_of_dvd (by omega) (Nat.gcd_dvd_right _ _))) h
theorem lowG_len {x y : Int} (hy : y ≠ 0) {k : Nat} (h : (Lib.decDigits y.natAbs).length ≤ k) : (T (lowG x y)).length ≤ k + 1 := by
  refine T_len_of ?_
  rw [lowG_abs]
  exact Nat.le_trans (dec_len_mono (Nat.le_of_dvd (by omega) (Nat.gcd_dvd_right _ _))) h

set_option maxRecDepth 100000 in
set_option maxHeartbeats 4000000 in
theorem rlowest_any (w : World) (a b : ByteArray) (x y : Int) (h : RTwo a b x y) (hy : y ≠ 0) (haz : a.size ≤ 200000) (hbz : b.size ≤ 200000) :
    Calls Tryz.prog 66 #[.string a, .string b] w fun e w' => e = .returned (.string ⟨(RT (Rat.divInt x y)).toArray⟩) ∧ Below w.heap.size w w' := by
  have H := hide h
  have l2 := (mag_T_len h.hb).1
  have HG := hide (Nat.le_trans (gcd_len (x := x) hy l2) hbz)
  have HL := hide (Nat.le_trans (lowG_len (x := x) hy l2) (Nat.add_le_add_right hbz 1))
  have HNE := hide (lowG_ne (x := x) hy)
  obtain ⟨e1, e2⟩ := low_num (x := x) hy
  have E1 := hide e1
  have E2 := hide e2
  clear h e1 e2
  go_enter Tryz.func66, Tryz.ntmps66
  go_wp2_with fail
  refine (rshared_any _ a b x y H.out (by omega) (by omega)).mono ?_
  rintro e w1 ⟨rfl, hb1⟩
  have HB1 := hide hb1
  clear hb1
  go_wp2_with fail
  refine (rbelow_any _ b y H.out.hb).mono ?_
  rintro e w2 ⟨rfl, rfl⟩
  go_upto_if 14 with (fail)
  go_cut [5] (fun v wc => v = .string ⟨(T (lowG x y)).toArray⟩ ∧ Below w.heap.size w wc)
  case first =>
    by_cases hn : y < 0
    · have hd : decide (y < 0) = true := decide_eq_true hn
      have hl : -(Int.gcd x y : Int) = lowG x y := by rw [lowG, if_pos hn]
      have HLL := hide hl
      rw [hd]
      clear hn hd hl
      go_wp2_with fail
      refine (rturned_any _ _ (Int.gcd x y : Int) rfl (by rw [ba_size]; exact Nat.le_trans HG.out (by decide))).mono ?_
      rintro e w2 ⟨rfl, rfl⟩
      rw [HLL.out]
      go_wp2_with fail
      go_meet
      case rel => exact ⟨rfl, HB1.out⟩
    · have hd : decide (y < 0) = false := decide_eq_false hn
      have hl : (Int.gcd x y : Int) = lowG x y := by rw [lowG, if_neg hn]
      rw [hd, hl]
      clear hn hd hl
      go_wp2_with fail
      go_meet
      case rel => exact ⟨rfl, HB1.out⟩
  case rest =>
    obtain ⟨rfl, hb⟩ := hcut
    have HB := hide hb
    clear hb HB1
    have P1 := hide (rparted_any wc a ⟨(T (lowG x y)).toArray⟩ x (lowG x y) ⟨H.out.ha, rfl, H.out.az, by rw [ba_size]; exact Nat.le_trans HL.out (by decide)⟩ HNE.out (by omega) (by rw [ba_size]; exact Nat.le_trans HL.out (by decide)))
    go_wp2_with fail
    refine P1.out.mono ?_
    rintro e w2 ⟨hr, hb2⟩
    rw [RetPair] at hr
    subst hr
    rw [E1.out]
    have HB2 := hide (HB.out.trans (hb2.mono HB.out.size))
    clear hb2 P1
    have P2 := hide (rparted_any w2 b ⟨(T (lowG x y)).toArray⟩ y (lowG x y) ⟨H.out.hb, rfl, H.out.bz, by rw [ba_size]; exact Nat.le_trans HL.out (by decide)⟩ HNE.out (by omega) (by rw [ba_size]; exact Nat.le_trans HL.out (by decide)))
    go_wp2_with fail
    refine P2.out.mono ?_
    rintro e w3 ⟨hr, hb3⟩
    rw [RetPair] at hr
    subst hr
    rw [E2.out]
    have HB3 := hide (HB2.out.trans (hb3.mono HB2.out.size))
    clear hb3 P2
    generalize hq : Rat.divInt x y = q at *
    have HQ := hide hq
    clear hq
    have zn : (⟨(T q.num).toArray⟩ : ByteArray).size ≤ 300000 := by
      rw [ba_size, ← E1.out]
      have h1 := T_len_fdiv (x := x) HNE.out
      have h2 := (mag_T_len H.out.ha).1
      omega
    have zd : (⟨(T (q.den : Int)).toArray⟩ : ByteArray).size ≤ 300000 := by
      rw [ba_size, ← E2.out]
      have h1 := T_len_fdiv (x := y) HNE.out
      omega
    have tl : (⟨(T (q.den : Int)).toArray⟩ : ByteArray).toList = T (q.den : Int) := ba_toList _
    have dn : (⟨(T q.num).toArray⟩ : ByteArray).data.toList = T q.num := rfl
    have dd : (⟨(T (q.den : Int)).toArray⟩ : ByteArray).data.toList = T (q.den : Int) := rfl
    generalize (⟨(T q.num).toArray⟩ : ByteArray) = gn at *
    generalize (⟨(T (q.den : Int)).toArray⟩ : ByteArray) = gd at *
    by_cases hd1 : q.den = 1
    · have hb : (gd.toList == [49]) = true := by rw [tl, hd1, show ((1 : Nat) : Int) = 1 from rfl, T_one]; rfl
      have e : gn = ⟨(RT q).toArray⟩ := ba_eq (by rw [dn, RT, if_pos hd1])
      have E := hide e
      clear tl dn dd e hd1
      go_wp2_with fail
      go_ret
      exact ⟨by rw [HQ.out, ← E.out]; rfl, HB3.out⟩
    · have hb : (gd.toList == [49]) = false := by
        rw [beq_eq_false_iff_ne, tl]; intro e
        have := T_inj (e.trans T_one.symm)
        omega
      have e : gn ++ (⟨#[47]⟩ : ByteArray) ++ gd = ⟨(RT q).toArray⟩ := ba_eq (by
        rw [ByteArray.data_append, ByteArray.data_append, Array.toList_append, Array.toList_append, dn, dd, RT, if_neg hd1, T_nat, List.append_assoc]; rfl)
      have E := hide e
      clear tl dn dd e hd1
      go_wp2_with fail
      go_ret
      exact ⟨by rw [HQ.out, ← E.out]; rfl, HB3.out⟩
end Go.Proofs.YtaccdkbofhlbkaaGreatDoor
