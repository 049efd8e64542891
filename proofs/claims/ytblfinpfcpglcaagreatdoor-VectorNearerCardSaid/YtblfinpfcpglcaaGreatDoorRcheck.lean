/- ratio: cut, Check, checks, sums.mul, Compare. -/
import Derived.Test.YtblfinpfcpglcaaGreatDoorRtext
import Derived.Test.YtblfinpfcpglcaaGreatDoorRone
namespace Go.Proofs.YtblfinpfcpglcaaGreatDoor
open Go.RowKit MLab

theorem data47 : (⟨#[47]⟩ : ByteArray).data.toList = [47] := rfl
theorem numL_len (l : List UInt8) : (numL l).length ≤ l.length := by rw [numL, List.length_take]; omega
theorem denL_len (l : List UInt8) : (denL l).length ≤ l.length + 1 := by
  unfold denL; split
  · rw [List.length_drop]; omega
  · simp

set_option maxRecDepth 100000 in
set_option maxHeartbeats 1000000 in
theorem rcut_any (w : World) (s : ByteArray) (l : List UInt8) (hl : s.data.toList = l) (hsz : s.size < 4000000000) (hs : Std w) :
    Calls Tryz.prog 93 #[.string s] w fun e w' => e = .returned (.tuple #[.string ⟨(numL l).toArray⟩, .string ⟨(denL l).toArray⟩, .bool (wrB l)]) ∧ Below w.heap.size w w' := by
  have h1 := Tryz.strings_Cut_shaped s ⟨#[47]⟩ w hs.shp (by omega)
  rw [data47, hl, cut_slash] at h1
  by_cases hlt : sl l < l.length
  · rw [if_pos hlt] at h1
    have hw : wrB l = true := decide_eq_true hlt
    rw [hw]
    have H1 := hide h1
    clear h1 hl hlt hw hs
    go_enter Tryz.func93, Tryz.ntmps93
    go_wp2_with fail
    refine H1.out.mono ?_
    rintro e w1 ⟨rfl, n, rfl⟩
    go_wp2_with fail
    go_ret3
    exact ⟨rfl, below_drewN (Below.refl _ _) n⟩
  · rw [if_neg hlt] at h1
    have hw : wrB l = false := decide_eq_false hlt
    have hn : numL l = l := by rw [numL, List.take_of_length_le (by omega)]
    have hd : denL l = [49] := by rw [denL, if_neg hlt]
    rw [hw, hn, hd]
    have H1 := hide h1
    clear h1 hl hlt hw hn hd hs
    go_enter Tryz.func93, Tryz.ntmps93
    go_wp2_with fail
    refine H1.out.mono ?_
    rintro e w1 ⟨rfl, n, rfl⟩
    go_wp2_with fail
    go_ret3
    exact ⟨rfl, below_drewN (Below.refl _ _) n⟩

theorem std_next {w w1 : World} (h : Std w) (hb : Below w.heap.size w w1) : Std w1 := h.below hb (Nat.le_refl _)

set_option maxRecDepth 100000 in
set_option maxHeartbeats 4000000 in
theorem rcheck_any (w : World) (s : ByteArray) (l : List UInt8) (hl : s.data.toList = l) (hsz : s.size < 4000000000) (hs : Std w) :
    Calls Tryz.prog 130 #[.string s] w fun e w' => e = .returned (.int .i64 (chkR l)) ∧ Below w.heap.size w w' := by
  have HL := hide hl
  have HS := hide hs
  have hlz : l.length < 4000000000 := by rw [← hl, ← Lib.size_eq]; exact hsz
  have sn : (⟨(numL l).toArray⟩ : ByteArray).size ≤ 9223372036854775807 := by rw [ba_size]; have := numL_len l; omega
  have sd : (⟨(denL l).toArray⟩ : ByteArray).size ≤ 9223372036854775807 := by rw [ba_size]; have := denL_len l; omega
  have SN := hide sn
  have SD := hide sd
  clear hl hs sn sd
  by_cases e3 : chk (numL l) = 3
  · have hc : chkR l = 3 := by rw [chkR, if_pos (.inl e3)]
    have HC := hide hc
    have E3 := hide e3
    clear e3 hc
    go_enter Tryz.func130, Tryz.ntmps130
    go_wp2_with fail
    refine (rcut_any _ s l HL.out hsz HS.out).mono ?_
    rintro e w1 ⟨rfl, hb1⟩
    have B1 := hide hb1
    clear hb1
    go_wp2_with fail
    refine (check_any _ (numL l) rfl SN.out _).mono ?_
    rintro e w2 ⟨rfl, hb2⟩
    have B2 := hide (B1.out.trans (hb2.mono B1.out.size))
    clear hb2
    rw [E3.out]
    go_wp2_with fail
    refine (check_any _ (denL l) rfl SD.out _).mono ?_
    rintro e w3 ⟨rfl, hb3⟩
    have B3 := hide (B2.out.trans (hb3.mono B2.out.size))
    clear hb3
    go_wp2_with fail
    go_ret
    exact ⟨by rw [HC.out]; rfl, B3.out⟩
  · have he := chk_vals (numL l)
    by_cases f3 : chk (denL l) = 3
    · have hc : chkR l = 3 := by rw [chkR, if_pos (.inr f3)]
      have HC := hide hc
      have F3 := hide f3
      have e03 : (chk (numL l) == 3) = false := by rw [beq_eq_false_iff_ne]; exact e3
      clear e3 f3 hc he
      go_enter Tryz.func130, Tryz.ntmps130
      go_wp2_with fail
      refine (rcut_any _ s l HL.out hsz HS.out).mono ?_
      rintro e w1 ⟨rfl, hb1⟩
      have B1 := hide hb1
      clear hb1
      go_wp2_with fail
      refine (check_any _ (numL l) rfl SN.out _).mono ?_
      rintro e w2 ⟨rfl, hb2⟩
      have B2 := hide (B1.out.trans (hb2.mono B1.out.size))
      clear hb2
      go_wp2_with fail
      refine (check_any _ (denL l) rfl SD.out _).mono ?_
      rintro e w3 ⟨rfl, hb3⟩
      have B3 := hide (B2.out.trans (hb3.mono B2.out.size))
      clear hb3
      rw [F3.out]
      go_wp2_with fail
      go_ret
      exact ⟨by rw [HC.out]; rfl, B3.out⟩
    · have hf := chk_vals (denL l)
      by_cases e0 : chk (numL l) = 0
      · by_cases f0 : chk (denL l) = 0
        · obtain ⟨n, hn, hnb⟩ := chk_zero e0
          obtain ⟨d, hd, hdb⟩ := chk_zero f0
          have hcc : chkR l = if wrB l = false then 0 else if 1 < d ∧ Int.gcd n d = 1 then 0 else 3 := by
            rw [chkR, if_neg (by omega), if_neg (by omega), ← hn, ← hd, atoi_T, atoi_T]; rfl
          have E0 := hide e0
          have F0 := hide f0
          clear e3 f3 e0 f0 he hf
          cases hw : wrB l
          · have hc : chkR l = 0 := by rw [hcc, if_pos hw]
            have HC := hide hc
            have HW := hide hw
            clear hc hcc hn hd hw
            go_enter Tryz.func130, Tryz.ntmps130
            go_wp2_with fail
            refine (rcut_any _ s l HL.out hsz HS.out).mono ?_
            rintro e w1 ⟨rfl, hb1⟩
            have B1 := hide hb1
            clear hb1
            rw [HW.out]
            go_wp2_with fail
            refine (check_any _ (numL l) rfl SN.out _).mono ?_
            rintro e w2 ⟨rfl, hb2⟩
            have B2 := hide (B1.out.trans (hb2.mono B1.out.size))
            clear hb2
            rw [E0.out]
            go_wp2_with fail
            refine (check_any _ (denL l) rfl SD.out _).mono ?_
            rintro e w3 ⟨rfl, hb3⟩
            have B3 := hide (B2.out.trans (hb3.mono B2.out.size))
            clear hb3
            rw [F0.out]
            go_wp2_with fail
            go_ret
            exact ⟨by rw [HC.out]; rfl, B3.out⟩
          · rw [if_neg (by rw [hw]; simp)] at hcc
            have HW := hide hw
            have hn2 : (⟨(numL l).toArray⟩ : ByteArray) = ⟨(T n).toArray⟩ := by rw [hn]
            have hd2 : (⟨(denL l).toArray⟩ : ByteArray) = ⟨(T d).toArray⟩ := by rw [hd]
            have HN := hide hn2
            have HD := hide hd2
            have hgt : (⟨(T (Int.gcd n d : Int)).toArray⟩ : ByteArray).toList = T (Int.gcd n d : Int) := ba_toList _
            have HCC := hide hcc
            have HGT := hide hgt
            clear hn hd hn2 hd2 hcc hw hgt
            go_enter Tryz.func130, Tryz.ntmps130
            go_wp2_with fail
            refine (rcut_any _ s l HL.out hsz HS.out).mono ?_
            rintro e w1 ⟨rfl, hb1⟩
            have B1 := hide hb1
            clear hb1
            rw [HW.out]
            go_wp2_with fail
            refine (check_any _ (numL l) rfl SN.out _).mono ?_
            rintro e w2 ⟨rfl, hb2⟩
            have B2 := hide (B1.out.trans (hb2.mono B1.out.size))
            clear hb2
            rw [E0.out]
            go_wp2_with fail
            refine (check_any _ (denL l) rfl SD.out _).mono ?_
            rintro e w3 ⟨rfl, hb3⟩
            have B3 := hide (B2.out.trans (hb3.mono B2.out.size))
            clear hb3
            rw [F0.out]
            rw [HN.out, HD.out]
            go_wp2_with fail
            refine (compare_any _ _ _ d 1 ⟨rfl, T_one.symm, hdb, one_lt_big⟩).mono ?_
            rintro e w4 ⟨rfl, hb4⟩
            have B4 := hide (B3.out.trans (hb4.mono B3.out.size))
            clear hb4
            go_wp2_with fail
            refine (gcd_any _ _ _ n d ⟨rfl, rfl, hnb, hdb⟩ (std_next HS.out B4.out)).mono ?_
            rintro e w5 ⟨rfl, hb5⟩
            have B5 := hide (B4.out.trans (hb5.mono B4.out.size))
            clear hb5
            generalize (⟨(T (Int.gcd n d : Int)).toArray⟩ : ByteArray) = g at *
            by_cases h1 : 1 < d
            · have hsg : ¬ d ≤ 1 := by omega
              by_cases h2 : Int.gcd n d = 1
              · have hc : chkR l = 0 := by rw [HCC.out, if_pos ⟨h1, h2⟩]
                have HC := hide hc
                have hg1 : (g.toList == [49]) = true := by rw [HGT.out, h2, show ((1 : Nat) : Int) = 1 from rfl, T_one]; rfl
                have hg2 : (!(g.toList == [49])) = false := by rw [hg1]; rfl
                clear hc h1 h2
                go_wp2_with fail
                go_ret
                exact ⟨by rw [HC.out]; rfl, B5.out⟩
              · have hc : chkR l = 3 := by rw [HCC.out, if_neg (fun h => h2 h.2)]
                have HC := hide hc
                have hg1 : (g.toList == [49]) = false := by
                  rw [beq_eq_false_iff_ne, HGT.out, ← T_one]; intro e; have := T_inj e; omega
                have hg2 : (!(g.toList == [49])) = true := by rw [hg1]; rfl
                clear hc h1 h2
                go_wp2_with fail
                go_ret
                exact ⟨by rw [HC.out]; rfl, B5.out⟩
            · have hsg : d ≤ 1 := by omega
              have hc : chkR l = 3 := by rw [HCC.out, if_neg (fun h => h1 h.1)]
              have HC := hide hc
              clear hc h1
              go_wp2_with fail
              go_ret
              exact ⟨by rw [HC.out]; rfl, B5.out⟩
        · have f11 : chk (denL l) = 11 := by omega
          have hc : chkR l = 11 := by rw [chkR, if_neg (by omega), if_pos (.inr f0)]
          have HC := hide hc
          have E0 := hide e0
          have F11 := hide f11
          clear e3 f3 e0 f0 f11 he hf hc
          go_enter Tryz.func130, Tryz.ntmps130
          go_wp2_with fail
          refine (rcut_any _ s l HL.out hsz HS.out).mono ?_
          rintro e w1 ⟨rfl, hb1⟩
          have B1 := hide hb1
          clear hb1
          go_wp2_with fail
          refine (check_any _ (numL l) rfl SN.out _).mono ?_
          rintro e w2 ⟨rfl, hb2⟩
          have B2 := hide (B1.out.trans (hb2.mono B1.out.size))
          clear hb2
          rw [E0.out]
          go_wp2_with fail
          refine (check_any _ (denL l) rfl SD.out _).mono ?_
          rintro e w3 ⟨rfl, hb3⟩
          have B3 := hide (B2.out.trans (hb3.mono B2.out.size))
          clear hb3
          rw [F11.out]
          go_wp2_with fail
          go_ret
          exact ⟨by rw [HC.out]; rfl, B3.out⟩
      · have e11 : chk (numL l) = 11 := by omega
        have hc : chkR l = 11 := by rw [chkR, if_neg (by omega), if_pos (.inl e0)]
        have HC := hide hc
        have E11 := hide e11
        rcases (show chk (denL l) = 0 ∨ chk (denL l) = 11 by omega) with f0 | f11
        · have F0 := hide f0
          clear e3 f3 e0 f0 e11 he hf hc
          go_enter Tryz.func130, Tryz.ntmps130
          go_wp2_with fail
          refine (rcut_any _ s l HL.out hsz HS.out).mono ?_
          rintro e w1 ⟨rfl, hb1⟩
          have B1 := hide hb1
          clear hb1
          go_wp2_with fail
          refine (check_any _ (numL l) rfl SN.out _).mono ?_
          rintro e w2 ⟨rfl, hb2⟩
          have B2 := hide (B1.out.trans (hb2.mono B1.out.size))
          clear hb2
          rw [E11.out]
          go_wp2_with fail
          refine (check_any _ (denL l) rfl SD.out _).mono ?_
          rintro e w3 ⟨rfl, hb3⟩
          have B3 := hide (B2.out.trans (hb3.mono B2.out.size))
          clear hb3
          rw [F0.out]
          go_wp2_with fail
          go_ret
          exact ⟨by rw [HC.out]; rfl, B3.out⟩
        · have F11 := hide f11
          clear e3 f3 e0 f11 e11 he hf hc
          go_enter Tryz.func130, Tryz.ntmps130
          go_wp2_with fail
          refine (rcut_any _ s l HL.out hsz HS.out).mono ?_
          rintro e w1 ⟨rfl, hb1⟩
          have B1 := hide hb1
          clear hb1
          go_wp2_with fail
          refine (check_any _ (numL l) rfl SN.out _).mono ?_
          rintro e w2 ⟨rfl, hb2⟩
          have B2 := hide (B1.out.trans (hb2.mono B1.out.size))
          clear hb2
          rw [E11.out]
          go_wp2_with fail
          refine (check_any _ (denL l) rfl SD.out _).mono ?_
          rintro e w3 ⟨rfl, hb3⟩
          have B3 := hide (B2.out.trans (hb3.mono B2.out.size))
          clear hb3
          rw [F11.out]
          go_wp2_with fail
          go_ret
          exact ⟨by rw [HC.out]; rfl, B3.out⟩
end Go.Proofs.YtblfinpfcpglcaaGreatDoor
