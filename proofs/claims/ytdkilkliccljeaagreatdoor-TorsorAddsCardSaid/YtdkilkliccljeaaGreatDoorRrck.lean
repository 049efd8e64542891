/- metrolabref01.Order, metrolabref02.Check. -/
import Derived.Test.YtdkilkliccljeaaGreatDoorRarith
import Derived.Test.YtdkilkliccljeaaGreatDoorRchk
import Derived.Test.YtdkilkliccljeaaGreatDoorRcheck
namespace Go.Proofs.YtdkilkliccljeaaGreatDoor
open Go.RowKit MLab

set_option maxRecDepth 100000 in
set_option maxHeartbeats 1000000 in
theorem rorder_any (w : World) (a b : ByteArray) (x y : Int) (h : RTwo a b x y) (hb : b.size ≤ 799999) :
    Calls Tryz.prog 66 #[.string a, .string b] w fun e w' => e = .returned (.int .i64 (Int.sign (x - y))) ∧ Below w.heap.size w w' := by
  have HM := hide (rminus_int w a b x y h hb)
  obtain ⟨z, hz⟩ : ∃ z : Int, x - y = z := ⟨_, rfl⟩
  rw [hz] at HM ⊢
  clear h hb hz
  rcases Int.lt_trichotomy z 0 with hx | hx | hx
  · have hd := hide (decide_eq_true hx)
    rw [Int.sign_eq_neg_one_of_neg hx]
    have h0 := hide (show T z ≠ [48] from fun e => by have := T_inj (e.trans T_zero.symm); omega)
    clear hx
    go_enter Tryz.func66, Tryz.ntmps66
    go_wp2_with fail
    refine HM.out.mono ?_
    rintro e w1 ⟨rfl, hb1⟩
    have HB := hide hb1
    obtain ⟨t, ht⟩ : ∃ t : ByteArray, (⟨(T z).toArray⟩ : ByteArray) = t := ⟨_, rfl⟩
    have htd : t.data.toList = T z := by rw [← ht]
    have ht0 : (t.toList == [48]) = false := by rw [Lib.toList_data, htd, beq_eq_false_iff_ne]; exact h0.out
    rw [ht]
    have HTD := hide htd
    clear ht htd hb1
    go_wp2_with fail
    refine (rbelow_any _ t z HTD.out).mono ?_
    rw [hd.out]
    rintro e w2 ⟨rfl, rfl⟩
    go_wp2_with fail
    go_ret
    exact ⟨rfl, HB.out⟩
  · subst hx
    go_enter Tryz.func66, Tryz.ntmps66
    go_wp2_with fail
    refine HM.out.mono ?_
    rintro e w1 ⟨rfl, hb1⟩
    have HB := hide hb1
    obtain ⟨t, ht⟩ : ∃ t : ByteArray, (⟨(T 0).toArray⟩ : ByteArray) = t := ⟨_, rfl⟩
    have htd : t.data.toList = T 0 := by rw [← ht]
    have ht0 : (t.toList == [48]) = true := by rw [Lib.toList_data, htd, T_zero]; rfl
    rw [ht]
    clear ht htd hb1
    go_wp2_with fail
    go_ret
    exact ⟨rfl, HB.out⟩
  · have hd := hide (decide_eq_false (show ¬ z < 0 by omega))
    rw [Int.sign_eq_one_of_pos hx]
    have h0 := hide (show T z ≠ [48] from fun e => by have := T_inj (e.trans T_zero.symm); omega)
    clear hx
    go_enter Tryz.func66, Tryz.ntmps66
    go_wp2_with fail
    refine HM.out.mono ?_
    rintro e w1 ⟨rfl, hb1⟩
    have HB := hide hb1
    obtain ⟨t, ht⟩ : ∃ t : ByteArray, (⟨(T z).toArray⟩ : ByteArray) = t := ⟨_, rfl⟩
    have htd : t.data.toList = T z := by rw [← ht]
    have ht0 : (t.toList == [48]) = false := by rw [Lib.toList_data, htd, beq_eq_false_iff_ne]; exact h0.out
    rw [ht]
    have HTD := hide htd
    clear ht htd hb1
    go_wp2_with fail
    refine (rbelow_any _ t z HTD.out).mono ?_
    rw [hd.out]
    rintro e w2 ⟨rfl, rfl⟩
    go_wp2_with fail
    go_ret
    exact ⟨rfl, HB.out⟩

set_option maxRecDepth 100000 in
set_option maxHeartbeats 4000000 in
theorem rrcheck_any (w : World) (s : ByteArray) (l : List UInt8) (hl : s.data.toList = l) (hsz : s.size ≤ 200000) :
    Calls Tryz.prog 24 #[.string s] w fun e w' => e = .returned (.int .i64 (chkR l)) ∧ Below w.heap.size w w' := by
  have hlz : l.length ≤ 200000 := by rw [← hl, ← Lib.size_eq]; exact hsz
  have SPL := hide (rsplit_any w s l hl (by omega))
  have SLA := hide (fun W => rslash_any W s l hl (by omega))
  have zn := numL_len l
  have zd := denL_len l
  obtain ⟨n, hn⟩ : ∃ n : ByteArray, (⟨(numL l).toArray⟩ : ByteArray) = n := ⟨_, rfl⟩
  obtain ⟨d, hd⟩ : ∃ d : ByteArray, (⟨(denL l).toArray⟩ : ByteArray) = d := ⟨_, rfl⟩
  have hnd : n.data.toList = numL l := by rw [← hn]
  have hdd : d.data.toList = denL l := by rw [← hd]
  have zn2 : n.size ≤ 200001 := by rw [Lib.size_eq, hnd]; omega
  have zd2 : d.size ≤ 200001 := by rw [Lib.size_eq, hdd]; omega
  rw [hn, hd] at SPL
  have CN := hide (fun W => rchk_any W n (numL l) hnd (by omega))
  have CD := hide (fun W => rchk_any W d (denL l) hdd (by omega))
  have vn := chk_vals (numL l)
  have vd := chk_vals (denL l)
  clear hl hn hd zn zd
  by_cases e3 : chk (numL l) = 3
  · have HC := hide (show chkR l = 3 by rw [chkR, if_pos (.inl e3)])
    have EN := hide e3
    clear e3 vn vd hnd hdd
    go_enter Tryz.func24, Tryz.ntmps24
    go_wp2_with fail
    refine SPL.out.mono ?_
    rintro e w1 ⟨rfl, hb1⟩
    have HB := hide hb1
    clear hb1
    go_wp2_with fail
    refine (CN.out _).mono ?_
    rw [EN.out]
    rintro e v ⟨rfl, rfl⟩
    go_wp2_with fail
    go_ret
    exact ⟨by rw [HC.out]; rfl, HB.out⟩
  · by_cases f3 : chk (denL l) = 3
    · have HC := hide (show chkR l = 3 by rw [chkR, if_pos (.inr f3)])
      have ED := hide f3
      rcases vn with v0 | v3 | v11
      · have EN := hide v0
        clear v0 e3 f3 vd hnd hdd
        go_enter Tryz.func24, Tryz.ntmps24
        go_wp2_with fail
        refine SPL.out.mono ?_
        rintro e w1 ⟨rfl, hb1⟩
        have HB := hide hb1
        clear hb1
        go_wp2_with fail
        refine (CN.out _).mono ?_
        rw [EN.out]
        rintro e v ⟨rfl, rfl⟩
        go_wp2_with fail
        refine (CD.out _).mono ?_
        rw [ED.out]
        rintro e v ⟨rfl, rfl⟩
        go_wp2_with fail
        go_ret
        exact ⟨by rw [HC.out]; rfl, HB.out⟩
      · exact absurd v3 e3
      · have EN := hide v11
        clear v11 e3 f3 vd hnd hdd
        go_enter Tryz.func24, Tryz.ntmps24
        go_wp2_with fail
        refine SPL.out.mono ?_
        rintro e w1 ⟨rfl, hb1⟩
        have HB := hide hb1
        clear hb1
        go_wp2_with fail
        refine (CN.out _).mono ?_
        rw [EN.out]
        rintro e v ⟨rfl, rfl⟩
        go_wp2_with fail
        refine (CD.out _).mono ?_
        rw [ED.out]
        rintro e v ⟨rfl, rfl⟩
        go_wp2_with fail
        go_ret
        exact ⟨by rw [HC.out]; rfl, HB.out⟩
    · rcases vn with v0 | v3 | v11
      · rcases vd with u0 | u3 | u11
        · obtain ⟨x, hx, hxb⟩ := chk_zero v0
          obtain ⟨y, hy, hyb⟩ := chk_zero u0
          have hcc : chkR l = if wrB l = false then 0 else if 1 < y ∧ Int.gcd x y = 1 then 0 else 3 := by
            rw [chkR, if_neg (by omega), if_neg (by omega), ← hx, ← hy, atoi_T, atoi_T]; rfl
          have hnT : n.data.toList = T x := by rw [hnd, hx]
          have hdT : d.data.toList = T y := by rw [hdd, hy]
          have EN := hide v0
          have ED := hide u0
          by_cases hw : sl l < l.length
          · have hsl : slR l = (sl l : Int) := by rw [slR, if_pos hw]
            have hk0 : (0 : Int) ≤ (sl l : Int) := by omega
            rw [if_neg (by rw [wrB, decide_eq_true hw]; simp)] at hcc
            have HCC := hide hcc
            have HSL := hide hsl
            have TW := hide (show RTwo d ⟨#[49]⟩ y 1 from ⟨hdT, T_one.symm, by omega, by decide⟩)
            have TG := hide (show RTwo n d x y from ⟨hnT, hdT, by omega, by omega⟩)
            clear v0 u0 e3 f3 hcc hsl hw hx hy hnd hdd hnT hdT
            by_cases h1 : 1 < y
            · have hsg : Int.sign (y - 1) = 1 := Int.sign_eq_one_of_pos (by omega)
              have HSG := hide hsg
              clear hsg
              obtain ⟨g, hg⟩ : ∃ g : ByteArray, (⟨(T (Int.gcd x y : Int)).toArray⟩ : ByteArray) = g := ⟨_, rfl⟩
              have hgt : g.toList = T (Int.gcd x y : Int) := by rw [Lib.toList_data, ← hg]
              have HG := hide hg
              clear hg
              by_cases h2 : Int.gcd x y = 1
              · have HC := hide (show chkR l = 0 by rw [HCC.out, if_pos ⟨h1, h2⟩])
                have hg1 : (g.toList == [49]) = true := by rw [hgt, h2, show ((1 : Nat) : Int) = 1 from rfl, T_one]; rfl
                have hg2 : (g.toList != [49]) = false := by rw [bne, hg1]; rfl
                have hg3 : (!(g.toList == [49])) = false := by rw [hg1]; rfl
                clear h1 h2 hgt
                go_enter Tryz.func24, Tryz.ntmps24
                go_wp2_with fail
                refine SPL.out.mono ?_
                rintro e w1 ⟨rfl, hb1⟩
                have HB := hide hb1
                clear hb1
                go_wp2_with fail
                refine (CN.out _).mono ?_
                rw [EN.out]
                rintro e v ⟨rfl, rfl⟩
                go_wp2_with fail
                refine (CD.out _).mono ?_
                rw [ED.out]
                rintro e v ⟨rfl, rfl⟩
                go_wp2_with fail
                refine (CN.out _).mono ?_
                rw [EN.out]
                rintro e v ⟨rfl, rfl⟩
                go_wp2_with fail
                refine (CD.out _).mono ?_
                rw [ED.out]
                rintro e v ⟨rfl, rfl⟩
                go_wp2_with fail
                refine (SLA.out _).mono ?_
                rw [HSL.out]
                rintro e v ⟨rfl, rfl⟩
                go_wp2_with fail
                refine (rorder_any _ d ⟨#[49]⟩ y 1 TW.out (by decide)).mono ?_
                rw [HSG.out]
                rintro e w2 ⟨rfl, hb2⟩
                have HB2 := hide (HB.out.trans (hb2.mono HB.out.size))
                clear hb2
                go_wp2_with fail
                refine (rshared_any _ n d x y TG.out (by omega) (by omega)).mono ?_
                rw [HG.out]
                rintro e w3 ⟨rfl, hb3⟩
                have HB3 := hide (HB2.out.trans (hb3.mono HB2.out.size))
                clear hb3
                go_wp2_with fail
                go_ret
                exact ⟨by rw [HC.out]; rfl, HB3.out⟩
              · have HC := hide (show chkR l = 3 by rw [HCC.out, if_neg (fun h => h2 h.2)])
                have hne : g.toList ≠ [49] := by
                  rw [hgt]; intro h
                  have := T_inj (h.trans T_one.symm)
                  exact h2 (by omega)
                have hg1 : (g.toList == [49]) = false := by rw [beq_eq_false_iff_ne]; exact hne
                have hg2 : (g.toList != [49]) = true := by rw [bne, hg1]; rfl
                have hg3 : (!(g.toList == [49])) = true := by rw [hg1]; rfl
                clear h1 h2 hgt hne
                go_enter Tryz.func24, Tryz.ntmps24
                go_wp2_with fail
                refine SPL.out.mono ?_
                rintro e w1 ⟨rfl, hb1⟩
                have HB := hide hb1
                clear hb1
                go_wp2_with fail
                refine (CN.out _).mono ?_
                rw [EN.out]
                rintro e v ⟨rfl, rfl⟩
                go_wp2_with fail
                refine (CD.out _).mono ?_
                rw [ED.out]
                rintro e v ⟨rfl, rfl⟩
                go_wp2_with fail
                refine (CN.out _).mono ?_
                rw [EN.out]
                rintro e v ⟨rfl, rfl⟩
                go_wp2_with fail
                refine (CD.out _).mono ?_
                rw [ED.out]
                rintro e v ⟨rfl, rfl⟩
                go_wp2_with fail
                refine (SLA.out _).mono ?_
                rw [HSL.out]
                rintro e v ⟨rfl, rfl⟩
                go_wp2_with fail
                refine (rorder_any _ d ⟨#[49]⟩ y 1 TW.out (by decide)).mono ?_
                rw [HSG.out]
                rintro e w2 ⟨rfl, hb2⟩
                have HB2 := hide (HB.out.trans (hb2.mono HB.out.size))
                clear hb2
                go_wp2_with fail
                refine (rshared_any _ n d x y TG.out (by omega) (by omega)).mono ?_
                rw [HG.out]
                rintro e w3 ⟨rfl, hb3⟩
                have HB3 := hide (HB2.out.trans (hb3.mono HB2.out.size))
                clear hb3
                go_wp2_with fail
                go_ret
                exact ⟨by rw [HC.out]; rfl, HB3.out⟩
            · have hsg : Int.sign (y - 1) ≤ 0 := by
                rcases Int.lt_or_eq_of_le (show y - 1 ≤ 0 by omega) with h | h
                · rw [Int.sign_eq_neg_one_of_neg h]; omega
                · rw [h]; decide
              have HC := hide (show chkR l = 3 by rw [HCC.out, if_neg (fun h => h1 h.1)])
              obtain ⟨sg, hsg2⟩ : ∃ z : Int, Int.sign (y - 1) = z := ⟨_, rfl⟩
              rw [hsg2] at hsg
              have HSG := hide hsg2
              clear hsg2 h1
              go_enter Tryz.func24, Tryz.ntmps24
              go_wp2_with fail
              refine SPL.out.mono ?_
              rintro e w1 ⟨rfl, hb1⟩
              have HB := hide hb1
              clear hb1
              go_wp2_with fail
              refine (CN.out _).mono ?_
              rw [EN.out]
              rintro e v ⟨rfl, rfl⟩
              go_wp2_with fail
              refine (CD.out _).mono ?_
              rw [ED.out]
              rintro e v ⟨rfl, rfl⟩
              go_wp2_with fail
              refine (CN.out _).mono ?_
              rw [EN.out]
              rintro e v ⟨rfl, rfl⟩
              go_wp2_with fail
              refine (CD.out _).mono ?_
              rw [ED.out]
              rintro e v ⟨rfl, rfl⟩
              go_wp2_with fail
              refine (SLA.out _).mono ?_
              rw [HSL.out]
              rintro e v ⟨rfl, rfl⟩
              go_wp2_with fail
              refine (rorder_any _ d ⟨#[49]⟩ y 1 TW.out (by decide)).mono ?_
              rw [HSG.out]
              rintro e w2 ⟨rfl, hb2⟩
              have HB2 := hide (HB.out.trans (hb2.mono HB.out.size))
              clear hb2
              go_wp2_with fail
              go_ret
              exact ⟨by rw [HC.out]; rfl, HB2.out⟩
          · have HC := hide (show chkR l = 0 by rw [hcc, if_pos (by rw [wrB, decide_eq_false hw])])
            have HSL := hide (show slR l = -1 by rw [slR, if_neg hw])
            clear v0 u0 e3 f3 hcc hw hx hy hnd hdd hnT hdT
            go_enter Tryz.func24, Tryz.ntmps24
            go_wp2_with fail
            refine SPL.out.mono ?_
            rintro e w1 ⟨rfl, hb1⟩
            have HB := hide hb1
            clear hb1
            go_wp2_with fail
            refine (CN.out _).mono ?_
            rw [EN.out]
            rintro e v ⟨rfl, rfl⟩
            go_wp2_with fail
            refine (CD.out _).mono ?_
            rw [ED.out]
            rintro e v ⟨rfl, rfl⟩
            go_wp2_with fail
            refine (CN.out _).mono ?_
            rw [EN.out]
            rintro e v ⟨rfl, rfl⟩
            go_wp2_with fail
            refine (CD.out _).mono ?_
            rw [ED.out]
            rintro e v ⟨rfl, rfl⟩
            go_wp2_with fail
            refine (SLA.out _).mono ?_
            rw [HSL.out]
            rintro e v ⟨rfl, rfl⟩
            go_wp2_with fail
            go_ret
            exact ⟨by rw [HC.out]; rfl, HB.out⟩
        · exact absurd u3 f3
        · have HC := hide (show chkR l = 11 by rw [chkR, if_neg (by omega), if_pos (.inr (by omega))])
          have EN := hide v0
          have ED := hide u11
          clear v0 u11 e3 f3 hnd hdd
          go_enter Tryz.func24, Tryz.ntmps24
          go_wp2_with fail
          refine SPL.out.mono ?_
          rintro e w1 ⟨rfl, hb1⟩
          have HB := hide hb1
          clear hb1
          go_wp2_with fail
          refine (CN.out _).mono ?_
          rw [EN.out]
          rintro e v ⟨rfl, rfl⟩
          go_wp2_with fail
          refine (CD.out _).mono ?_
          rw [ED.out]
          rintro e v ⟨rfl, rfl⟩
          go_wp2_with fail
          refine (CN.out _).mono ?_
          rw [EN.out]
          rintro e v ⟨rfl, rfl⟩
          go_wp2_with fail
          refine (CD.out _).mono ?_
          rw [ED.out]
          rintro e v ⟨rfl, rfl⟩
          go_wp2_with fail
          go_ret
          exact ⟨by rw [HC.out]; rfl, HB.out⟩
      · exact absurd v3 e3
      · rcases vd with u0 | u3 | u11
        · have HC := hide (show chkR l = 11 by rw [chkR, if_neg (by omega), if_pos (.inl (by omega))])
          have EN := hide v11
          have ED := hide u0
          clear v11 u0 e3 f3 hnd hdd
          go_enter Tryz.func24, Tryz.ntmps24
          go_wp2_with fail
          refine SPL.out.mono ?_
          rintro e w1 ⟨rfl, hb1⟩
          have HB := hide hb1
          clear hb1
          go_wp2_with fail
          refine (CN.out _).mono ?_
          rw [EN.out]
          rintro e v ⟨rfl, rfl⟩
          go_wp2_with fail
          refine (CD.out _).mono ?_
          rw [ED.out]
          rintro e v ⟨rfl, rfl⟩
          go_wp2_with fail
          refine (CN.out _).mono ?_
          rw [EN.out]
          rintro e v ⟨rfl, rfl⟩
          go_wp2_with fail
          go_ret
          exact ⟨by rw [HC.out]; rfl, HB.out⟩
        · exact absurd u3 f3
        · have HC := hide (show chkR l = 11 by rw [chkR, if_neg (by omega), if_pos (.inl (by omega))])
          have EN := hide v11
          have ED := hide u11
          clear v11 u11 e3 f3 hnd hdd
          go_enter Tryz.func24, Tryz.ntmps24
          go_wp2_with fail
          refine SPL.out.mono ?_
          rintro e w1 ⟨rfl, hb1⟩
          have HB := hide hb1
          clear hb1
          go_wp2_with fail
          refine (CN.out _).mono ?_
          rw [EN.out]
          rintro e v ⟨rfl, rfl⟩
          go_wp2_with fail
          refine (CD.out _).mono ?_
          rw [ED.out]
          rintro e v ⟨rfl, rfl⟩
          go_wp2_with fail
          refine (CN.out _).mono ?_
          rw [EN.out]
          rintro e v ⟨rfl, rfl⟩
          go_wp2_with fail
          go_ret
          exact ⟨by rw [HC.out]; rfl, HB.out⟩
end Go.Proofs.YtdkilkliccljeaaGreatDoor
