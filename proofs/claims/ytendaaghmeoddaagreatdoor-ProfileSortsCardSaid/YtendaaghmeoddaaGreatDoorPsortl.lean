/- ProfileSorts: the walk. -/
import Derived.Test.YtendaaghmeoddaaGreatDoorPsides
import Derived.Test.YtendaaghmeoddaaGreatDoorPwor
namespace Go.Proofs.YtendaaghmeoddaaGreatDoor
open Go.RowKit MLab

theorem outL_len (L : List S2) (c : Bool) (P : List S2) (n : Int) : (outL L c P n).length ≤ P.length := by
  unfold outL; split
  · unfold fl; exact Nat.le_trans (List.length_filter_le _ _) (by simp)
  · simp
set_option maxRecDepth 100000 in
set_option maxHeartbeats 4000000 in
theorem sorts37_any (w : World) (v : Value) (L : List S2) (c0 : Bool) (hv : Pts w v L) (vp : Value) (P : List S2) (hvp : Pts w vp P) (tol : Int) (hs : Std w) :
    Calls Tryz.prog 6 #[.agg #[v, .bool c0], vp, .int .i64 tol] w fun e w' => e = .returned (.bool true) ∧ Below w.heap.size w w' := by
  have HV := hide hv
  have HVP := hide hvp
  have HS := hide hs
  obtain ⟨A, c, rfl, _⟩ := id hv
  obtain ⟨A2, c2, rfl, _⟩ := id hvp
  clear hv hs hvp
  have HB := allocs_below w [.cells #[.slice A L.length c, .bool c0] 34]
  have K_x : Blk (allocs w [.cells #[.slice A L.length c, .bool c0] 34]) (w.heap.size + 0) 34 #[.slice A L.length c, .bool c0] := allocs_at w [.cells #[.slice A L.length c, .bool c0] 34] 0 rfl
  unfold allocs at HB K_x
  simp only [List.foldl_cons, List.foldl_nil] at HB K_x
  rw [Nat.add_zero] at K_x
  by_cases hf : L.length ≤ 8 ∨ 64 < L.length ∧ L.length < 128
  · by_cases hg : P.length ≤ 8 ∨ 64 < P.length ∧ P.length < 128
    · skip
      have hL : L.length ≤ 1000000000000 := by omega
      have hP : P.length ≤ 1000000000000 := by omega
      have hd := hide (decide_eq_true hf)
      have hdp := hide (decide_eq_true hg)
      clear hf hg
      go_enter Tryz.func6, Tryz.ntmps6
      go_upto_region 1 with (fail)
      generalize (w.alloc (.cells #[.slice A L.length c, .bool c0] 34)) = w0 at *
      replace K_x := hide K_x
      replace HB := hide HB
      have x0 := (Blk.cell K_x.out 0).trans (rfl : _ = some (Value.slice A L.length c))
      have x1 := (Blk.cell K_x.out 1).trans (rfl : _ = some (Value.bool c0))
      go_wp2_with fail
      refine (few37_any _ _ L (HV.out.below HB.out)).mono ?_
      rw [hd.out]
      rintro e w1 ⟨rfl, hb⟩
      clear x0 x1
      replace K_x := hide (Blk.below K_x.out hb (Blk.lt K_x.out))
      replace HB := hide (HB.out.trans (hb.mono HB.out.size))
      clear hb
      have x0 := (Blk.cell K_x.out 0).trans (rfl : _ = some (Value.slice A L.length c))
      have x1 := (Blk.cell K_x.out 1).trans (rfl : _ = some (Value.bool c0))
      go_wp2_with fail
      refine (few37_any _ _ P (HVP.out.below HB.out)).mono ?_
      rw [hdp.out]
      rintro e w2 ⟨rfl, hb⟩
      clear x0 x1
      replace K_x := hide (Blk.below K_x.out hb (Blk.lt K_x.out))
      replace HB := hide (HB.out.trans (hb.mono HB.out.size))
      clear hb
      have x0 := (Blk.cell K_x.out 0).trans (rfl : _ = some (Value.slice A L.length c))
      have x1 := (Blk.cell K_x.out 1).trans (rfl : _ = some (Value.bool c0))
      go_wp2_with fail
      refine (pout_any _ _ L c0 _ P tol (HV.out.below HB.out) (HVP.out.below HB.out) hL hP (HS.out.below HB.out (Nat.le_refl _))).mono ?_
      rintro e w3 ⟨⟨u_IA, rfl, hin_IA⟩, hb⟩
      obtain ⟨A_IA, c_IA, rfl⟩ := hin_IA.shape
      have HIA := hide hin_IA
      clear hin_IA
      clear x0 x1
      replace K_x := hide (Blk.below K_x.out hb (Blk.lt K_x.out))
      replace HB := hide (HB.out.trans (hb.mono HB.out.size))
      clear hb
      have x0 := (Blk.cell K_x.out 0).trans (rfl : _ = some (Value.slice A L.length c))
      have x1 := (Blk.cell K_x.out 1).trans (rfl : _ = some (Value.bool c0))
      go_wp2_with fail
      refine (rpout_any _ _ L c0 _ P tol (HV.out.below HB.out) (HVP.out.below HB.out) hL hP).mono ?_
      rintro e w4 ⟨⟨u_IB, rfl, hin_IB⟩, hb⟩
      obtain ⟨A_IB, c_IB, rfl⟩ := hin_IB.shape
      have HIB := hide hin_IB
      clear hin_IB
      clear x0 x1
      replace K_x := hide (Blk.below K_x.out hb (Blk.lt K_x.out))
      replace HB := hide (HB.out.trans (hb.mono HB.out.size))
      replace HIA := hide (HIA.out.below hb)
      clear hb
      obtain ⟨s, ii, ee, hne⟩ := worV_shape L c0 P
      have HE := hide hne
      clear hne
      have x0 := (Blk.cell K_x.out 0).trans (rfl : _ = some (Value.slice A L.length c))
      have x1 := (Blk.cell K_x.out 1).trans (rfl : _ = some (Value.bool c0))
      go_wp2_with fail
      refine (pwor_any _ _ L c0 _ P (HV.out.below HB.out) (HVP.out.below HB.out) hL hP (HS.out.below HB.out (Nat.le_refl _))).mono ?_
      rw [HE.out]
      rintro e w5 ⟨rfl, hb⟩
      clear x0 x1
      replace K_x := hide (Blk.below K_x.out hb (Blk.lt K_x.out))
      replace HB := hide (HB.out.trans (hb.mono HB.out.size))
      replace HIA := hide (HIA.out.below hb)
      replace HIB := hide (HIB.out.below hb)
      clear hb
      have x0 := (Blk.cell K_x.out 0).trans (rfl : _ = some (Value.slice A L.length c))
      have x1 := (Blk.cell K_x.out 1).trans (rfl : _ = some (Value.bool c0))
      go_wp2_with fail
      refine (rpwor_any _ _ L c0 _ P (HV.out.below HB.out) (HVP.out.below HB.out) hL hP).mono ?_
      rw [HE.out]
      rintro e w6 ⟨rfl, hb⟩
      clear x0 x1
      replace K_x := hide (Blk.below K_x.out hb (Blk.lt K_x.out))
      replace HB := hide (HB.out.trans (hb.mono HB.out.size))
      replace HIA := hide (HIA.out.below hb)
      replace HIB := hide (HIB.out.below hb)
      clear hb
      go_wp2_with fail
      refine (awake_any _ (HS.out.below HB.out (Nat.le_refl _))).mono ?_
      rintro e w7 ⟨rfl, hb⟩
      replace K_x := hide (Blk.below K_x.out hb (Blk.lt K_x.out))
      replace HB := hide (HB.out.trans (hb.mono HB.out.size))
      replace HIA := hide (HIA.out.below hb)
      replace HIB := hide (HIB.out.below hb)
      clear hb
      go_wp2_with fail
      refine (sames_any _ _ _ _ (Nat.le_trans (outL_len L c0 P tol) hP) HIA.out HIB.out).mono ?_
      rintro e w8 ⟨rfl, hb⟩
      replace K_x := hide (Blk.below K_x.out hb (Blk.lt K_x.out))
      replace HB := hide (HB.out.trans (hb.mono HB.out.size))
      replace HIA := hide (HIA.out.below hb)
      replace HIB := hide (HIB.out.below hb)
      clear hb
      go_wp2_with fail
      go_ret
      exact ⟨rfl, HB.out⟩
    · skip
      have hd := hide (decide_eq_true hf)
      have hdp := hide (decide_eq_false hg)
      clear hf hg
      go_enter Tryz.func6, Tryz.ntmps6
      go_upto_region 1 with (fail)
      generalize (w.alloc (.cells #[.slice A L.length c, .bool c0] 34)) = w0 at *
      replace K_x := hide K_x
      replace HB := hide HB
      have x0 := (Blk.cell K_x.out 0).trans (rfl : _ = some (Value.slice A L.length c))
      have x1 := (Blk.cell K_x.out 1).trans (rfl : _ = some (Value.bool c0))
      go_wp2_with fail
      refine (few37_any _ _ L (HV.out.below HB.out)).mono ?_
      rw [hd.out]
      rintro e w1 ⟨rfl, hb⟩
      clear x0 x1
      replace K_x := hide (Blk.below K_x.out hb (Blk.lt K_x.out))
      replace HB := hide (HB.out.trans (hb.mono HB.out.size))
      clear hb
      have x0 := (Blk.cell K_x.out 0).trans (rfl : _ = some (Value.slice A L.length c))
      have x1 := (Blk.cell K_x.out 1).trans (rfl : _ = some (Value.bool c0))
      go_wp2_with fail
      refine (few37_any _ _ P (HVP.out.below HB.out)).mono ?_
      rw [hdp.out]
      rintro e w2 ⟨rfl, hb⟩
      clear x0 x1
      replace K_x := hide (Blk.below K_x.out hb (Blk.lt K_x.out))
      replace HB := hide (HB.out.trans (hb.mono HB.out.size))
      clear hb
      go_wp2_with fail
      refine (awake_any _ (HS.out.below HB.out (Nat.le_refl _))).mono ?_
      rintro e w3 ⟨rfl, hb⟩
      replace K_x := hide (Blk.below K_x.out hb (Blk.lt K_x.out))
      replace HB := hide (HB.out.trans (hb.mono HB.out.size))
      clear hb
      go_wp2_with fail
      go_ret
      exact ⟨rfl, HB.out⟩
  · skip
    have hd := hide (decide_eq_false hf)
    clear hf
    go_enter Tryz.func6, Tryz.ntmps6
    go_upto_region 1 with (fail)
    generalize (w.alloc (.cells #[.slice A L.length c, .bool c0] 34)) = w0 at *
    replace K_x := hide K_x
    replace HB := hide HB
    have x0 := (Blk.cell K_x.out 0).trans (rfl : _ = some (Value.slice A L.length c))
    have x1 := (Blk.cell K_x.out 1).trans (rfl : _ = some (Value.bool c0))
    go_wp2_with fail
    refine (few37_any _ _ L (HV.out.below HB.out)).mono ?_
    rw [hd.out]
    rintro e w1 ⟨rfl, hb⟩
    clear x0 x1
    replace K_x := hide (Blk.below K_x.out hb (Blk.lt K_x.out))
    replace HB := hide (HB.out.trans (hb.mono HB.out.size))
    clear hb
    go_wp2_with fail
    refine (awake_any _ (HS.out.below HB.out (Nat.le_refl _))).mono ?_
    rintro e w2 ⟨rfl, hb⟩
    replace K_x := hide (Blk.below K_x.out hb (Blk.lt K_x.out))
    replace HB := hide (HB.out.trans (hb.mono HB.out.size))
    clear hb
    go_wp2_with fail
    go_ret
    exact ⟨rfl, HB.out⟩
end Go.Proofs.YtendaaghmeoddaaGreatDoor
