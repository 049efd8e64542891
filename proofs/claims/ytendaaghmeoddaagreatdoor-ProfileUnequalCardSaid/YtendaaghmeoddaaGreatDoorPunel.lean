/- ProfileUnequal: the walk. -/
import Derived.Test.YtendaaghmeoddaaGreatDoorPsides
import Derived.Test.YtendaaghmeoddaaGreatDoorPune
namespace Go.Proofs.YtendaaghmeoddaaGreatDoor
open Go.RowKit MLab

theorem uneL_len (L P : List S2) (n m : Int) : (uneL L P n m).length ≤ P.length := by
  unfold uneL; split
  · unfold fl; exact Nat.le_trans (List.length_filter_le _ _) (by simp)
  · simp
set_option maxRecDepth 100000 in
set_option maxHeartbeats 4000000 in
theorem unequal_any (w : World) (v : Value) (L : List S2) (hv : Pts w v L) (vp : Value) (P : List S2) (hvp : Pts w vp P) (t0 t1 : Int) (hs : Std w) :
    Calls Tryz.prog 5 #[v, vp, .agg #[.int .i64 t0, .int .i64 t1]] w fun e w' => e = .returned (.bool true) ∧ Below w.heap.size w w' := by
  have HV := hide hv
  have HVP := hide hvp
  have HS := hide hs
  obtain ⟨A, c, rfl, _⟩ := id hv
  obtain ⟨A2, c2, rfl, _⟩ := id hvp
  clear hv hs hvp
  have HB := allocs_below w [.cells #[.int .i64 t0, .int .i64 t1] 47]
  have K_tb : Blk (allocs w [.cells #[.int .i64 t0, .int .i64 t1] 47]) (w.heap.size + 0) 47 #[.int .i64 t0, .int .i64 t1] := allocs_at w [.cells #[.int .i64 t0, .int .i64 t1] 47] 0 rfl
  unfold allocs at HB K_tb
  simp only [List.foldl_cons, List.foldl_nil] at HB K_tb
  rw [Nat.add_zero] at K_tb
  by_cases hf : L.length ≤ 8 ∨ 64 < L.length ∧ L.length < 128
  · by_cases hg : P.length ≤ 8 ∨ 64 < P.length ∧ P.length < 128
    · skip
      have hL : L.length ≤ 1000000000000 := by omega
      have hP : P.length ≤ 1000000000000 := by omega
      have hd := hide (decide_eq_true hf)
      have hdp := hide (decide_eq_true hg)
      clear hf hg
      go_enter Tryz.func5, Tryz.ntmps5
      go_upto_region 1 with (fail)
      generalize (w.alloc (.cells #[.int .i64 t0, .int .i64 t1] 47)) = w0 at *
      replace K_tb := hide K_tb
      replace HB := hide HB
      go_wp2_with fail
      refine (few37_any _ _ L (HV.out.below HB.out)).mono ?_
      rw [hd.out]
      rintro e w1 ⟨rfl, hb⟩
      replace K_tb := hide (Blk.below K_tb.out hb (Blk.lt K_tb.out))
      replace HB := hide (HB.out.trans (hb.mono HB.out.size))
      clear hb
      go_wp2_with fail
      refine (few37_any _ _ P (HVP.out.below HB.out)).mono ?_
      rw [hdp.out]
      rintro e w2 ⟨rfl, hb⟩
      replace K_tb := hide (Blk.below K_tb.out hb (Blk.lt K_tb.out))
      replace HB := hide (HB.out.trans (hb.mono HB.out.size))
      clear hb
      have tb0 := (Blk.cell K_tb.out 0).trans (rfl : _ = some (Value.int .i64 t0))
      have tb1 := (Blk.cell K_tb.out 1).trans (rfl : _ = some (Value.int .i64 t1))
      go_wp2_with fail
      refine (pune_any _ _ L _ P t0 t1 (HV.out.below HB.out) (HVP.out.below HB.out) hL hP (HS.out.below HB.out (Nat.le_refl _))).mono ?_
      rintro e w3 ⟨⟨u_IA, rfl, hin_IA⟩, hb⟩
      obtain ⟨A_IA, c_IA, rfl⟩ := hin_IA.shape
      have HIA := hide hin_IA
      clear hin_IA
      clear tb0 tb1
      replace K_tb := hide (Blk.below K_tb.out hb (Blk.lt K_tb.out))
      replace HB := hide (HB.out.trans (hb.mono HB.out.size))
      clear hb
      have tb0 := (Blk.cell K_tb.out 0).trans (rfl : _ = some (Value.int .i64 t0))
      have tb1 := (Blk.cell K_tb.out 1).trans (rfl : _ = some (Value.int .i64 t1))
      go_wp2_with fail
      refine (rpune_any _ _ L _ P t0 t1 (HV.out.below HB.out) (HVP.out.below HB.out) hL hP).mono ?_
      rintro e w4 ⟨⟨u_IB, rfl, hin_IB⟩, hb⟩
      obtain ⟨A_IB, c_IB, rfl⟩ := hin_IB.shape
      have HIB := hide hin_IB
      clear hin_IB
      clear tb0 tb1
      replace K_tb := hide (Blk.below K_tb.out hb (Blk.lt K_tb.out))
      replace HB := hide (HB.out.trans (hb.mono HB.out.size))
      replace HIA := hide (HIA.out.below hb)
      clear hb
      go_wp2_with fail
      refine (awake_any _ (HS.out.below HB.out (Nat.le_refl _))).mono ?_
      rintro e w5 ⟨rfl, hb⟩
      replace K_tb := hide (Blk.below K_tb.out hb (Blk.lt K_tb.out))
      replace HB := hide (HB.out.trans (hb.mono HB.out.size))
      replace HIA := hide (HIA.out.below hb)
      replace HIB := hide (HIB.out.below hb)
      clear hb
      go_wp2_with fail
      refine (sames_any _ _ _ _ (Nat.le_trans (uneL_len L P t0 t1) hP) HIA.out HIB.out).mono ?_
      rintro e w6 ⟨rfl, hb⟩
      replace K_tb := hide (Blk.below K_tb.out hb (Blk.lt K_tb.out))
      replace HB := hide (HB.out.trans (hb.mono HB.out.size))
      replace HIA := hide (HIA.out.below hb)
      replace HIB := hide (HIB.out.below hb)
      clear hb
      go_wp2_with fail
      go_ret
      exact ⟨rfl, HB.out⟩
    · skip
      have hd := hide (decide_eq_true hf)
      have hdp := hide (decide_eq_false hg)
      clear hf hg
      go_enter Tryz.func5, Tryz.ntmps5
      go_upto_region 1 with (fail)
      generalize (w.alloc (.cells #[.int .i64 t0, .int .i64 t1] 47)) = w0 at *
      replace K_tb := hide K_tb
      replace HB := hide HB
      go_wp2_with fail
      refine (few37_any _ _ L (HV.out.below HB.out)).mono ?_
      rw [hd.out]
      rintro e w1 ⟨rfl, hb⟩
      replace K_tb := hide (Blk.below K_tb.out hb (Blk.lt K_tb.out))
      replace HB := hide (HB.out.trans (hb.mono HB.out.size))
      clear hb
      go_wp2_with fail
      refine (few37_any _ _ P (HVP.out.below HB.out)).mono ?_
      rw [hdp.out]
      rintro e w2 ⟨rfl, hb⟩
      replace K_tb := hide (Blk.below K_tb.out hb (Blk.lt K_tb.out))
      replace HB := hide (HB.out.trans (hb.mono HB.out.size))
      clear hb
      go_wp2_with fail
      refine (awake_any _ (HS.out.below HB.out (Nat.le_refl _))).mono ?_
      rintro e w3 ⟨rfl, hb⟩
      replace K_tb := hide (Blk.below K_tb.out hb (Blk.lt K_tb.out))
      replace HB := hide (HB.out.trans (hb.mono HB.out.size))
      clear hb
      go_wp2_with fail
      go_ret
      exact ⟨rfl, HB.out⟩
  · skip
    have hd := hide (decide_eq_false hf)
    clear hf
    go_enter Tryz.func5, Tryz.ntmps5
    go_upto_region 1 with (fail)
    generalize (w.alloc (.cells #[.int .i64 t0, .int .i64 t1] 47)) = w0 at *
    replace K_tb := hide K_tb
    replace HB := hide HB
    go_wp2_with fail
    refine (few37_any _ _ L (HV.out.below HB.out)).mono ?_
    rw [hd.out]
    rintro e w1 ⟨rfl, hb⟩
    replace K_tb := hide (Blk.below K_tb.out hb (Blk.lt K_tb.out))
    replace HB := hide (HB.out.trans (hb.mono HB.out.size))
    clear hb
    go_wp2_with fail
    refine (awake_any _ (HS.out.below HB.out (Nat.le_refl _))).mono ?_
    rintro e w2 ⟨rfl, hb⟩
    replace K_tb := hide (Blk.below K_tb.out hb (Blk.lt K_tb.out))
    replace HB := hide (HB.out.trans (hb.mono HB.out.size))
    clear hb
    go_wp2_with fail
    go_ret
    exact ⟨rfl, HB.out⟩
end Go.Proofs.YtendaaghmeoddaaGreatDoor
