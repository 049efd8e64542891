/- ProfileSides: the walk. -/
import Derived.Test.YtendaaghmeoddaaGreatDoorPawake
namespace Go.Proofs.YtendaaghmeoddaaGreatDoor
open Go.RowKit MLab

set_option maxRecDepth 100000 in
set_option maxHeartbeats 1000000 in
theorem few37_any (w : World) (v : Value) (L : List S2) (hv : Pts w v L) :
    Calls Tryz.prog 11 #[v] w fun e w' => e = .returned (.bool (decide (L.length ≤ 8 ∨ 64 < L.length ∧ L.length < 128))) ∧ Below w.heap.size w w' := by
  have HC := hide (Few_any w v L hv)
  obtain ⟨A, c, rfl, _⟩ := id hv
  clear hv
  obtain ⟨R, hR⟩ : ∃ R, decide (L.length ≤ 8 ∨ 64 < L.length ∧ L.length < 128) = R := ⟨_, rfl⟩
  rw [hR] at HC ⊢
  clear hR
  go_enter Tryz.func11, Tryz.ntmps11
  go_wp2_with fail
  refine HC.out.mono ?_
  rintro e w1 ⟨rfl, rfl⟩
  go_wp2_with fail
  go_ret
  exact ⟨rfl, Below.refl _ _⟩

set_option maxRecDepth 100000 in
set_option maxHeartbeats 4000000 in
theorem sides_any (w : World) (v : Value) (L : List S2) (hv : Pts w v L) (px py : Int) (hs : Std w) :
    Calls Tryz.prog 3 #[v, .agg #[.int .i64 px, .int .i64 py]] w fun e w' => e = .returned (.bool true) ∧ Below w.heap.size w w' := by
  have HV := hide (hv.below (allocs_below w [.cells #[.int .i64 px, .int .i64 py] 24]))
  have hb0 := hide (allocs_below w [.cells #[.int .i64 px, .int .i64 py] 24])
  have K0 := hide (Blk.new w 24 #[.int .i64 px, .int .i64 py])
  have HS := hide hs
  obtain ⟨A, c, rfl, _⟩ := id hv
  clear hv hs
  by_cases hf : L.length ≤ 8 ∨ 64 < L.length ∧ L.length < 128
  · have hL : L.length ≤ 1000000000000 := by omega
    have hd := hide (decide_eq_true hf)
    obtain ⟨n, ee, hne⟩ := inV_shape L px py
    have HE := hide hne
    clear hf hne
    go_enter Tryz.func3, Tryz.ntmps3
    go_wp2_with fail
    refine (few37_any _ _ L HV.out).mono ?_
    rw [hd.out]
    rintro e w1 ⟨rfl, hb1⟩
    have HV1 := hide (HV.out.below hb1)
    have HB1 := hide (hb0.out.trans (hb1.mono hb0.out.size))
    have K1 := hide (Blk.below K0.out hb1 (Blk.lt K0.out))
    clear hb1
    have p0 := (Blk.cell K1.out 0).trans (rfl : _ = some (Value.int .i64 px))
    have p1 := (Blk.cell K1.out 1).trans (rfl : _ = some (Value.int .i64 py))
    go_wp2_with fail
    refine (pin_any _ _ L px py HV1.out hL (HS.out.below HB1.out (Nat.le_refl _))).mono ?_
    rw [HE.out]
    rintro e w2 ⟨rfl, hb2⟩
    have HV2 := hide (HV1.out.below hb2)
    have HB2 := hide (HB1.out.trans (hb2.mono HB1.out.size))
    have K2 := hide (Blk.below K1.out hb2 (Blk.lt K1.out))
    clear hb2 p0 p1
    have p0 := (Blk.cell K2.out 0).trans (rfl : _ = some (Value.int .i64 px))
    have p1 := (Blk.cell K2.out 1).trans (rfl : _ = some (Value.int .i64 py))
    go_wp2_with fail
    refine (rpin_any _ _ L px py HV2.out hL).mono ?_
    rw [HE.out]
    rintro e w3 ⟨rfl, hb3⟩
    have HB3 := hide (HB2.out.trans (hb3.mono HB2.out.size))
    clear hb3 p0 p1
    go_wp2_with fail
    refine (awake_any _ (HS.out.below HB3.out (Nat.le_refl _))).mono ?_
    rintro e w4 ⟨rfl, hb4⟩
    have HB4 := hide (HB3.out.trans (hb4.mono HB3.out.size))
    clear hb4
    go_wp2_with fail
    go_ret
    exact ⟨rfl, HB4.out⟩
  · have hd := hide (decide_eq_false hf)
    clear hf
    go_enter Tryz.func3, Tryz.ntmps3
    go_wp2_with fail
    refine (few37_any _ _ L HV.out).mono ?_
    rw [hd.out]
    rintro e w1 ⟨rfl, hb1⟩
    have HB1 := hide (hb0.out.trans (hb1.mono hb0.out.size))
    clear hb1
    go_wp2_with fail
    refine (awake_any _ (HS.out.below HB1.out (Nat.le_refl _))).mono ?_
    rintro e w2 ⟨rfl, hb2⟩
    have HB2 := hide (HB1.out.trans (hb2.mono HB1.out.size))
    clear hb2
    go_wp2_with fail
    go_ret
    exact ⟨rfl, HB2.out⟩
end Go.Proofs.YtendaaghmeoddaaGreatDoor
