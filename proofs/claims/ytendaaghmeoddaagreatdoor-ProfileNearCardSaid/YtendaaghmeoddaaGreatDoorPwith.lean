/- profile.Within and metrolabref37.Within. -/
import Derived.Test.YtendaaghmeoddaaGreatDoorPout
namespace Go.Proofs.YtendaaghmeoddaaGreatDoor
open Go.RowKit MLab

def wiE (L : List S2) (c : Bool) (px py n : Int) : Int := if chkP L c = 0 then (if (Co px ∧ Co py) ∧ Tl n then 0 else 2) else chkP L c
def wiB (L : List S2) (c : Bool) (px py n : Int) : Bool := if wiE L c px py n = 0 then !farQ (4 * dN L c (px, py)) n else false

set_option maxRecDepth 100000 in
set_option maxHeartbeats 4000000 in
theorem pwit_bad (w : World) (v : Value) (L : List S2) (c0 : Bool) (px py n : Int) (hv : Pts w v L) (hL : L.length ≤ 1000000000000) (_hs : Std w) (k : Int) (hk : k ≠ 0) (he : chkP L c0 = k) :
    Calls Tryz.prog 17 #[v, .bool c0, .agg #[.int .i64 px, .int .i64 py], .int .i64 n] w fun e w' => e = .returned (.tuple #[.bool false, .int .i64 k]) ∧ Below w.heap.size w w' := by
  have HV := hide (hv.below (allocs_below w [.cells #[.int .i64 px, .int .i64 py] 24]))
  have hb0 := hide (allocs_below w [.cells #[.int .i64 px, .int .i64 py] 24])
  have K0 := hide (Blk.new w 24 #[.int .i64 px, .int .i64 py])
  obtain ⟨A, c, rfl, _⟩ := id hv
  have HE := hide he
  have hk0 : ¬ k = 0 := hk
  clear hv he hk _hs
  go_enter Tryz.func17, Tryz.ntmps17
  go_wp2_with fail
  refine (pcheck_any _ _ L c0 HV.out hL).mono ?_
  rw [HE.out]
  rintro e w2 ⟨rfl, hb2⟩
  have KP := hide (Blk.below K0.out hb2 (Blk.lt K0.out))
  have HV2 := hide (HV.out.below hb2)
  have HB2 := hide (hb0.out.trans (Below.mono hb2 hb0.out.size))
  clear hb2
  go_wp2_with fail
  go_ret2
  exact ⟨rfl, HB2.out⟩

set_option maxRecDepth 100000 in
set_option maxHeartbeats 4000000 in
theorem pwit_far (w : World) (v : Value) (L : List S2) (c0 : Bool) (px py n : Int) (hv : Pts w v L) (hL : L.length ≤ 1000000000000) (_hs : Std w) (he : chkP L c0 = 0) (hd : ¬ (Co px ∧ Co py)) :
    Calls Tryz.prog 17 #[v, .bool c0, .agg #[.int .i64 px, .int .i64 py], .int .i64 n] w fun e w' => e = .returned (.tuple #[.bool false, .int .i64 2]) ∧ Below w.heap.size w w' := by
  have HV := hide (hv.below (allocs_below w [.cells #[.int .i64 px, .int .i64 py] 24]))
  have hb0 := hide (allocs_below w [.cells #[.int .i64 px, .int .i64 py] 24])
  have K0 := hide (Blk.new w 24 #[.int .i64 px, .int .i64 py])
  obtain ⟨A, c, rfl, _⟩ := id hv
  have HE := hide he
  have HD := hide ((chk_one px py).trans (if_neg hd))
  clear hv he hd _hs
  go_enter Tryz.func17, Tryz.ntmps17
  go_wp2_with fail
  refine (pcheck_any _ _ L c0 HV.out hL).mono ?_
  rw [HE.out]
  rintro e w2 ⟨rfl, hb2⟩
  have KP := hide (Blk.below K0.out hb2 (Blk.lt K0.out))
  have HV2 := hide (HV.out.below hb2)
  have HB2 := hide (hb0.out.trans (Below.mono hb2 hb0.out.size))
  clear hb2
  have p0 := (Blk.cell KP.out 0).trans (rfl : _ = some (Value.int .i64 px))
  have p1 := (Blk.cell KP.out 1).trans (rfl : _ = some (Value.int .i64 py))
  go_wp2_with fail
  refine (Check_any _ _ [(px, py)] (pts_one _ _ px py _) (by simp)).mono ?_
  rw [HD.out]
  rintro e w3 ⟨rfl, hb3⟩
  have hA3 := (allocs_below w2 [.cells #[.int .i64 px, .int .i64 py] 24]).trans (hb3.mono (by simp))
  have HV3 := hide (HV2.out.below hA3)
  have HB3 := hide (HB2.out.trans (Below.mono hA3 HB2.out.size))
  have KP3 := hide (Blk.below KP.out hA3 (Blk.lt KP.out))
  clear hb3 hA3 p0 p1 KP
  go_wp2_with fail
  go_ret2
  exact ⟨rfl, HB3.out⟩

set_option maxRecDepth 100000 in
set_option maxHeartbeats 4000000 in
theorem pwit_tol (w : World) (v : Value) (L : List S2) (c0 : Bool) (px py n : Int) (hv : Pts w v L) (hL : L.length ≤ 1000000000000) (hs : Std w) (he : chkP L c0 = 0) (hd : Co px ∧ Co py) (ht : ¬ Tl n) :
    Calls Tryz.prog 17 #[v, .bool c0, .agg #[.int .i64 px, .int .i64 py], .int .i64 n] w fun e w' => e = .returned (.tuple #[.bool false, .int .i64 2]) ∧ Below w.heap.size w w' := by
  have hck := (chk_one px py).trans (if_pos hd)
  have hoe : outE L c0 [(px, py)] n = 2 := by unfold outE; rw [if_pos he, if_pos hck, if_neg ht]
  have hol : outL L c0 [(px, py)] n = [] := by unfold outL; rw [if_neg (by rw [hoe]; decide)]
  have HV := hide (hv.below (allocs_below w [.cells #[.int .i64 px, .int .i64 py] 24]))
  have hb0 := hide (allocs_below w [.cells #[.int .i64 px, .int .i64 py] 24])
  have K0 := hide (Blk.new w 24 #[.int .i64 px, .int .i64 py])
  have HS := hide hs
  obtain ⟨A, c, rfl, _⟩ := id hv
  have HE := hide he
  have HD := hide hck
  have HOE := hide hoe
  have HOL := hide hol
  clear hv he hd hck hs hoe hol
  go_enter Tryz.func17, Tryz.ntmps17
  go_wp2_with fail
  refine (pcheck_any _ _ L c0 HV.out hL).mono ?_
  rw [HE.out]
  rintro e w2 ⟨rfl, hb2⟩
  have KP := hide (Blk.below K0.out hb2 (Blk.lt K0.out))
  have HV2 := hide (HV.out.below hb2)
  have HB2 := hide (hb0.out.trans (Below.mono hb2 hb0.out.size))
  clear hb2
  have p0 := (Blk.cell KP.out 0).trans (rfl : _ = some (Value.int .i64 px))
  have p1 := (Blk.cell KP.out 1).trans (rfl : _ = some (Value.int .i64 py))
  go_wp2_with fail
  refine (Check_any _ _ [(px, py)] (pts_one _ _ px py _) (by simp)).mono ?_
  rw [HD.out]
  rintro e w3 ⟨rfl, hb3⟩
  have hA3 := (allocs_below w2 [.cells #[.int .i64 px, .int .i64 py] 24]).trans (hb3.mono (by simp))
  have HV3 := hide (HV2.out.below hA3)
  have HB3 := hide (HB2.out.trans (Below.mono hA3 HB2.out.size))
  have KP3 := hide (Blk.below KP.out hA3 (Blk.lt KP.out))
  clear hb3 hA3 p0 p1 KP
  have p0 := (Blk.cell KP3.out 0).trans (rfl : _ = some (Value.int .i64 px))
  have p1 := (Blk.cell KP3.out 1).trans (rfl : _ = some (Value.int .i64 py))
  have hA := allocs_below w3 [.cells #[.int .i64 px, .int .i64 py] 24]
  have HA := hide (HB3.out.trans (hA.mono HB3.out.size))
  have HC := hide (pout_any (w3.alloc (.cells #[.int .i64 px, .int .i64 py] 24)) (.slice A L.length c) L c0 (.slice (some ⟨w3.heap.size, 0, none⟩) 1 1) [(px, py)] n (HV3.out.below hA) (pts_one w3 24 px py 1) hL (by simp) (HS.out.below HA.out (Nat.le_refl _)))
  clear hA
  go_wp2_with fail
  refine HC.out.mono ?_
  rw [HOE.out, HOL.out]
  rintro e w4 ⟨⟨u, rfl, hin⟩, hb4⟩
  obtain ⟨A3, c3, rfl⟩ := hin.shape
  have HB4 := hide (HA.out.trans (hb4.mono HA.out.size))
  clear hin hb4 HC p0 p1
  go_wp2_with fail
  go_ret2
  exact ⟨rfl, HB4.out⟩

set_option maxRecDepth 100000 in
set_option maxHeartbeats 4000000 in
theorem pwit_yes (w : World) (v : Value) (L : List S2) (c0 : Bool) (px py n : Int) (hv : Pts w v L) (hL : L.length ≤ 1000000000000) (hs : Std w) (he : chkP L c0 = 0) (hd : Co px ∧ Co py) (ht : Tl n) (hq : farQ (4 * dN L c0 (px, py)) n = false) :
    Calls Tryz.prog 17 #[v, .bool c0, .agg #[.int .i64 px, .int .i64 py], .int .i64 n] w fun e w' => e = .returned (.tuple #[.bool true, .int .i64 0]) ∧ Below w.heap.size w w' := by
  have hck := (chk_one px py).trans (if_pos hd)
  have hoe : outE L c0 [(px, py)] n = 0 := by unfold outE; rw [if_pos he, if_pos hck, if_pos ht]
  have hol : outL L c0 [(px, py)] n = [] := by
    unfold outL; rw [if_pos hoe]
    show fl (outF L c0 [(px, py)] n) (0 + 1) = []
    rw [fl_succ, show outF L c0 [(px, py)] n 0 = false from hq]; rfl
  have HV := hide (hv.below (allocs_below w [.cells #[.int .i64 px, .int .i64 py] 24]))
  have hb0 := hide (allocs_below w [.cells #[.int .i64 px, .int .i64 py] 24])
  have K0 := hide (Blk.new w 24 #[.int .i64 px, .int .i64 py])
  have HS := hide hs
  obtain ⟨A, c, rfl, _⟩ := id hv
  have HE := hide he
  have HD := hide hck
  have HOE := hide hoe
  have HOL := hide hol
  clear hv he hd hck hs hoe hol
  go_enter Tryz.func17, Tryz.ntmps17
  go_wp2_with fail
  refine (pcheck_any _ _ L c0 HV.out hL).mono ?_
  rw [HE.out]
  rintro e w2 ⟨rfl, hb2⟩
  have KP := hide (Blk.below K0.out hb2 (Blk.lt K0.out))
  have HV2 := hide (HV.out.below hb2)
  have HB2 := hide (hb0.out.trans (Below.mono hb2 hb0.out.size))
  clear hb2
  have p0 := (Blk.cell KP.out 0).trans (rfl : _ = some (Value.int .i64 px))
  have p1 := (Blk.cell KP.out 1).trans (rfl : _ = some (Value.int .i64 py))
  go_wp2_with fail
  refine (Check_any _ _ [(px, py)] (pts_one _ _ px py _) (by simp)).mono ?_
  rw [HD.out]
  rintro e w3 ⟨rfl, hb3⟩
  have hA3 := (allocs_below w2 [.cells #[.int .i64 px, .int .i64 py] 24]).trans (hb3.mono (by simp))
  have HV3 := hide (HV2.out.below hA3)
  have HB3 := hide (HB2.out.trans (Below.mono hA3 HB2.out.size))
  have KP3 := hide (Blk.below KP.out hA3 (Blk.lt KP.out))
  clear hb3 hA3 p0 p1 KP
  have p0 := (Blk.cell KP3.out 0).trans (rfl : _ = some (Value.int .i64 px))
  have p1 := (Blk.cell KP3.out 1).trans (rfl : _ = some (Value.int .i64 py))
  have hA := allocs_below w3 [.cells #[.int .i64 px, .int .i64 py] 24]
  have HA := hide (HB3.out.trans (hA.mono HB3.out.size))
  have HC := hide (pout_any (w3.alloc (.cells #[.int .i64 px, .int .i64 py] 24)) (.slice A L.length c) L c0 (.slice (some ⟨w3.heap.size, 0, none⟩) 1 1) [(px, py)] n (HV3.out.below hA) (pts_one w3 24 px py 1) hL (by simp) (HS.out.below HA.out (Nat.le_refl _)))
  clear hA
  go_wp2_with fail
  refine HC.out.mono ?_
  rw [HOE.out, HOL.out]
  rintro e w4 ⟨⟨u, rfl, hin⟩, hb4⟩
  obtain ⟨A3, c3, rfl⟩ := hin.shape
  have HB4 := hide (HA.out.trans (hb4.mono HA.out.size))
  clear hin hb4 HC p0 p1
  go_wp2_with fail
  go_ret2
  exact ⟨rfl, HB4.out⟩

set_option maxRecDepth 100000 in
set_option maxHeartbeats 4000000 in
theorem pwit_no (w : World) (v : Value) (L : List S2) (c0 : Bool) (px py n : Int) (hv : Pts w v L) (hL : L.length ≤ 1000000000000) (hs : Std w) (he : chkP L c0 = 0) (hd : Co px ∧ Co py) (ht : Tl n) (hq : farQ (4 * dN L c0 (px, py)) n = true) :
    Calls Tryz.prog 17 #[v, .bool c0, .agg #[.int .i64 px, .int .i64 py], .int .i64 n] w fun e w' => e = .returned (.tuple #[.bool false, .int .i64 0]) ∧ Below w.heap.size w w' := by
  have hck := (chk_one px py).trans (if_pos hd)
  have hoe : outE L c0 [(px, py)] n = 0 := by unfold outE; rw [if_pos he, if_pos hck, if_pos ht]
  have hol : outL L c0 [(px, py)] n = [0] := by
    unfold outL; rw [if_pos hoe]
    show fl (outF L c0 [(px, py)] n) (0 + 1) = [0]
    rw [fl_succ, show outF L c0 [(px, py)] n 0 = true from hq]; rfl
  have HV := hide (hv.below (allocs_below w [.cells #[.int .i64 px, .int .i64 py] 24]))
  have hb0 := hide (allocs_below w [.cells #[.int .i64 px, .int .i64 py] 24])
  have K0 := hide (Blk.new w 24 #[.int .i64 px, .int .i64 py])
  have HS := hide hs
  obtain ⟨A, c, rfl, _⟩ := id hv
  have HE := hide he
  have HD := hide hck
  have HOE := hide hoe
  have HOL := hide hol
  clear hv he hd hck hs hoe hol
  go_enter Tryz.func17, Tryz.ntmps17
  go_wp2_with fail
  refine (pcheck_any _ _ L c0 HV.out hL).mono ?_
  rw [HE.out]
  rintro e w2 ⟨rfl, hb2⟩
  have KP := hide (Blk.below K0.out hb2 (Blk.lt K0.out))
  have HV2 := hide (HV.out.below hb2)
  have HB2 := hide (hb0.out.trans (Below.mono hb2 hb0.out.size))
  clear hb2
  have p0 := (Blk.cell KP.out 0).trans (rfl : _ = some (Value.int .i64 px))
  have p1 := (Blk.cell KP.out 1).trans (rfl : _ = some (Value.int .i64 py))
  go_wp2_with fail
  refine (Check_any _ _ [(px, py)] (pts_one _ _ px py _) (by simp)).mono ?_
  rw [HD.out]
  rintro e w3 ⟨rfl, hb3⟩
  have hA3 := (allocs_below w2 [.cells #[.int .i64 px, .int .i64 py] 24]).trans (hb3.mono (by simp))
  have HV3 := hide (HV2.out.below hA3)
  have HB3 := hide (HB2.out.trans (Below.mono hA3 HB2.out.size))
  have KP3 := hide (Blk.below KP.out hA3 (Blk.lt KP.out))
  clear hb3 hA3 p0 p1 KP
  have p0 := (Blk.cell KP3.out 0).trans (rfl : _ = some (Value.int .i64 px))
  have p1 := (Blk.cell KP3.out 1).trans (rfl : _ = some (Value.int .i64 py))
  have hA := allocs_below w3 [.cells #[.int .i64 px, .int .i64 py] 24]
  have HA := hide (HB3.out.trans (hA.mono HB3.out.size))
  have HC := hide (pout_any (w3.alloc (.cells #[.int .i64 px, .int .i64 py] 24)) (.slice A L.length c) L c0 (.slice (some ⟨w3.heap.size, 0, none⟩) 1 1) [(px, py)] n (HV3.out.below hA) (pts_one w3 24 px py 1) hL (by simp) (HS.out.below HA.out (Nat.le_refl _)))
  clear hA
  go_wp2_with fail
  refine HC.out.mono ?_
  rw [HOE.out, HOL.out]
  rintro e w4 ⟨⟨u, rfl, hin⟩, hb4⟩
  obtain ⟨A3, c3, rfl⟩ := hin.shape
  have HB4 := hide (HA.out.trans (hb4.mono HA.out.size))
  clear hin hb4 HC p0 p1
  go_wp2_with fail
  go_ret2
  exact ⟨rfl, HB4.out⟩

set_option maxRecDepth 100000 in
set_option maxHeartbeats 4000000 in
theorem rpwit_bad (w : World) (v : Value) (L : List S2) (c0 : Bool) (px py n : Int) (hv : Pts w v L) (hL : L.length ≤ 1000000000000) (k : Int) (hk : k ≠ 0) (he : chkP L c0 = k) :
    Calls Tryz.prog 18 #[v, .bool c0, .agg #[.int .i64 px, .int .i64 py], .int .i64 n] w fun e w' => e = .returned (.tuple #[.bool false, .int .i64 k]) ∧ Below w.heap.size w w' := by
  have HV := hide (hv.below (allocs_below w [.cells #[.int .i64 px, .int .i64 py] 24]))
  have hb0 := hide (allocs_below w [.cells #[.int .i64 px, .int .i64 py] 24])
  have K0 := hide (Blk.new w 24 #[.int .i64 px, .int .i64 py])
  obtain ⟨A, c, rfl, _⟩ := id hv
  have HE := hide he
  have hk0 : ¬ k = 0 := hk
  clear hv he hk
  go_enter Tryz.func18, Tryz.ntmps18
  go_wp2_with fail
  refine (rpcheck_any _ _ L c0 HV.out hL).mono ?_
  rw [HE.out]
  rintro e w2 ⟨rfl, hb2⟩
  have KP := hide (Blk.below K0.out hb2 (Blk.lt K0.out))
  have HV2 := hide (HV.out.below hb2)
  have HB2 := hide (hb0.out.trans (Below.mono hb2 hb0.out.size))
  clear hb2
  go_wp2_with fail
  go_ret2
  exact ⟨rfl, HB2.out⟩

set_option maxRecDepth 100000 in
set_option maxHeartbeats 4000000 in
theorem rpwit_far (w : World) (v : Value) (L : List S2) (c0 : Bool) (px py n : Int) (hv : Pts w v L) (hL : L.length ≤ 1000000000000) (he : chkP L c0 = 0) (hd : ¬ (Co px ∧ Co py)) :
    Calls Tryz.prog 18 #[v, .bool c0, .agg #[.int .i64 px, .int .i64 py], .int .i64 n] w fun e w' => e = .returned (.tuple #[.bool false, .int .i64 2]) ∧ Below w.heap.size w w' := by
  have HV := hide (hv.below (allocs_below w [.cells #[.int .i64 px, .int .i64 py] 24]))
  have hb0 := hide (allocs_below w [.cells #[.int .i64 px, .int .i64 py] 24])
  have K0 := hide (Blk.new w 24 #[.int .i64 px, .int .i64 py])
  obtain ⟨A, c, rfl, _⟩ := id hv
  have HE := hide he
  have HD := hide (decide_eq_false hd)
  clear hv he hd
  go_enter Tryz.func18, Tryz.ntmps18
  go_wp2_with fail
  refine (rpcheck_any _ _ L c0 HV.out hL).mono ?_
  rw [HE.out]
  rintro e w2 ⟨rfl, hb2⟩
  have KP := hide (Blk.below K0.out hb2 (Blk.lt K0.out))
  have HV2 := hide (HV.out.below hb2)
  have HB2 := hide (hb0.out.trans (Below.mono hb2 hb0.out.size))
  clear hb2
  have p0 := (Blk.cell KP.out 0).trans (rfl : _ = some (Value.int .i64 px))
  have p1 := (Blk.cell KP.out 1).trans (rfl : _ = some (Value.int .i64 py))
  go_wp2_with fail
  refine (rright_any _ px py).mono ?_
  rw [HD.out]
  rintro e w3 ⟨rfl, hb3⟩
  have KP3 := hide (Blk.below KP.out hb3 (Blk.lt KP.out))
  have HV3 := hide (HV2.out.below hb3)
  have HB3 := hide (HB2.out.trans (Below.mono hb3 HB2.out.size))
  clear hb3 p0 p1
  have p0 := (Blk.cell KP3.out 0).trans (rfl : _ = some (Value.int .i64 px))
  have p1 := (Blk.cell KP3.out 1).trans (rfl : _ = some (Value.int .i64 py))
  go_wp2_with fail
  go_ret2
  exact ⟨rfl, HB3.out⟩

set_option maxRecDepth 100000 in
set_option maxHeartbeats 4000000 in
theorem rpwit_tol (w : World) (v : Value) (L : List S2) (c0 : Bool) (px py n : Int) (hv : Pts w v L) (hL : L.length ≤ 1000000000000) (he : chkP L c0 = 0) (hd : Co px ∧ Co py) (ht : ¬ Tl n) :
    Calls Tryz.prog 18 #[v, .bool c0, .agg #[.int .i64 px, .int .i64 py], .int .i64 n] w fun e w' => e = .returned (.tuple #[.bool false, .int .i64 2]) ∧ Below w.heap.size w w' := by
  have HV := hide (hv.below (allocs_below w [.cells #[.int .i64 px, .int .i64 py] 24]))
  have hb0 := hide (allocs_below w [.cells #[.int .i64 px, .int .i64 py] 24])
  have K0 := hide (Blk.new w 24 #[.int .i64 px, .int .i64 py])
  obtain ⟨A, c, rfl, _⟩ := id hv
  have HE := hide he
  have HD := hide (decide_eq_true hd)
  have HT := hide (decide_eq_false ht)
  clear hv he hd ht
  go_enter Tryz.func18, Tryz.ntmps18
  go_wp2_with fail
  refine (rpcheck_any _ _ L c0 HV.out hL).mono ?_
  rw [HE.out]
  rintro e w2 ⟨rfl, hb2⟩
  have KP := hide (Blk.below K0.out hb2 (Blk.lt K0.out))
  have HV2 := hide (HV.out.below hb2)
  have HB2 := hide (hb0.out.trans (Below.mono hb2 hb0.out.size))
  clear hb2
  have p0 := (Blk.cell KP.out 0).trans (rfl : _ = some (Value.int .i64 px))
  have p1 := (Blk.cell KP.out 1).trans (rfl : _ = some (Value.int .i64 py))
  go_wp2_with fail
  refine (rright_any _ px py).mono ?_
  rw [HD.out]
  rintro e w3 ⟨rfl, hb3⟩
  have KP3 := hide (Blk.below KP.out hb3 (Blk.lt KP.out))
  have HV3 := hide (HV2.out.below hb3)
  have HB3 := hide (HB2.out.trans (Below.mono hb3 HB2.out.size))
  clear hb3 p0 p1
  have p0 := (Blk.cell KP3.out 0).trans (rfl : _ = some (Value.int .i64 px))
  have p1 := (Blk.cell KP3.out 1).trans (rfl : _ = some (Value.int .i64 py))
  go_wp2_with fail
  refine (rptol_any _ n).mono ?_
  rw [HT.out]
  rintro e w4 ⟨rfl, rfl⟩
  go_wp2_with fail
  go_ret2
  exact ⟨rfl, HB3.out⟩

set_option maxRecDepth 100000 in
set_option maxHeartbeats 4000000 in
theorem rpwit_ok (w : World) (v : Value) (L : List S2) (c0 : Bool) (px py n : Int) (hv : Pts w v L) (hL : L.length ≤ 1000000000000) (he : chkP L c0 = 0) (hd : Co px ∧ Co py) (ht : Tl n) :
    Calls Tryz.prog 18 #[v, .bool c0, .agg #[.int .i64 px, .int .i64 py], .int .i64 n] w fun e w' => e = .returned (.tuple #[.bool (!farQ (4 * dN L c0 (px, py)) n), .int .i64 0]) ∧ Below w.heap.size w w' := by
  obtain ⟨g1, g2, g3⟩ := chkP_zero he
  have HV := hide (hv.below (allocs_below w [.cells #[.int .i64 px, .int .i64 py] 24]))
  have hb0 := hide (allocs_below w [.cells #[.int .i64 px, .int .i64 py] 24])
  have K0 := hide (Blk.new w 24 #[.int .i64 px, .int .i64 py])
  obtain ⟨A, c, rfl, _⟩ := id hv
  have HE := hide he
  have HD := hide (decide_eq_true hd)
  have HT := hide (decide_eq_true ht)
  have HN := hide (fun W (hV : Pts W (.slice A L.length c) L) => rpbeyond_any W _ L c0 px py n hV g1 g2 g3 hd ht)
  obtain ⟨R, hR⟩ : ∃ R, farQ (4 * dN L c0 (px, py)) n = R := ⟨_, rfl⟩
  rw [hR] at HN ⊢
  clear hv he hd ht g3 hR
  go_enter Tryz.func18, Tryz.ntmps18
  go_wp2_with fail
  refine (rpcheck_any _ _ L c0 HV.out hL).mono ?_
  rw [HE.out]
  rintro e w2 ⟨rfl, hb2⟩
  have KP := hide (Blk.below K0.out hb2 (Blk.lt K0.out))
  have HV2 := hide (HV.out.below hb2)
  have HB2 := hide (hb0.out.trans (Below.mono hb2 hb0.out.size))
  clear hb2
  have p0 := (Blk.cell KP.out 0).trans (rfl : _ = some (Value.int .i64 px))
  have p1 := (Blk.cell KP.out 1).trans (rfl : _ = some (Value.int .i64 py))
  go_wp2_with fail
  refine (rright_any _ px py).mono ?_
  rw [HD.out]
  rintro e w3 ⟨rfl, hb3⟩
  have KP3 := hide (Blk.below KP.out hb3 (Blk.lt KP.out))
  have HV3 := hide (HV2.out.below hb3)
  have HB3 := hide (HB2.out.trans (Below.mono hb3 HB2.out.size))
  clear hb3 p0 p1
  have p0 := (Blk.cell KP3.out 0).trans (rfl : _ = some (Value.int .i64 px))
  have p1 := (Blk.cell KP3.out 1).trans (rfl : _ = some (Value.int .i64 py))
  go_wp2_with fail
  refine (rptol_any _ n).mono ?_
  rw [HT.out]
  rintro e w4 ⟨rfl, rfl⟩
  go_wp2_with fail
  refine (HN.out _ HV3.out).mono ?_
  rintro e w5 ⟨rfl, hb5⟩
  have HB5 := hide (HB3.out.trans (hb5.mono HB3.out.size))
  clear hb5 p0 p1
  go_wp2_with fail
  go_ret2
  exact ⟨rfl, HB5.out⟩

theorem pwit_any (w : World) (v : Value) (L : List S2) (c0 : Bool) (px py n : Int) (hv : Pts w v L) (hL : L.length ≤ 1000000000000) (hs : Std w) :
    Calls Tryz.prog 17 #[v, .bool c0, .agg #[.int .i64 px, .int .i64 py], .int .i64 n] w fun e w' => e = .returned (.tuple #[.bool (wiB L c0 px py n), .int .i64 (wiE L c0 px py n)]) ∧ Below w.heap.size w w' := by
  have nz : ∀ k, k ≠ 0 → wiE L c0 px py n = k → wiB L c0 px py n = false := fun k hk h => by unfold wiB; rw [if_neg (by rw [h]; exact hk)]
  by_cases h : chkP L c0 = 0
  · by_cases hd : Co px ∧ Co py
    · by_cases ht : Tl n
      · have e0 : wiE L c0 px py n = 0 := by unfold wiE; rw [if_pos h, if_pos ⟨hd, ht⟩]
        have e1 : wiB L c0 px py n = !farQ (4 * dN L c0 (px, py)) n := by unfold wiB; rw [if_pos e0]
        rw [e0, e1]
        cases hq : farQ (4 * dN L c0 (px, py)) n
        · exact pwit_yes w v L c0 px py n hv hL hs h hd ht hq
        · exact pwit_no w v L c0 px py n hv hL hs h hd ht hq
      · have e0 : wiE L c0 px py n = 2 := by unfold wiE; rw [if_pos h, if_neg (fun h => ht h.2)]
        rw [nz 2 (by decide) e0, e0]
        exact pwit_tol w v L c0 px py n hv hL hs h hd ht
    · have e0 : wiE L c0 px py n = 2 := by unfold wiE; rw [if_pos h, if_neg (fun h => hd h.1)]
      rw [nz 2 (by decide) e0, e0]
      exact pwit_far w v L c0 px py n hv hL hs h hd
  · have e0 : wiE L c0 px py n = chkP L c0 := by unfold wiE; rw [if_neg h]
    rw [nz _ h e0, e0]
    exact pwit_bad w v L c0 px py n hv hL hs _ h rfl
theorem rpwit_any (w : World) (v : Value) (L : List S2) (c0 : Bool) (px py n : Int) (hv : Pts w v L) (hL : L.length ≤ 1000000000000) :
    Calls Tryz.prog 18 #[v, .bool c0, .agg #[.int .i64 px, .int .i64 py], .int .i64 n] w fun e w' => e = .returned (.tuple #[.bool (wiB L c0 px py n), .int .i64 (wiE L c0 px py n)]) ∧ Below w.heap.size w w' := by
  have nz : ∀ k, k ≠ 0 → wiE L c0 px py n = k → wiB L c0 px py n = false := fun k hk h => by unfold wiB; rw [if_neg (by rw [h]; exact hk)]
  by_cases h : chkP L c0 = 0
  · by_cases hd : Co px ∧ Co py
    · by_cases ht : Tl n
      · have e0 : wiE L c0 px py n = 0 := by unfold wiE; rw [if_pos h, if_pos ⟨hd, ht⟩]
        have e1 : wiB L c0 px py n = !farQ (4 * dN L c0 (px, py)) n := by unfold wiB; rw [if_pos e0]
        rw [e0, e1]
        exact rpwit_ok w v L c0 px py n hv hL h hd ht
      · have e0 : wiE L c0 px py n = 2 := by unfold wiE; rw [if_pos h, if_neg (fun h => ht h.2)]
        rw [nz 2 (by decide) e0, e0]
        exact rpwit_tol w v L c0 px py n hv hL h hd ht
    · have e0 : wiE L c0 px py n = 2 := by unfold wiE; rw [if_pos h, if_neg (fun h => hd h.1)]
      rw [nz 2 (by decide) e0, e0]
      exact rpwit_far w v L c0 px py n hv hL h hd
  · have e0 : wiE L c0 px py n = chkP L c0 := by unfold wiE; rw [if_neg h]
    rw [nz _ h e0, e0]
    exact rpwit_bad w v L c0 px py n hv hL _ h rfl
end Go.Proofs.YtendaaghmeoddaaGreatDoor
