/- profile.Nearest and Inside. -/
import Derived.Test.YtendaaghmeoddaaGreatDoorPchk
import Derived.Test.YtendaaghmeoddaaGreatDoorPnear
import Derived.Test.YtendaaghmeoddaaGreatDoorRpin
namespace Go.Proofs.YtendaaghmeoddaaGreatDoor
open Go.RowKit MLab

theorem pts_one (w : World) (t : TypeId) (px py : Int) (c : Nat) : Pts (w.alloc (.cells #[.int .i64 px, .int .i64 py] t)) (.slice (some ⟨w.heap.size, 0, none⟩) 1 c) [(px, py)] :=
  Pts.new w [(px, py)] t #[.int .i64 px, .int .i64 py] (fun i p h => by
    match i, h with
    | 0, h => simp at h; subst h; exact ⟨rfl, rfl⟩
    | k + 1, h => simp at h) c
theorem chk_one (px py : Int) : chkPtsN [(px, py)] = if Co px ∧ Co py then 0 else 2 := by
  unfold chkPtsN chkPts okPts
  rw [if_neg (by simp)]
  by_cases h : Co px ∧ Co py
  · rw [if_pos h, if_pos]; simp [h]
  · rw [if_neg h, if_neg]; simpa using h
/-- What Nearest and Inside return. -/
def neV (L : List S2) (c : Bool) (px py : Int) : Value :=
  if chkP L c = 0 then (if Co px ∧ Co py then .tuple #[.string ⟨(RT (dN L c (px, py))).toArray⟩, .int .i64 ((iN L c (px, py) : Nat) : Int), .int .i64 0] else .tuple #[.string ⟨#[]⟩, .int .i64 0, .int .i64 2]) else .tuple #[.string ⟨#[]⟩, .int .i64 0, .int .i64 (chkP L c)]
def inV (L : List S2) (px py : Int) : Value :=
  if chkP L true = 0 then (if Co px ∧ Co py then .tuple #[.int .i64 (locP L (px, py)), .int .i64 0] else .tuple #[.int .i64 0, .int .i64 2]) else .tuple #[.int .i64 0, .int .i64 (chkP L true)]
theorem neV_shape (L : List S2) (c : Bool) (px py : Int) : ∃ s i e, neV L c px py = .tuple #[.string s, .int .i64 i, .int .i64 e] := by
  unfold neV; split
  · split
    · exact ⟨_, _, _, rfl⟩
    · exact ⟨_, _, _, rfl⟩
  · exact ⟨_, _, _, rfl⟩
theorem inV_shape (L : List S2) (px py : Int) : ∃ n e, inV L px py = .tuple #[.int .i64 n, .int .i64 e] := by
  unfold inV; split
  · split
    · exact ⟨_, _, rfl⟩
    · exact ⟨_, _, rfl⟩
  · exact ⟨_, _, rfl⟩
theorem dN_loc (L : List S2) (px py : Int) : (dN L true (px, py) = 0) ↔ mn (dq L (px, py)) L.length = 0 := by
  unfold dN mn
  rw [show segN L true = L.length from rfl]

theorem rpne_any (w : World) (v : Value) (L : List S2) (c0 : Bool) (px py : Int) (hv : Pts w v L) (hL : L.length ≤ 1000000000000) :
    Calls Tryz.prog 16 #[v, .bool c0, .agg #[.int .i64 px, .int .i64 py]] w fun e w' => e = .returned (neV L c0 px py) ∧ Below w.heap.size w w' := by
  unfold neV
  by_cases h : chkP L c0 = 0
  · rw [if_pos h]
    by_cases hd : Co px ∧ Co py
    · rw [if_pos hd]; exact rpne_ok w v L c0 px py hv hL h hd
    · rw [if_neg hd]; exact rpne_far w v L c0 px py hv hL h hd
  · rw [if_neg h]; exact rpne_bad w v L c0 px py hv hL _ h rfl
theorem rpin_any (w : World) (v : Value) (L : List S2) (px py : Int) (hv : Pts w v L) (hL : L.length ≤ 1000000000000) :
    Calls Tryz.prog 14 #[v, .agg #[.int .i64 px, .int .i64 py]] w fun e w' => e = .returned (inV L px py) ∧ Below w.heap.size w w' := by
  unfold inV
  by_cases h : chkP L true = 0
  · rw [if_pos h]
    by_cases hd : Co px ∧ Co py
    · rw [if_pos hd]; exact rpin_ok w v L px py hv hL h hd
    · rw [if_neg hd]; exact rpin_far w v L px py hv hL h hd
  · rw [if_neg h]; exact rpin_bad w v L px py hv hL _ h rfl

set_option maxRecDepth 100000 in
set_option maxHeartbeats 4000000 in
theorem pne_bad (w : World) (v : Value) (L : List S2) (c0 : Bool) (px py : Int) (hv : Pts w v L) (hL : L.length ≤ 1000000000000) (hs : Std w) (n : Int) (hn : n ≠ 0) (he : chkP L c0 = n) :
    Calls Tryz.prog 15 #[v, .bool c0, .agg #[.int .i64 px, .int .i64 py]] w fun e w' => e = .returned (.tuple #[.string ⟨#[]⟩, .int .i64 0, .int .i64 n]) ∧ Below w.heap.size w w' := by
  have HV := hide (hv.below (allocs_below w [.cells #[.int .i64 px, .int .i64 py] 24]))
  have hb0 := hide (allocs_below w [.cells #[.int .i64 px, .int .i64 py] 24])
  have K0 := hide (Blk.new w 24 #[.int .i64 px, .int .i64 py])
  have HS := hide hs
  obtain ⟨A, c, rfl, _⟩ := id hv
  have HE := hide he
  have hn0 : ¬ n = 0 := hn
  clear hv he hn hs
  go_enter Tryz.func15, Tryz.ntmps15
  go_wp2_with fail
  refine (pcheck_any _ _ L c0 HV.out hL).mono ?_
  rw [HE.out]
  rintro e w2 ⟨rfl, hb2⟩
  have KP := hide (Blk.below K0.out hb2 (Blk.lt K0.out))
  have HV2 := hide (HV.out.below hb2)
  have HB2 := hide (hb0.out.trans (Below.mono hb2 hb0.out.size))
  clear hb2
  go_wp2_with fail
  go_ret3
  exact ⟨rfl, HB2.out⟩

set_option maxRecDepth 100000 in
set_option maxHeartbeats 4000000 in
theorem pne_far (w : World) (v : Value) (L : List S2) (c0 : Bool) (px py : Int) (hv : Pts w v L) (hL : L.length ≤ 1000000000000) (hs : Std w) (he : chkP L c0 = 0) (hd : ¬ (Co px ∧ Co py)) :
    Calls Tryz.prog 15 #[v, .bool c0, .agg #[.int .i64 px, .int .i64 py]] w fun e w' => e = .returned (.tuple #[.string ⟨#[]⟩, .int .i64 0, .int .i64 2]) ∧ Below w.heap.size w w' := by
  have HV := hide (hv.below (allocs_below w [.cells #[.int .i64 px, .int .i64 py] 24]))
  have hb0 := hide (allocs_below w [.cells #[.int .i64 px, .int .i64 py] 24])
  have K0 := hide (Blk.new w 24 #[.int .i64 px, .int .i64 py])
  have HS := hide hs
  obtain ⟨A, c, rfl, _⟩ := id hv
  have HE := hide he
  have HD := hide ((chk_one px py).trans (if_neg hd))
  clear hv he hd hs
  go_enter Tryz.func15, Tryz.ntmps15
  go_wp2_with fail
  refine (pcheck_any _ _ L c0 HV.out hL).mono ?_
  rw [HE.out]
  rintro e w2 ⟨rfl, hb2⟩
  have KP := hide (Blk.below K0.out hb2 (Blk.lt K0.out))
  have HV2 := hide (HV.out.below hb2)
  have HB2 := hide (hb0.out.trans (Below.mono hb2 hb0.out.size))
  clear hb2
  have p0 := (Blk.cell KP.out 0).trans (rfl : _ = some (Value.int .i64 px))
  have p1 := (Blk.cell KP.out 1).trans (rfl : _ = some (Value.int .i64 py))
  go_wp2_with fail
  refine (Check_any _ _ [(px, py)] (pts_one _ _ px py _) (by simp)).mono ?_
  rw [HD.out]
  rintro e w3 ⟨rfl, hb3⟩
  have hA3 := (allocs_below w2 [.cells #[.int .i64 px, .int .i64 py] 24 ]).trans (hb3.mono (by simp))
  have KP3 := hide (Blk.below KP.out hA3 (Blk.lt KP.out))
  have HV3 := hide (HV2.out.below hA3)
  have HB3 := hide (HB2.out.trans (Below.mono hA3 HB2.out.size))
  clear hb3 hA3 p0 p1
  have p0 := (Blk.cell KP3.out 0).trans (rfl : _ = some (Value.int .i64 px))
  have p1 := (Blk.cell KP3.out 1).trans (rfl : _ = some (Value.int .i64 py))
  go_wp2_with fail
  go_ret3
  exact ⟨rfl, HB3.out⟩

set_option maxRecDepth 100000 in
set_option maxHeartbeats 4000000 in
theorem pne_ok (w : World) (v : Value) (L : List S2) (c0 : Bool) (px py : Int) (hv : Pts w v L) (hL : L.length ≤ 1000000000000) (hs : Std w) (he : chkP L c0 = 0) (hd : Co px ∧ Co py) :
    Calls Tryz.prog 15 #[v, .bool c0, .agg #[.int .i64 px, .int .i64 py]] w fun e w' => e = .returned (.tuple #[.string ⟨(RT (dN L c0 (px, py))).toArray⟩, .int .i64 ((iN L c0 (px, py) : Nat) : Int), .int .i64 0]) ∧ Below w.heap.size w w' := by
  obtain ⟨g1, g2, g3⟩ := chkP_zero he
  have HV := hide (hv.below (allocs_below w [.cells #[.int .i64 px, .int .i64 py] 24]))
  have hb0 := hide (allocs_below w [.cells #[.int .i64 px, .int .i64 py] 24])
  have K0 := hide (Blk.new w 24 #[.int .i64 px, .int .i64 py])
  have HS := hide hs
  obtain ⟨A, c, rfl, _⟩ := id hv
  have HE := hide he
  have HD := hide ((chk_one px py).trans (if_pos hd))
  have HN := hide (fun W (hS : Std W) (hV : Pts W (.slice A L.length c) L) => pnear_ok W _ L c0 px py hS hV g1 g2 g3 hd)
  clear hv he hd g3 hs
  go_enter Tryz.func15, Tryz.ntmps15
  go_wp2_with fail
  refine (pcheck_any _ _ L c0 HV.out hL).mono ?_
  rw [HE.out]
  rintro e w2 ⟨rfl, hb2⟩
  have KP := hide (Blk.below K0.out hb2 (Blk.lt K0.out))
  have HV2 := hide (HV.out.below hb2)
  have HB2 := hide (hb0.out.trans (Below.mono hb2 hb0.out.size))
  clear hb2
  have p0 := (Blk.cell KP.out 0).trans (rfl : _ = some (Value.int .i64 px))
  have p1 := (Blk.cell KP.out 1).trans (rfl : _ = some (Value.int .i64 py))
  go_wp2_with fail
  refine (Check_any _ _ [(px, py)] (pts_one _ _ px py _) (by simp)).mono ?_
  rw [HD.out]
  rintro e w3 ⟨rfl, hb3⟩
  have hA3 := (allocs_below w2 [.cells #[.int .i64 px, .int .i64 py] 24 ]).trans (hb3.mono (by simp))
  have KP3 := hide (Blk.below KP.out hA3 (Blk.lt KP.out))
  have HV3 := hide (HV2.out.below hA3)
  have HB3 := hide (HB2.out.trans (Below.mono hA3 HB2.out.size))
  clear hb3 hA3 p0 p1
  have p0 := (Blk.cell KP3.out 0).trans (rfl : _ = some (Value.int .i64 px))
  have p1 := (Blk.cell KP3.out 1).trans (rfl : _ = some (Value.int .i64 py))
  go_wp2_with fail
  refine (HN.out _ (HS.out.below HB3.out (Nat.le_refl _)) HV3.out).mono ?_
  rintro e w4 ⟨rfl, hb4⟩
  have HB4 := hide (HB3.out.trans (Below.mono hb4 HB3.out.size))
  clear hb4 p0 p1
  go_wp2_with fail
  go_ret3
  exact ⟨rfl, HB4.out⟩

theorem pne_any (w : World) (v : Value) (L : List S2) (c0 : Bool) (px py : Int) (hv : Pts w v L) (hL : L.length ≤ 1000000000000) (hs : Std w) :
    Calls Tryz.prog 15 #[v, .bool c0, .agg #[.int .i64 px, .int .i64 py]] w fun e w' => e = .returned (neV L c0 px py) ∧ Below w.heap.size w w' := by
  unfold neV
  by_cases h : chkP L c0 = 0
  · rw [if_pos h]
    by_cases hd : Co px ∧ Co py
    · rw [if_pos hd]; exact pne_ok w v L c0 px py hv hL hs h hd
    · rw [if_neg hd]; exact pne_far w v L c0 px py hv hL hs h hd
  · rw [if_neg h]; exact pne_bad w v L c0 px py hv hL hs _ h rfl

set_option maxRecDepth 100000 in
set_option maxHeartbeats 4000000 in
theorem pin_err (w : World) (v : Value) (L : List S2) (px py : Int) (hv : Pts w v L) (hL : L.length ≤ 1000000000000) (hs : Std w) (n : Int) (hn : n ≠ 0) (he : neV L true px py = .tuple #[.string ⟨#[]⟩, .int .i64 0, .int .i64 n]) :
    Calls Tryz.prog 13 #[v, .agg #[.int .i64 px, .int .i64 py]] w fun e w' => e = .returned (.tuple #[.int .i64 0, .int .i64 n]) ∧ Below w.heap.size w w' := by
  have HV := hide (hv.below (allocs_below w [.cells #[.int .i64 px, .int .i64 py] 24]))
  have hb0 := hide (allocs_below w [.cells #[.int .i64 px, .int .i64 py] 24])
  have K0 := hide (Blk.new w 24 #[.int .i64 px, .int .i64 py])
  have HS1 := hide (hs.below hb0.out (Nat.le_refl _))
  obtain ⟨A, c, rfl, _⟩ := id hv
  have HE := hide he
  have hn0 : ¬ n = 0 := hn
  clear hv he hn hs
  go_enter Tryz.func13, Tryz.ntmps13
  go_wp2_with fail
  refine (pne_any _ _ L true px py HV.out hL HS1.out).mono ?_
  rw [HE.out]
  rintro e w2 ⟨rfl, hb2⟩
  have HB2 := hide (hb0.out.trans (Below.mono hb2 hb0.out.size))
  clear hb2
  go_wp2_with fail
  go_ret2
  exact ⟨rfl, HB2.out⟩

set_option maxRecDepth 100000 in
set_option maxHeartbeats 4000000 in
theorem pin_on (w : World) (v : Value) (L : List S2) (px py : Int) (hv : Pts w v L) (hL : L.length ≤ 1000000000000) (hs : Std w) (he : chkP L true = 0) (hd : Co px ∧ Co py) (hq : dN L true (px, py) = 0) :
    Calls Tryz.prog 13 #[v, .agg #[.int .i64 px, .int .i64 py]] w fun e w' => e = .returned (.tuple #[.int .i64 (locP L (px, py)), .int .i64 0]) ∧ Below w.heap.size w w' := by
  obtain ⟨g1, g2, g3⟩ := chkP_zero he
  have hne : neV L true px py = .tuple #[.string ⟨(RT (dN L true (px, py))).toArray⟩, .int .i64 ((iN L true (px, py) : Nat) : Int), .int .i64 0] := by
    unfold neV; rw [if_pos he, if_pos hd]
  obtain ⟨s, hs0⟩ : ∃ s : ByteArray, (⟨(RT (dN L true (px, py))).toArray⟩ : ByteArray) = s := ⟨_, rfl⟩
  have h48 := rt48 (dN L true (px, py))
  rw [hs0] at hne h48
  rw [decide_eq_true hq] at h48
  obtain ⟨R, hR⟩ : ∃ R, locP L (px, py) = R := ⟨_, rfl⟩
  have hloc : (0 : Int) = R := by rw [← hR]; unfold locP; rw [if_pos ((dN_loc L px py).1 hq)]
  rw [hR]
  clear hR
  have HV := hide (hv.below (allocs_below w [.cells #[.int .i64 px, .int .i64 py] 24]))
  have hb0 := hide (allocs_below w [.cells #[.int .i64 px, .int .i64 py] 24])
  have K0 := hide (Blk.new w 24 #[.int .i64 px, .int .i64 py])
  have HS1 := hide (hs.below hb0.out (Nat.le_refl _))
  obtain ⟨A, c, rfl, _⟩ := id hv
  have HE := hide hne
  have HN := hide (fun W (hV : Pts W (.slice A L.length c) L) => (by have h := ploc_on W _ L px py s hV h48; rw [hloc] at h; exact h : Calls Tryz.prog 47 #[.slice A L.length c, .agg #[.int .i64 px, .int .i64 py], .string s] W fun e w' => e = .returned (.int .i64 R) ∧ Below W.heap.size W w'))
  clear hv he hd g3 hs hne hs0 hq h48 hloc
  go_enter Tryz.func13, Tryz.ntmps13
  go_wp2_with fail
  refine (pne_any _ _ L true px py HV.out hL HS1.out).mono ?_
  rw [HE.out]
  rintro e w2 ⟨rfl, hb2⟩
  have HB2 := hide (hb0.out.trans (Below.mono hb2 hb0.out.size))
  have KP := hide (Blk.below K0.out hb2 (Blk.lt K0.out))
  have HV2 := hide (HV.out.below hb2)
  clear hb2
  have p0 := (Blk.cell KP.out 0).trans (rfl : _ = some (Value.int .i64 px))
  have p1 := (Blk.cell KP.out 1).trans (rfl : _ = some (Value.int .i64 py))
  go_wp2_with fail
  refine (HN.out _ HV2.out).mono ?_
  rintro e w3 ⟨rfl, hb3⟩
  have HB3 := hide (HB2.out.trans (Below.mono hb3 HB2.out.size))
  clear hb3 p0 p1
  go_wp2_with fail
  go_ret2
  exact ⟨rfl, HB3.out⟩

set_option maxRecDepth 100000 in
set_option maxHeartbeats 4000000 in
theorem pin_ray (w : World) (v : Value) (L : List S2) (px py : Int) (hv : Pts w v L) (hL : L.length ≤ 1000000000000) (hs : Std w) (he : chkP L true = 0) (hd : Co px ∧ Co py) (hq : ¬ dN L true (px, py) = 0) :
    Calls Tryz.prog 13 #[v, .agg #[.int .i64 px, .int .i64 py]] w fun e w' => e = .returned (.tuple #[.int .i64 (locP L (px, py)), .int .i64 0]) ∧ Below w.heap.size w w' := by
  obtain ⟨g1, g2, g3⟩ := chkP_zero he
  have hne : neV L true px py = .tuple #[.string ⟨(RT (dN L true (px, py))).toArray⟩, .int .i64 ((iN L true (px, py) : Nat) : Int), .int .i64 0] := by
    unfold neV; rw [if_pos he, if_pos hd]
  obtain ⟨s, hs0⟩ : ∃ s : ByteArray, (⟨(RT (dN L true (px, py))).toArray⟩ : ByteArray) = s := ⟨_, rfl⟩
  have h48 := rt48 (dN L true (px, py))
  rw [hs0] at hne h48
  rw [decide_eq_false hq] at h48
  obtain ⟨R, hR⟩ : ∃ R, locP L (px, py) = R := ⟨_, rfl⟩
  have hloc : (if par (cr L (px, py)) L.length then (1 : Int) else -1) = R := by rw [← hR]; unfold locP; rw [if_neg (fun h => hq ((dN_loc L px py).2 h))]
  rw [hR]
  clear hR
  have HV := hide (hv.below (allocs_below w [.cells #[.int .i64 px, .int .i64 py] 24]))
  have hb0 := hide (allocs_below w [.cells #[.int .i64 px, .int .i64 py] 24])
  have K0 := hide (Blk.new w 24 #[.int .i64 px, .int .i64 py])
  have HS1 := hide (hs.below hb0.out (Nat.le_refl _))
  obtain ⟨A, c, rfl, _⟩ := id hv
  have HE := hide hne
  have HN := hide (fun W (hV : Pts W (.slice A L.length c) L) => (by have h := ploc_ray W _ L px py s hV g1 g3 hd h48; rw [hloc] at h; exact h : Calls Tryz.prog 47 #[.slice A L.length c, .agg #[.int .i64 px, .int .i64 py], .string s] W fun e w' => e = .returned (.int .i64 R) ∧ Below W.heap.size W w'))
  clear hv he hd g3 hs hne hs0 hq h48 hloc
  go_enter Tryz.func13, Tryz.ntmps13
  go_wp2_with fail
  refine (pne_any _ _ L true px py HV.out hL HS1.out).mono ?_
  rw [HE.out]
  rintro e w2 ⟨rfl, hb2⟩
  have HB2 := hide (hb0.out.trans (Below.mono hb2 hb0.out.size))
  have KP := hide (Blk.below K0.out hb2 (Blk.lt K0.out))
  have HV2 := hide (HV.out.below hb2)
  clear hb2
  have p0 := (Blk.cell KP.out 0).trans (rfl : _ = some (Value.int .i64 px))
  have p1 := (Blk.cell KP.out 1).trans (rfl : _ = some (Value.int .i64 py))
  go_wp2_with fail
  refine (HN.out _ HV2.out).mono ?_
  rintro e w3 ⟨rfl, hb3⟩
  have HB3 := hide (HB2.out.trans (Below.mono hb3 HB2.out.size))
  clear hb3 p0 p1
  go_wp2_with fail
  go_ret2
  exact ⟨rfl, HB3.out⟩

theorem pin_any (w : World) (v : Value) (L : List S2) (px py : Int) (hv : Pts w v L) (hL : L.length ≤ 1000000000000) (hs : Std w) :
    Calls Tryz.prog 13 #[v, .agg #[.int .i64 px, .int .i64 py]] w fun e w' => e = .returned (inV L px py) ∧ Below w.heap.size w w' := by
  unfold inV
  by_cases h : chkP L true = 0
  · rw [if_pos h]
    by_cases hd : Co px ∧ Co py
    · rw [if_pos hd]
      by_cases hq : dN L true (px, py) = 0
      · exact pin_on w v L px py hv hL hs h hd hq
      · exact pin_ray w v L px py hv hL hs h hd hq
    · rw [if_neg hd]; exact pin_err w v L px py hv hL hs 2 (by decide) (by unfold neV; rw [if_pos h, if_neg hd])
  · rw [if_neg h]; exact pin_err w v L px py hv hL hs _ h (by unfold neV; rw [if_neg h])
end Go.Proofs.YtendaaghmeoddaaGreatDoor
