/- torsor.Apply. -/
import Derived.Test.YtdkilkliccljeaaGreatDoorTtimes
import Derived.Test.YtdkilkliccljeaaGreatDoorTform
namespace Go.Proofs.YtdkilkliccljeaaGreatDoor
open Go.RowKit MLab

def frmV (k : Nat) (x y z : Int) : Value := .agg #[.int .i64 (frm k x y z 0), .int .i64 (frm k x y z 1), .int .i64 (frm k x y z 2), .int .i64 (frm k x y z 3), .int .i64 (frm k x y z 4), .int .i64 (frm k x y z 5)]
theorem tform_any (w : World) (k : Nat) (hk : k < 3) (x y z : Int) (hx : Cb x) (hy : Cb y) (hz : Cb z) : Calls Tryz.prog 47 #[.int .i64 (k : Int), .agg #[.int .i64 x, .int .i64 y, .int .i64 z]] w fun e w' => e = .returned (frmV k x y z) ∧ Below w.heap.size w w' := by
  match k, hk with
  | 0, _ => exact tform0 w x y z hx hy hz
  | 1, _ => exact tform1 w x y z hx hy hz
  | 2, _ => exact tform2 w x y z hx hy hz

set_option maxRecDepth 100000 in
set_option maxHeartbeats 4000000 in
theorem tapply_bad (w : World) (s0 s1 s2 s3 s4 s5 : ByteArray) (x y z : Int) (c : Int) (hc : chkRs [s0.data.toList, s1.data.toList, s2.data.toList, s3.data.toList, s4.data.toList, s5.data.toList] = c) (h0 : c ≠ 0) (hsz : ∀ l ∈ [s0.data.toList, s1.data.toList, s2.data.toList, s3.data.toList, s4.data.toList, s5.data.toList], l.length < 4000000000) (hst : Std w) :
    Calls Tryz.prog 12 #[.agg #[.string s0, .string s1, .string s2, .string s3, .string s4, .string s5], .agg #[.int .i64 x, .int .i64 y, .int .i64 z]] w fun e w' => e = .returned (.tuple #[.agg #[.string ⟨#[]⟩, .string ⟨#[]⟩, .string ⟨#[]⟩], .int .i64 c]) ∧ Below w.heap.size w w' := by
  have hb0 := hide (allocs_below w [.cells #[.string s0, .string s1, .string s2, .string s3, .string s4, .string s5] 25, .cells #[.int .i64 x, .int .i64 y, .int .i64 z] 27, .cells #[.string ⟨#[]⟩, .string ⟨#[]⟩, .string ⟨#[]⟩] 23])
  have K0 := hide (show Blk (allocs w [.cells #[.string s0, .string s1, .string s2, .string s3, .string s4, .string s5] 25, .cells #[.int .i64 x, .int .i64 y, .int .i64 z] 27, .cells #[.string ⟨#[]⟩, .string ⟨#[]⟩, .string ⟨#[]⟩] 23]) (w.heap.size + 0) 25 #[.string s0, .string s1, .string s2, .string s3, .string s4, .string s5] from allocs_at w [.cells #[.string s0, .string s1, .string s2, .string s3, .string s4, .string s5] 25, .cells #[.int .i64 x, .int .i64 y, .int .i64 z] 27, .cells #[.string ⟨#[]⟩, .string ⟨#[]⟩, .string ⟨#[]⟩] 23] 0 rfl)
  have K1 := hide (show Blk (allocs w [.cells #[.string s0, .string s1, .string s2, .string s3, .string s4, .string s5] 25, .cells #[.int .i64 x, .int .i64 y, .int .i64 z] 27, .cells #[.string ⟨#[]⟩, .string ⟨#[]⟩, .string ⟨#[]⟩] 23]) (w.heap.size + 1) 27 #[.int .i64 x, .int .i64 y, .int .i64 z] from allocs_at w [.cells #[.string s0, .string s1, .string s2, .string s3, .string s4, .string s5] 25, .cells #[.int .i64 x, .int .i64 y, .int .i64 z] 27, .cells #[.string ⟨#[]⟩, .string ⟨#[]⟩, .string ⟨#[]⟩] 23] 1 rfl)
  have K2 := hide (show Blk (allocs w [.cells #[.string s0, .string s1, .string s2, .string s3, .string s4, .string s5] 25, .cells #[.int .i64 x, .int .i64 y, .int .i64 z] 27, .cells #[.string ⟨#[]⟩, .string ⟨#[]⟩, .string ⟨#[]⟩] 23]) (w.heap.size + 2) 23 #[.string ⟨#[]⟩, .string ⟨#[]⟩, .string ⟨#[]⟩] from allocs_at w [.cells #[.string s0, .string s1, .string s2, .string s3, .string s4, .string s5] 25, .cells #[.int .i64 x, .int .i64 y, .int .i64 z] 27, .cells #[.string ⟨#[]⟩, .string ⟨#[]⟩, .string ⟨#[]⟩] 23] 2 rfl)
  have HSZ := hide hsz
  have HC := hide hc
  have HST := hide hst
  clear hsz hc hst
  go_enter Tryz.func12, Tryz.ntmps12
  go_wp2_with fail
  refine (tCheck_any _ s0 s1 s2 s3 s4 s5 HSZ.out (HST.out.below hb0.out (Nat.le_refl _))).mono ?_
  rw [HC.out]
  rintro e w1 ⟨rfl, hb1⟩
  have HB1 := hide (hb0.out.trans (Below.mono hb1 hb0.out.size))
  have rhz := Blk.below K2.out hb1 (Blk.lt K2.out)
  have rz0 : w1.cell? ⟨w.heap.size + 2, 0, none⟩ = some (.string ⟨#[]⟩) := (Blk.cell rhz 0).trans rfl
  have rf0 := Blk.frozen rhz 0
  have rz1 : w1.cell? ⟨w.heap.size + 2, 1, none⟩ = some (.string ⟨#[]⟩) := (Blk.cell rhz 1).trans rfl
  have rf1 := Blk.frozen rhz 1
  have rz2 : w1.cell? ⟨w.heap.size + 2, 2, none⟩ = some (.string ⟨#[]⟩) := (Blk.cell rhz 2).trans rfl
  have rf2 := Blk.frozen rhz 2
  clear rhz hb1 K0 K1 K2
  go_wp2_with fail
  exact bodyPost_ret (v := .tuple #[.agg #[.string ⟨#[]⟩, .string ⟨#[]⟩, .string ⟨#[]⟩], .int .i64 c]) (by simp [results, Tryz.results12, go_sem, rz0, rz1, rz2]) rfl ⟨rfl, (((HB1.out.setCell (p := ⟨w.heap.size + 2, 0, none⟩) (Nat.le_add_right _ _) _).setCell (p := ⟨w.heap.size + 2, 1, none⟩) (Nat.le_add_right _ _) _).setCell (p := ⟨w.heap.size + 2, 2, none⟩) (Nat.le_add_right _ _) _)⟩

set_option maxRecDepth 100000 in
set_option maxHeartbeats 4000000 in
theorem tapply_spot (w : World) (s0 s1 s2 s3 s4 s5 : ByteArray) (x y z : Int) (hc : chkRs [s0.data.toList, s1.data.toList, s2.data.toList, s3.data.toList, s4.data.toList, s5.data.toList] = 0) (hw : ¬ (Co x ∧ Co y ∧ Co z)) (hsz : ∀ l ∈ [s0.data.toList, s1.data.toList, s2.data.toList, s3.data.toList, s4.data.toList, s5.data.toList], l.length < 4000000000) (hst : Std w) :
    Calls Tryz.prog 12 #[.agg #[.string s0, .string s1, .string s2, .string s3, .string s4, .string s5], .agg #[.int .i64 x, .int .i64 y, .int .i64 z]] w fun e w' => e = .returned (.tuple #[.agg #[.string ⟨#[]⟩, .string ⟨#[]⟩, .string ⟨#[]⟩], .int .i64 2]) ∧ Below w.heap.size w w' := by
  have hb0 := hide (allocs_below w [.cells #[.string s0, .string s1, .string s2, .string s3, .string s4, .string s5] 25, .cells #[.int .i64 x, .int .i64 y, .int .i64 z] 27, .cells #[.string ⟨#[]⟩, .string ⟨#[]⟩, .string ⟨#[]⟩] 23])
  have K0 := hide (show Blk (allocs w [.cells #[.string s0, .string s1, .string s2, .string s3, .string s4, .string s5] 25, .cells #[.int .i64 x, .int .i64 y, .int .i64 z] 27, .cells #[.string ⟨#[]⟩, .string ⟨#[]⟩, .string ⟨#[]⟩] 23]) (w.heap.size + 0) 25 #[.string s0, .string s1, .string s2, .string s3, .string s4, .string s5] from allocs_at w [.cells #[.string s0, .string s1, .string s2, .string s3, .string s4, .string s5] 25, .cells #[.int .i64 x, .int .i64 y, .int .i64 z] 27, .cells #[.string ⟨#[]⟩, .string ⟨#[]⟩, .string ⟨#[]⟩] 23] 0 rfl)
  have K1 := hide (show Blk (allocs w [.cells #[.string s0, .string s1, .string s2, .string s3, .string s4, .string s5] 25, .cells #[.int .i64 x, .int .i64 y, .int .i64 z] 27, .cells #[.string ⟨#[]⟩, .string ⟨#[]⟩, .string ⟨#[]⟩] 23]) (w.heap.size + 1) 27 #[.int .i64 x, .int .i64 y, .int .i64 z] from allocs_at w [.cells #[.string s0, .string s1, .string s2, .string s3, .string s4, .string s5] 25, .cells #[.int .i64 x, .int .i64 y, .int .i64 z] 27, .cells #[.string ⟨#[]⟩, .string ⟨#[]⟩, .string ⟨#[]⟩] 23] 1 rfl)
  have K2 := hide (show Blk (allocs w [.cells #[.string s0, .string s1, .string s2, .string s3, .string s4, .string s5] 25, .cells #[.int .i64 x, .int .i64 y, .int .i64 z] 27, .cells #[.string ⟨#[]⟩, .string ⟨#[]⟩, .string ⟨#[]⟩] 23]) (w.heap.size + 2) 23 #[.string ⟨#[]⟩, .string ⟨#[]⟩, .string ⟨#[]⟩] from allocs_at w [.cells #[.string s0, .string s1, .string s2, .string s3, .string s4, .string s5] 25, .cells #[.int .i64 x, .int .i64 y, .int .i64 z] 27, .cells #[.string ⟨#[]⟩, .string ⟨#[]⟩, .string ⟨#[]⟩] 23] 2 rfl)
  have HSZ := hide hsz
  have HC := hide hc
  have HST := hide hst
  have HW := hide (show (if Co x ∧ Co y ∧ Co z then (0 : Int) else 2) = 2 from if_neg hw)
  clear hsz hc hst hw
  go_enter Tryz.func12, Tryz.ntmps12
  go_wp2_with fail
  refine (tCheck_any _ s0 s1 s2 s3 s4 s5 HSZ.out (HST.out.below hb0.out (Nat.le_refl _))).mono ?_
  rw [HC.out]
  rintro e w1 ⟨rfl, hb1⟩
  have HB1 := hide (hb0.out.trans (Below.mono hb1 hb0.out.size))
  have phz := Blk.below K1.out hb1 (Blk.lt K1.out)
  have pz0 : w1.cell? ⟨w.heap.size + 1, 0, none⟩ = some (.int .i64 x) := (Blk.cell phz 0).trans rfl
  have pz1 : w1.cell? ⟨w.heap.size + 1, 1, none⟩ = some (.int .i64 y) := (Blk.cell phz 1).trans rfl
  have pz2 : w1.cell? ⟨w.heap.size + 1, 2, none⟩ = some (.int .i64 z) := (Blk.cell phz 2).trans rfl
  have HL1 := hide hb1
  clear phz hb1
  go_wp2_with fail
  refine (one_spot _ _ rfl x y z _ 1).mono ?_
  rw [HW.out]
  rintro e w2 ⟨rfl, hb2⟩
  have HL2 := hide (HL1.out.trans (Below.mono hb2 HL1.out.size))
  have HB2 := hide (HB1.out.trans (Below.mono hb2 HB1.out.size))
  clear hb2 pz0 pz1 pz2
  have rhz := Blk.below K2.out HL2.out (Blk.lt K2.out)
  have rz0 : w2.cell? ⟨w.heap.size + 2, 0, none⟩ = some (.string ⟨#[]⟩) := (Blk.cell rhz 0).trans rfl
  have rf0 := Blk.frozen rhz 0
  have rz1 : w2.cell? ⟨w.heap.size + 2, 1, none⟩ = some (.string ⟨#[]⟩) := (Blk.cell rhz 1).trans rfl
  have rf1 := Blk.frozen rhz 1
  have rz2 : w2.cell? ⟨w.heap.size + 2, 2, none⟩ = some (.string ⟨#[]⟩) := (Blk.cell rhz 2).trans rfl
  have rf2 := Blk.frozen rhz 2
  clear rhz K0 K1 K2
  go_wp2_with fail
  exact bodyPost_ret (v := .tuple #[.agg #[.string ⟨#[]⟩, .string ⟨#[]⟩, .string ⟨#[]⟩], .int .i64 2]) (by simp [results, Tryz.results12, go_sem, rz0, rz1, rz2]) rfl ⟨rfl, (((HB2.out.setCell (p := ⟨w.heap.size + 2, 0, none⟩) (Nat.le_add_right _ _) _).setCell (p := ⟨w.heap.size + 2, 1, none⟩) (Nat.le_add_right _ _) _).setCell (p := ⟨w.heap.size + 2, 2, none⟩) (Nat.le_add_right _ _) _)⟩

set_option maxRecDepth 100000 in
set_option maxHeartbeats 8000000 in
theorem tapply_ok (w : World) (s0 s1 s2 s3 s4 s5 : ByteArray) (q : Nat → Rat) (x y z : Int) {m : Nat} (hm : m ≤ 160) (hq : ∀ i, i < 6 → Sz m m (q i)) (hs : s0.data.toList = RT (q 0) ∧ s1.data.toList = RT (q 1) ∧ s2.data.toList = RT (q 2) ∧ s3.data.toList = RT (q 3) ∧ s4.data.toList = RT (q 4) ∧ s5.data.toList = RT (q 5)) (hw : Co x ∧ Co y ∧ Co z) (hst : Std w) :
    Calls Tryz.prog 12 #[.agg #[.string s0, .string s1, .string s2, .string s3, .string s4, .string s5], .agg #[.int .i64 x, .int .i64 y, .int .i64 z]] w fun e w' => e = .returned (.tuple #[.agg #[.string ⟨(RT (mvd 0 x y z q)).toArray⟩, .string ⟨(RT (mvd 1 x y z q)).toArray⟩, .string ⟨(RT (mvd 2 x y z q)).toArray⟩], .int .i64 0]) ∧ Below w.heap.size w w' := by
  have hfit : ∀ i, i < 6 → Fit (q i) := fun i hi => (hq i hi).fit (by omega) (by omega)
  obtain ⟨b0, b1, b2, b3, b4, b5⟩ := id hs
  have hsz : ∀ l ∈ [s0.data.toList, s1.data.toList, s2.data.toList, s3.data.toList, s4.data.toList, s5.data.toList], l.length < 4000000000 := by
    intro l hl
    rw [b0, b1, b2, b3, b4, b5] at hl
    simp only [List.mem_cons, List.not_mem_nil, or_false] at hl
    rcases hl with rfl | rfl | rfl | rfl | rfl | rfl
    · have := RT_len (hfit 0 (by omega)); omega
    · have := RT_len (hfit 1 (by omega)); omega
    · have := RT_len (hfit 2 (by omega)); omega
    · have := RT_len (hfit 3 (by omega)); omega
    · have := RT_len (hfit 4 (by omega)); omega
    · have := RT_len (hfit 5 (by omega)); omega
  have hc : chkRs [s0.data.toList, s1.data.toList, s2.data.toList, s3.data.toList, s4.data.toList, s5.data.toList] = 0 := by
    rw [b0, b1, b2, b3, b4, b5]
    exact chkRs_fit (L := [q 0, q 1, q 2, q 3, q 4, q 5]) (by
      intro x hx
      simp only [List.mem_cons, List.not_mem_nil, or_false] at hx
      rcases hx with rfl | rfl | rfl | rfl | rfl | rfl
      · exact hfit 0 (by omega)
      · exact hfit 1 (by omega)
      · exact hfit 2 (by omega)
      · exact hfit 3 (by omega)
      · exact hfit 4 (by omega)
      · exact hfit 5 (by omega))
  have hb0 := hide (allocs_below w [.cells #[.string s0, .string s1, .string s2, .string s3, .string s4, .string s5] 25, .cells #[.int .i64 x, .int .i64 y, .int .i64 z] 27, .cells #[.string ⟨#[]⟩, .string ⟨#[]⟩, .string ⟨#[]⟩] 23])
  have K0 := hide (show Blk (allocs w [.cells #[.string s0, .string s1, .string s2, .string s3, .string s4, .string s5] 25, .cells #[.int .i64 x, .int .i64 y, .int .i64 z] 27, .cells #[.string ⟨#[]⟩, .string ⟨#[]⟩, .string ⟨#[]⟩] 23]) (w.heap.size + 0) 25 #[.string s0, .string s1, .string s2, .string s3, .string s4, .string s5] from allocs_at w [.cells #[.string s0, .string s1, .string s2, .string s3, .string s4, .string s5] 25, .cells #[.int .i64 x, .int .i64 y, .int .i64 z] 27, .cells #[.string ⟨#[]⟩, .string ⟨#[]⟩, .string ⟨#[]⟩] 23] 0 rfl)
  have K1 := hide (show Blk (allocs w [.cells #[.string s0, .string s1, .string s2, .string s3, .string s4, .string s5] 25, .cells #[.int .i64 x, .int .i64 y, .int .i64 z] 27, .cells #[.string ⟨#[]⟩, .string ⟨#[]⟩, .string ⟨#[]⟩] 23]) (w.heap.size + 1) 27 #[.int .i64 x, .int .i64 y, .int .i64 z] from allocs_at w [.cells #[.string s0, .string s1, .string s2, .string s3, .string s4, .string s5] 25, .cells #[.int .i64 x, .int .i64 y, .int .i64 z] 27, .cells #[.string ⟨#[]⟩, .string ⟨#[]⟩, .string ⟨#[]⟩] 23] 1 rfl)
  have K2 := hide (show Blk (allocs w [.cells #[.string s0, .string s1, .string s2, .string s3, .string s4, .string s5] 25, .cells #[.int .i64 x, .int .i64 y, .int .i64 z] 27, .cells #[.string ⟨#[]⟩, .string ⟨#[]⟩, .string ⟨#[]⟩] 23]) (w.heap.size + 2) 23 #[.string ⟨#[]⟩, .string ⟨#[]⟩, .string ⟨#[]⟩] from allocs_at w [.cells #[.string s0, .string s1, .string s2, .string s3, .string s4, .string s5] 25, .cells #[.int .i64 x, .int .i64 y, .int .i64 z] 27, .cells #[.string ⟨#[]⟩, .string ⟨#[]⟩, .string ⟨#[]⟩] 23] 2 rfl)
  have HSZ := hide hsz
  have HC := hide hc
  have HST := hide hst
  have HQ := hide hq
  have HS := hide hs
  have HCO := hide hw
  have HW := hide (show (if Co x ∧ Co y ∧ Co z then (0 : Int) else 2) = 0 from if_pos hw)
  clear hsz hc hst hw hq hs hfit b0 b1 b2 b3 b4 b5
  go_enter Tryz.func12, Tryz.ntmps12
  go_wp2_with fail
  refine (tCheck_any _ s0 s1 s2 s3 s4 s5 HSZ.out (HST.out.below hb0.out (Nat.le_refl _))).mono ?_
  rw [HC.out]
  rintro e w1 ⟨rfl, hb1⟩
  have HB1 := hide (hb0.out.trans (Below.mono hb1 hb0.out.size))
  have phz := Blk.below K1.out hb1 (Blk.lt K1.out)
  have pz0 : w1.cell? ⟨w.heap.size + 1, 0, none⟩ = some (.int .i64 x) := (Blk.cell phz 0).trans rfl
  have pz1 : w1.cell? ⟨w.heap.size + 1, 1, none⟩ = some (.int .i64 y) := (Blk.cell phz 1).trans rfl
  have pz2 : w1.cell? ⟨w.heap.size + 1, 2, none⟩ = some (.int .i64 z) := (Blk.cell phz 2).trans rfl
  have HL1 := hide hb1
  clear phz hb1
  go_wp2_with fail
  refine (one_spot _ _ rfl x y z _ 1).mono ?_
  rw [HW.out]
  rintro e w2 ⟨rfl, hb2⟩
  have HL2 := hide (HL1.out.trans (Below.mono hb2 HL1.out.size))
  have HB2 := hide (HB1.out.trans (Below.mono hb2 HB1.out.size))
  clear hb2 pz0 pz1 pz2
  have hsz2 : w.heap.size + 2 < w2.heap.size := Blk.lt (Blk.below K2.out HL2.out (Blk.lt K2.out))
  go_upto_region 8 with (fail)
  have hA0 := (Blk.below K0.out HL2.out (Blk.lt K0.out)).alloc (.cells #[.string ⟨#[]⟩, .string ⟨#[]⟩, .string ⟨#[]⟩] 23)
  have hA1 := (Blk.below K1.out HL2.out (Blk.lt K1.out)).alloc (.cells #[.string ⟨#[]⟩, .string ⟨#[]⟩, .string ⟨#[]⟩] 23)
  have hA2 := (Blk.below K2.out HL2.out (Blk.lt K2.out)).alloc (.cells #[.string ⟨#[]⟩, .string ⟨#[]⟩, .string ⟨#[]⟩] 23)
  have hB3 := HB2.out.alloc HB2.out.size (.cells #[.string ⟨#[]⟩, .string ⟨#[]⟩, .string ⟨#[]⟩] 23)
  have hr3 : (w2.alloc (.cells #[.string ⟨#[]⟩, .string ⟨#[]⟩, .string ⟨#[]⟩] 23)).rowIs w2.heap.size 23 3 (fun _ => .string ⟨#[]⟩) := World.rowIs_alloc w2 #[.string ⟨#[]⟩, .string ⟨#[]⟩, .string ⟨#[]⟩] 23 (fun _ => .string ⟨#[]⟩) (by
    intro i hi
    match i, hi with
    | 0, _ => rfl
    | 1, _ => rfl
    | 2, _ => rfl)
  have hz3 : (w2.alloc (.cells #[.string ⟨#[]⟩, .string ⟨#[]⟩, .string ⟨#[]⟩] 23)).heap.size = w2.heap.size + 1 := by simp
  generalize (w2.alloc (.cells #[.string ⟨#[]⟩, .string ⟨#[]⟩, .string ⟨#[]⟩] 23)) = w3 at *
  have A0 := hide hA0
  have A1 := hide hA1
  have A2 := hide hA2
  have B3 := hide hB3
  have R3 := hide hr3
  have Z3 := hide hz3
  clear hA0 hA2 hB3 hr3 hz3
  have phz := hA1
  have pz0 : w3.cell? ⟨w.heap.size + 1, 0, none⟩ = some (.int .i64 x) := (Blk.cell phz 0).trans rfl
  have pz1 : w3.cell? ⟨w.heap.size + 1, 1, none⟩ = some (.int .i64 y) := (Blk.cell phz 1).trans rfl
  have pz2 : w3.cell? ⟨w.heap.size + 1, 2, none⟩ = some (.int .i64 z) := (Blk.cell phz 2).trans rfl
  clear phz hA1
  go_wp2_with fail
  refine (tcoord_any _ x y z).mono ?_
  rintro e w4 ⟨rfl, hb4⟩
  have HB4 := hide hb4
  clear hb4 pz0 pz1 pz2
  go_wp2_with fail
  go_loopg [28] 3 (fun n iv wr => ∃ j : Nat, iv = .int .i64 (j : Int) ∧ n + j = 3 ∧ wr.rowIs w2.heap.size 23 3 (fun p => if p < j then .string ⟨(RT (mvd p x y z q)).toArray⟩ else .string ⟨#[]⟩) ∧ Below w2.heap.size w3 wr)
  case atStart => exact ⟨0, rfl, rfl, (R3.out.of_block (HB4.out.block _ R3.out.lt)).congr (fun p _ => by simp), HB4.out.mono (by have := Z3.out; omega)⟩
  case round =>
    obtain ⟨j, rfl, hn, hr, hb⟩ := hrel
    have HN := hide hn
    have HR := hide hr
    have HB := hide hb
    have HBw := hide (B3.out.trans (hb.mono (by omega)))
    have hile : j ≤ 3 := by omega
    clear hn hr hb
    by_cases hlt : j < 3
    · have hii : (j : Int) < 3 := by omega
      have hi0 : (0 : Int) ≤ (j : Int) := by omega
      have hci : (#[.int .i64 x, .int .i64 y, .int .i64 z] : Array Value)[j]? = some (.int .i64 (coo j x y z)) := by
        match j, hlt with
        | 0, _ => rfl
        | 1, _ => rfl
        | 2, _ => rfl
      have hidx := idx_int Tryz.underlying56 hlt hci wr
      clear hci
      have hZ0 := Blk.below A0.out HB.out (by omega)
      have hZ1 := Blk.below A1.out HB.out (by omega)
      have t0 : wr.cell? ⟨w.heap.size + 0, 0, none⟩ = some (.string s0) := (Blk.cell hZ0 0).trans rfl
      have t1 : wr.cell? ⟨w.heap.size + 0, 1, none⟩ = some (.string s1) := (Blk.cell hZ0 1).trans rfl
      have t2 : wr.cell? ⟨w.heap.size + 0, 2, none⟩ = some (.string s2) := (Blk.cell hZ0 2).trans rfl
      have t3 : wr.cell? ⟨w.heap.size + 0, 3, none⟩ = some (.string s3) := (Blk.cell hZ0 3).trans rfl
      have t4 : wr.cell? ⟨w.heap.size + 0, 4, none⟩ = some (.string s4) := (Blk.cell hZ0 4).trans rfl
      have t5 : wr.cell? ⟨w.heap.size + 0, 5, none⟩ = some (.string s5) := (Blk.cell hZ0 5).trans rfl
      have p0 : wr.cell? ⟨w.heap.size + 1, 0, none⟩ = some (.int .i64 x) := (Blk.cell hZ1 0).trans rfl
      have p1 : wr.cell? ⟨w.heap.size + 1, 1, none⟩ = some (.int .i64 y) := (Blk.cell hZ1 1).trans rfl
      have p2 : wr.cell? ⟨w.heap.size + 1, 2, none⟩ = some (.int .i64 z) := (Blk.cell hZ1 2).trans rfl
      rw [Nat.add_zero] at t0 t1 t2 t3 t4 t5
      clear hZ0 hZ1
      have SK : ∀ w', Below wr.heap.size wr w' → Below wr.heap.size wr w' ∧ w'.cell? ⟨w.heap.size, 0, none⟩ = some (.string s0) ∧ w'.cell? ⟨w.heap.size, 1, none⟩ = some (.string s1) ∧ w'.cell? ⟨w.heap.size, 2, none⟩ = some (.string s2) ∧ w'.cell? ⟨w.heap.size, 3, none⟩ = some (.string s3) ∧ w'.cell? ⟨w.heap.size, 4, none⟩ = some (.string s4) ∧ w'.cell? ⟨w.heap.size, 5, none⟩ = some (.string s5) ∧ w'.cell? ⟨w.heap.size + 1, 0, none⟩ = some (.int .i64 x) ∧ w'.cell? ⟨w.heap.size + 1, 1, none⟩ = some (.int .i64 y) ∧ w'.cell? ⟨w.heap.size + 1, 2, none⟩ = some (.int .i64 z) := fun w' h => ⟨h, (bcell h _ _ (block_lt_of_cell t0)).trans t0, (bcell h _ _ (block_lt_of_cell t1)).trans t1, (bcell h _ _ (block_lt_of_cell t2)).trans t2, (bcell h _ _ (block_lt_of_cell t3)).trans t3, (bcell h _ _ (block_lt_of_cell t4)).trans t4, (bcell h _ _ (block_lt_of_cell t5)).trans t5, (bcell h _ _ (block_lt_of_cell p0)).trans p0, (bcell h _ _ (block_lt_of_cell p1)).trans p1, (bcell h _ _ (block_lt_of_cell p2)).trans p2⟩
      have HF := hide (fun w => tform_any w j hlt x y z HCO.out.1.cb HCO.out.2.1.cb HCO.out.2.2.cb)
      have HT : Hid (∀ W, Std W → Calls Tryz.prog 46 #[frmV j x y z, .agg #[.string s0, .string s1, .string s2, .string s3, .string s4, .string s5]] W fun e w' => e = .returned (.tuple #[.string ⟨(RT (psum (frm j x y z) q 6)).toArray⟩, .int .i64 0]) ∧ Below W.heap.size W w') := hide (fun W hW => ttimes_any W (frm j x y z) s0 s1 s2 s3 s4 s5 q hm (fun i _ => frm_cb j HCO.out.1.cb HCO.out.2.1.cb HCO.out.2.2.cb i) HQ.out HS.out hW)
      have HCC := hide (coo_cb j HCO.out.1.cb HCO.out.2.1.cb HCO.out.2.2.cb)
      have HA : Hid (∀ W, Std W → Calls Tryz.prog 49 #[.string ⟨(RT ((coo j x y z : Int) : Rat)).toArray⟩, .string ⟨(RT (psum (frm j x y z) q 6)).toArray⟩] W fun e w' => RetRat (mvd j x y z q) e ∧ Below W.heap.size W w') := hide (fun W hW => by
        have h1 := HCC.out.sz
        have h2 := psum_sz (fun i _ => frm_cb j HCO.out.1.cb HCO.out.2.1.cb HCO.out.2.2.cb i) HQ.out 6 (Nat.le_refl _)
        have hsum := sum_lt (m := m * 6 + 6 + 6) h1 h2 (by omega) (by omega)
        exact radd_any W _ _ _ _ rfl rfl (h1.fit (by omega) (by omega)) (h2.fit (by omega) (by omega)) (big_of_pow (cross_lt h1 h2) (by omega)) (big_of_pow (cross_lt h2 h1) (by omega)) (big_of_pow hsum (by omega)) (big_of_le (dens_le h1 h2) (by omega)) hW)
      go_upto_region 11 with (fail)
      go_region_held3 (fun w' => Below wr.heap.size wr w' ∧ w'.cell? ⟨w.heap.size, 0, none⟩ = some (.string s0) ∧ w'.cell? ⟨w.heap.size, 1, none⟩ = some (.string s1) ∧ w'.cell? ⟨w.heap.size, 2, none⟩ = some (.string s2) ∧ w'.cell? ⟨w.heap.size, 3, none⟩ = some (.string s3) ∧ w'.cell? ⟨w.heap.size, 4, none⟩ = some (.string s4) ∧ w'.cell? ⟨w.heap.size, 5, none⟩ = some (.string s5) ∧ w'.cell? ⟨w.heap.size + 1, 0, none⟩ = some (.int .i64 x) ∧ w'.cell? ⟨w.heap.size + 1, 1, none⟩ = some (.int .i64 y) ∧ w'.cell? ⟨w.heap.size + 1, 2, none⟩ = some (.int .i64 z)) (first | exact SK _ (Below.refl _ _).drew | exact SK _ (Below.refl _ _) | exact SK _ (bel_next (by assumption) (by assumption) (Nat.le_refl _)))
        (first
          | (go_at_call 47; refine (HF.out _).mono ?_; rintro e wx ⟨rfl, hbW⟩)
          | (go_at_call 48; refine (tnumbers_any _ s0 s1 s2 s3 s4 s5).mono ?_; rintro e wx ⟨rfl, hbW⟩)
          | (go_at_call 46; refine (HT.out _ (HST.out.below (HBw.out.trans (Below.mono (And.left (by assumption)) HBw.out.size)) (Nat.le_refl _))).mono ?_; rintro e wx ⟨rfl, hbW⟩))
      obtain ⟨hbx, _⟩ : _ ∧ _ := by assumption
      have HX := hide hbx
      clear hbx hidx SK t0 t1 t2 t3 t4 t5 p0 p1 p2
      go_wp2_with fail
      refine (rwholeR _ HCC.out _ (HST.out.below (HBw.out.trans (Below.mono HX.out HBw.out.size)) (Nat.le_refl _))).mono ?_
      rintro e w6 ⟨rfl, hb6⟩
      have HX6 := hide (HX.out.trans (hb6.mono HX.out.size))
      clear hb6
      go_wp2_with fail
      refine (HA.out _ (HST.out.below (HBw.out.trans (Below.mono HX6.out HBw.out.size)) (Nat.le_refl _))).mono ?_
      rintro e w7 ⟨hr, hb7⟩
      rw [RetRat] at hr
      subst hr
      have HX7 := hide (HX6.out.trans (hb7.mono HX6.out.size))
      clear hb7
      have hr1 := HR.out.of_block (HX7.out.block _ HR.out.lt)
      have c0 := hr1.cell hlt
      have f0 := hr1.frozen j
      rw [if_neg (by omega)] at c0
      have HR1 := hide hr1
      have hwr := HB.out.size
      have HB7 := hide (HB.out.trans (HX7.out.mono (by have := HB.out.size; have := Z3.out; omega)))
      clear hr1 hwr
      go_wp2_with fail
      go_roundg (gk - 1)
      case measure => have := HN.out; omega
      case rel =>
        refine ⟨j + 1, by go_num, by have := HN.out; omega, (HR1.out.set j (.string ⟨(RT (mvd j x y z q)).toArray⟩)).congr (fun p hp => ?_), HB7.out.setCell (p := ⟨w2.heap.size, j, none⟩) (Nat.le_refl _) _⟩
        by_cases e1 : p = j
        · simp [e1]
        · by_cases e2 : p < j
          · simp [e1, e2, show p < j + 1 by omega]
          · simp [e1, e2, show ¬ p < j + 1 by omega]
    · have hii : ¬ (j : Int) < 3 := by omega
      have hj6 : j = 3 := by omega
      subst hj6
      have c0 := HR.out.cell (show 0 < 3 by omega)
      have c1 := HR.out.cell (show 1 < 3 by omega)
      have c2 := HR.out.cell (show 2 < 3 by omega)
      simp only [if_pos (show 0 < 3 by omega), if_pos (show 1 < 3 by omega), if_pos (show 2 < 3 by omega)] at c0 c1 c2
      have hZ2 := Blk.below A2.out HB.out (by omega)
      have rhz := hZ2
      have rz0 : wr.cell? ⟨w.heap.size + 2, 0, none⟩ = some (.string ⟨#[]⟩) := (Blk.cell rhz 0).trans rfl
      have rf0 : wr.frozen? ⟨w.heap.size + 2, 0, none⟩ = false := Blk.frozen rhz 0
      have rz1 : wr.cell? ⟨w.heap.size + 2, 1, none⟩ = some (.string ⟨#[]⟩) := (Blk.cell rhz 1).trans rfl
      have rf1 : wr.frozen? ⟨w.heap.size + 2, 1, none⟩ = false := Blk.frozen rhz 1
      have rz2 : wr.cell? ⟨w.heap.size + 2, 2, none⟩ = some (.string ⟨#[]⟩) := (Blk.cell rhz 2).trans rfl
      have rf2 : wr.frozen? ⟨w.heap.size + 2, 2, none⟩ = false := Blk.frozen rhz 2
      clear hZ2 rhz
      go_wp2_with fail
      exact bodyPost_ret (v := .tuple #[.agg #[.string ⟨(RT (mvd 0 x y z q)).toArray⟩, .string ⟨(RT (mvd 1 x y z q)).toArray⟩, .string ⟨(RT (mvd 2 x y z q)).toArray⟩], .int .i64 0]) (by simp [results, Tryz.results12, go_sem, rz0, rz1, rz2]) rfl ⟨rfl, (((HBw.out.setCell (p := ⟨w.heap.size + 2, 0, none⟩) (Nat.le_add_right _ _) _).setCell (p := ⟨w.heap.size + 2, 1, none⟩) (Nat.le_add_right _ _) _).setCell (p := ⟨w.heap.size + 2, 2, none⟩) (Nat.le_add_right _ _) _)⟩
end Go.Proofs.YtdkilkliccljeaaGreatDoor
