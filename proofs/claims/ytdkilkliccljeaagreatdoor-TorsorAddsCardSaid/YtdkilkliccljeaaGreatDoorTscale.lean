/- torsor.Scale. -/
import Derived.Test.YtdkilkliccljeaaGreatDoorTmap
namespace Go.Proofs.YtdkilkliccljeaaGreatDoor
open Go.RowKit MLab

theorem strs_one (w : World) (a : ByteArray) (t : TypeId) : Strs (w.alloc (.cells #[.string a] t)) (.slice (some ⟨w.heap.size, 0, none⟩) 1 1) [a.data.toList] := by
  refine ⟨_, 1, rfl, fun _ => ⟨w.heap.size, 0, rfl, fun i l hi => ?_⟩⟩
  have hb := Blk.new w t #[.string a]
  match i, hi with
  | 0, hi => exact ⟨a, by rw [hb.cell]; rfl, by simpa using hi⟩
  | j + 1, hi => simp at hi

set_option maxRecDepth 100000 in
set_option maxHeartbeats 8000000 in
/-- The multiple of a right torsor that is not great. -/
theorem tscale_ok (w : World) (k t0 t1 t2 t3 t4 t5 : ByteArray) (p : Rat) (q : Nat → Rat) (hs : Std w) (hk : k.data.toList = RT p)
    (hq : t0.data.toList = RT (q 0) ∧ t1.data.toList = RT (q 1) ∧ t2.data.toList = RT (q 2) ∧ t3.data.toList = RT (q 3) ∧ t4.data.toList = RT (q 4) ∧ t5.data.toList = RT (q 5)) (hbd : ∀ i, i < 6 → BndM p (q i)) :
    Calls Tryz.prog 33 #[.string k, .agg #[.string t0, .string t1, .string t2, .string t3, .string t4, .string t5]] w fun e w' => e = .returned (.tuple #[.agg #[.string ⟨(RT (p * q 0)).toArray⟩, .string ⟨(RT (p * q 1)).toArray⟩, .string ⟨(RT (p * q 2)).toArray⟩, .string ⟨(RT (p * q 3)).toArray⟩, .string ⟨(RT (p * q 4)).toArray⟩, .string ⟨(RT (p * q 5)).toArray⟩], .int .i64 0]) ∧ Below w.heap.size w w' := by
  have HS := hide hs
  obtain ⟨b0, b1, b2, b3, b4, b5⟩ := hq
  have fitp : Fit p := (hbd 0 (by omega)).1
  have fit : ∀ i, i < 6 → Fit (q i) := fun i hi => (hbd i hi).2.1
  have zk : ∀ l ∈ [k.data.toList], l.length < 4000000000 := by
    intro l hl
    rw [hk] at hl
    simp only [List.mem_cons, List.not_mem_nil, or_false] at hl
    subst hl
    have := RT_len fitp; omega
  have ck : chkRs [k.data.toList] = 0 := by
    rw [hk]
    exact chkRs_fit (L := [p]) (by
      intro x hx
      simp only [List.mem_cons, List.not_mem_nil, or_false] at hx
      subst hx
      exact fitp)
  have zt : ∀ l ∈ [t0.data.toList, t1.data.toList, t2.data.toList, t3.data.toList, t4.data.toList, t5.data.toList], l.length < 4000000000 := by
    intro l hl
    rw [b0, b1, b2, b3, b4, b5] at hl
    simp only [List.mem_cons, List.not_mem_nil, or_false] at hl
    rcases hl with rfl | rfl | rfl | rfl | rfl | rfl
    · have := RT_len (fit 0 (by omega)); omega
    · have := RT_len (fit 1 (by omega)); omega
    · have := RT_len (fit 2 (by omega)); omega
    · have := RT_len (fit 3 (by omega)); omega
    · have := RT_len (fit 4 (by omega)); omega
    · have := RT_len (fit 5 (by omega)); omega
  have ct : chkRs [t0.data.toList, t1.data.toList, t2.data.toList, t3.data.toList, t4.data.toList, t5.data.toList] = 0 := by
    rw [b0, b1, b2, b3, b4, b5]
    exact chkRs_fit (L := [q 0, q 1, q 2, q 3, q 4, q 5]) (by
      intro x hx
      simp only [List.mem_cons, List.not_mem_nil, or_false] at hx
      rcases hx with rfl | rfl | rfl | rfl | rfl | rfl
      · exact fit 0 (by omega)
      · exact fit 1 (by omega)
      · exact fit 2 (by omega)
      · exact fit 3 (by omega)
      · exact fit 4 (by omega)
      · exact fit 5 (by omega))
  have ZK := hide zk
  have ZT := hide zt
  have CK := hide ck
  have CT := hide ct
  have HBD := hide hbd
  have HK := hide hk
  have B0 := hide b0
  have B1 := hide b1
  have B2 := hide b2
  have B3 := hide b3
  have B4 := hide b4
  have B5 := hide b5
  clear hs zk zt ck ct hbd fit fitp hk b0 b1 b2 b3 b4 b5
  go_enter Tryz.func33, Tryz.ntmps33
  go_upto_region 1 with (fail)
  have hb0 : Below w.heap.size w (((w.alloc (.cells #[.string k] 22)).alloc (.cells #[.string t0, .string t1, .string t2, .string t3, .string t4, .string t5] 25)).alloc (.cells six0 25)) := allocs_below w [(.cells #[.string k] 22), (.cells #[.string t0, .string t1, .string t2, .string t3, .string t4, .string t5] 25), (.cells six0 25)]
  have hk0 : (((w.alloc (.cells #[.string k] 22)).alloc (.cells #[.string t0, .string t1, .string t2, .string t3, .string t4, .string t5] 25)).alloc (.cells six0 25)).heap[w.heap.size + 0]? = some (.cells #[.string k] 22) := allocs_at w [(.cells #[.string k] 22), (.cells #[.string t0, .string t1, .string t2, .string t3, .string t4, .string t5] 25), (.cells six0 25)] 0 rfl
  have hk1 : (((w.alloc (.cells #[.string k] 22)).alloc (.cells #[.string t0, .string t1, .string t2, .string t3, .string t4, .string t5] 25)).alloc (.cells six0 25)).heap[w.heap.size + 1]? = some (.cells #[.string t0, .string t1, .string t2, .string t3, .string t4, .string t5] 25) := allocs_at w [(.cells #[.string k] 22), (.cells #[.string t0, .string t1, .string t2, .string t3, .string t4, .string t5] 25), (.cells six0 25)] 1 rfl
  have hk2 : (((w.alloc (.cells #[.string k] 22)).alloc (.cells #[.string t0, .string t1, .string t2, .string t3, .string t4, .string t5] 25)).alloc (.cells six0 25)).heap[w.heap.size + 2]? = some (.cells six0 25) := allocs_at w [(.cells #[.string k] 22), (.cells #[.string t0, .string t1, .string t2, .string t3, .string t4, .string t5] 25), (.cells six0 25)] 2 rfl
  generalize (((w.alloc (.cells #[.string k] 22)).alloc (.cells #[.string t0, .string t1, .string t2, .string t3, .string t4, .string t5] 25)).alloc (.cells six0 25)) = w0 at *
  have K0 := hide (show Blk w0 (w.heap.size + 0) 22 #[.string k] from hk0)
  have K1 := hide (show Blk w0 (w.heap.size + 1) 25 #[.string t0, .string t1, .string t2, .string t3, .string t4, .string t5] from hk1)
  have K2 := hide (show Blk w0 (w.heap.size + 2) 25 six0 from hk2)
  have HB0 := hide hb0
  have k0 : w0.cell? ⟨w.heap.size, 0, none⟩ = some (.string k) := (Blk.cell K0.out 0).trans rfl
  clear hb0 hk0 hk1 hk2
  go_wp2_with fail
  have hl1 := HB0.out.alloc HB0.out.size (.cells #[.string k] 22)
  refine (canonical_any _ _ _ (strs_one w0 k _) (by simp) ZK.out (std_next HS.out hl1)).mono ?_
  rw [CK.out]
  rintro e w1 ⟨rfl, hb1⟩
  have HD1 := hide ((allocs_below w0 [_]).trans (hb1.mono (by simp)))
  have HB1 := hide (HB0.out.trans (HD1.out.mono HB0.out.size))
  clear hl1 hb1 k0
  have hq1 := Blk.below K1.out HD1.out (Blk.lt K1.out)
  have y0 : w1.cell? ⟨w.heap.size + 1, 0, none⟩ = some (.string t0) := (Blk.cell hq1 0).trans rfl
  have y1 : w1.cell? ⟨w.heap.size + 1, 1, none⟩ = some (.string t1) := (Blk.cell hq1 1).trans rfl
  have y2 : w1.cell? ⟨w.heap.size + 1, 2, none⟩ = some (.string t2) := (Blk.cell hq1 2).trans rfl
  have y3 : w1.cell? ⟨w.heap.size + 1, 3, none⟩ = some (.string t3) := (Blk.cell hq1 3).trans rfl
  have y4 : w1.cell? ⟨w.heap.size + 1, 4, none⟩ = some (.string t4) := (Blk.cell hq1 4).trans rfl
  have y5 : w1.cell? ⟨w.heap.size + 1, 5, none⟩ = some (.string t5) := (Blk.cell hq1 5).trans rfl
  go_wp2_with fail
  refine (tCheck_any _ t0 t1 t2 t3 t4 t5 ZT.out (std_next HS.out HB1.out)).mono ?_
  rw [CT.out]
  rintro e w2 ⟨rfl, hb2⟩
  have HD2 := hide (HD1.out.trans (hb2.mono HD1.out.size))
  have HB2 := hide (HB0.out.trans (HD2.out.mono HB0.out.size))
  clear hb2 hq1 y0 y1 y2 y3 y4 y5
  have hq2 := Blk.below K1.out HD2.out (Blk.lt K1.out)
  have x0 : w2.cell? ⟨w.heap.size + 1, 0, none⟩ = some (.string t0) := (Blk.cell hq2 0).trans rfl
  have x1 : w2.cell? ⟨w.heap.size + 1, 1, none⟩ = some (.string t1) := (Blk.cell hq2 1).trans rfl
  have x2 : w2.cell? ⟨w.heap.size + 1, 2, none⟩ = some (.string t2) := (Blk.cell hq2 2).trans rfl
  have x3 : w2.cell? ⟨w.heap.size + 1, 3, none⟩ = some (.string t3) := (Blk.cell hq2 3).trans rfl
  have x4 : w2.cell? ⟨w.heap.size + 1, 4, none⟩ = some (.string t4) := (Blk.cell hq2 4).trans rfl
  have x5 : w2.cell? ⟨w.heap.size + 1, 5, none⟩ = some (.string t5) := (Blk.cell hq2 5).trans rfl
  go_wp2_with fail
  refine (tnumbers_any _ t0 t1 t2 t3 t4 t5).mono ?_
  rintro e w3 ⟨rfl, hb3⟩
  have HD3 := hide (HD2.out.trans (hb3.mono HD2.out.size))
  have HB3 := hide (HB0.out.trans (HD3.out.mono HB0.out.size))
  clear hb3 hq2 x0 x1 x2 x3 x4 x5
  go_upto_region 8 with (fail)
  have h9 := Blk.new w3 87 #[.string t0, .string t1, .string t2, .string t3, .string t4, .string t5]
  have hb4 := allocs_below w3 [.cells #[.string t0, .string t1, .string t2, .string t3, .string t4, .string t5] 87]
  have hg0 := Blk.alloc (Blk.below K0.out HD3.out (Blk.lt K0.out)) (.cells #[.string t0, .string t1, .string t2, .string t3, .string t4, .string t5] 87)
  have hz := Blk.alloc (Blk.below K2.out HD3.out (Blk.lt K2.out)) (.cells #[.string t0, .string t1, .string t2, .string t3, .string t4, .string t5] 87)
  obtain ⟨wc, hwc⟩ : ∃ wc, w3.alloc (.cells #[.string t0, .string t1, .string t2, .string t3, .string t4, .string t5] 87) = wc := ⟨_, rfl⟩
  have hb5 : Below w3.heap.size w3 (w3.alloc (.cells #[.string t0, .string t1, .string t2, .string t3, .string t4, .string t5] 87)) := hb4
  rw [hwc] at h9 hb5 hg0 hz ⊢
  clear hb4 hwc
  have H9 := hide h9
  have HG := hide hg0
  have HZ := hide hz
  have HC := hide (HB3.out.trans (hb5.mono HB3.out.size))
  clear h9 hg0 hz hb5
  have HM := hide (mapped_any wc 78 w.heap.size w3.heap.size (fun i => ⟨(RT (p * q i)).toArray⟩) (enters_of Tryz.func78 (by kernel_rfl) rfl) (fun i W hi hW => by
    have g9 := Blk.below H9.out hW (Blk.lt H9.out)
    have g0 := Blk.below HG.out hW (Blk.lt HG.out)
    have hst := std_next HS.out (HC.out.trans (hW.mono HC.out.size))
    match i, hi with
    | 0, _ => exact tscale1_any W 0 w.heap.size w3.heap.size k t0 p (q 0) (by omega) ((Blk.cell g0 0).trans rfl) ((Blk.cell g9 0).trans rfl) HK.out B0.out (HBD.out 0 (by omega)) hst
    | 1, _ => exact tscale1_any W 1 w.heap.size w3.heap.size k t1 p (q 1) (by omega) ((Blk.cell g0 0).trans rfl) ((Blk.cell g9 1).trans rfl) HK.out B1.out (HBD.out 1 (by omega)) hst
    | 2, _ => exact tscale1_any W 2 w.heap.size w3.heap.size k t2 p (q 2) (by omega) ((Blk.cell g0 0).trans rfl) ((Blk.cell g9 2).trans rfl) HK.out B2.out (HBD.out 2 (by omega)) hst
    | 3, _ => exact tscale1_any W 3 w.heap.size w3.heap.size k t3 p (q 3) (by omega) ((Blk.cell g0 0).trans rfl) ((Blk.cell g9 3).trans rfl) HK.out B3.out (HBD.out 3 (by omega)) hst
    | 4, _ => exact tscale1_any W 4 w.heap.size w3.heap.size k t4 p (q 4) (by omega) ((Blk.cell g0 0).trans rfl) ((Blk.cell g9 4).trans rfl) HK.out B4.out (HBD.out 4 (by omega)) hst
    | 5, _ => exact tscale1_any W 5 w.heap.size w3.heap.size k t5 p (q 5) (by omega) ((Blk.cell g0 0).trans rfl) ((Blk.cell g9 5).trans rfl) HK.out B5.out (HBD.out 5 (by omega)) hst))
  go_wp2_with fail
  refine HM.out.mono ?_
  rintro e w5 ⟨rfl, hb5⟩
  have hz5 := Blk.below HZ.out hb5 (Blk.lt HZ.out)
  have z0 : w5.cell? ⟨w.heap.size + 2, 0, none⟩ = some (.string ⟨#[]⟩) := (Blk.cell hz5 0).trans rfl
  have z1 : w5.cell? ⟨w.heap.size + 2, 1, none⟩ = some (.string ⟨#[]⟩) := (Blk.cell hz5 1).trans rfl
  have z2 : w5.cell? ⟨w.heap.size + 2, 2, none⟩ = some (.string ⟨#[]⟩) := (Blk.cell hz5 2).trans rfl
  have z3 : w5.cell? ⟨w.heap.size + 2, 3, none⟩ = some (.string ⟨#[]⟩) := (Blk.cell hz5 3).trans rfl
  have z4 : w5.cell? ⟨w.heap.size + 2, 4, none⟩ = some (.string ⟨#[]⟩) := (Blk.cell hz5 4).trans rfl
  have z5 : w5.cell? ⟨w.heap.size + 2, 5, none⟩ = some (.string ⟨#[]⟩) := (Blk.cell hz5 5).trans rfl
  have f0 := Blk.frozen hz5 0
  have f1 := Blk.frozen hz5 1
  have f2 := Blk.frozen hz5 2
  have f3 := Blk.frozen hz5 3
  have f4 := Blk.frozen hz5 4
  have f5 := Blk.frozen hz5 5
  have HB5 := hide (HC.out.trans (hb5.mono HC.out.size))
  clear hz5 hb5
  go_wp2_with fail
  exact bodyPost_ret (v := .tuple #[.agg #[.string ⟨(RT (p * q 0)).toArray⟩, .string ⟨(RT (p * q 1)).toArray⟩, .string ⟨(RT (p * q 2)).toArray⟩, .string ⟨(RT (p * q 3)).toArray⟩, .string ⟨(RT (p * q 4)).toArray⟩, .string ⟨(RT (p * q 5)).toArray⟩], .int .i64 0]) (by simp [results, Tryz.results33, go_sem, z0, z1, z2, z3, z4, z5]) rfl ⟨rfl, ((((((HB5.out.setCell (p := ⟨w.heap.size + 2, 0, none⟩) (Nat.le_add_right _ _) _).setCell (p := ⟨w.heap.size + 2, 1, none⟩) (Nat.le_add_right _ _) _).setCell (p := ⟨w.heap.size + 2, 2, none⟩) (Nat.le_add_right _ _) _).setCell (p := ⟨w.heap.size + 2, 3, none⟩) (Nat.le_add_right _ _) _).setCell (p := ⟨w.heap.size + 2, 4, none⟩) (Nat.le_add_right _ _) _).setCell (p := ⟨w.heap.size + 2, 5, none⟩) (Nat.le_add_right _ _) _)⟩
end Go.Proofs.YtdkilkliccljeaaGreatDoor
