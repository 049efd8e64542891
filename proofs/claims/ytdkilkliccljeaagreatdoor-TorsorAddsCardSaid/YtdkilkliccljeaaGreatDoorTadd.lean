/- torsor.Add. -/
import Derived.Test.YtdkilkliccljeaaGreatDoorTmap
import Derived.Test.YtdkilkliccljeaaGreatDoorInv
namespace Go.Proofs.YtdkilkliccljeaaGreatDoor
open Go.RowKit MLab

theorem nb1 (w : World) (a : Obj) : Below w.heap.size w (w.alloc a) := allocs_below w [a]
theorem nb2 (w : World) (a b : Obj) : Below w.heap.size w ((w.alloc a).alloc b) := allocs_below w [a, b]
theorem nb3 (w : World) (a b c : Obj) : Below w.heap.size w (((w.alloc a).alloc b).alloc c) := allocs_below w [a, b, c]
theorem nb4 (w : World) (a b c d : Obj) : Below w.heap.size w ((((w.alloc a).alloc b).alloc c).alloc d) := allocs_below w [a, b, c, d]
theorem nb5 (w : World) (a b c d e : Obj) : Below w.heap.size w (((((w.alloc a).alloc b).alloc c).alloc d).alloc e) := allocs_below w [a, b, c, d, e]
theorem nb6 (w : World) (a b c d e f : Obj) : Below w.heap.size w ((((((w.alloc a).alloc b).alloc c).alloc d).alloc e).alloc f) := allocs_below w [a, b, c, d, e, f]

set_option maxRecDepth 100000 in
set_option maxHeartbeats 60000000 in
/-- The sum of two right torsors that are not great. -/
theorem tadd_ok (w : World) (s0 s1 s2 s3 s4 s5 t0 t1 t2 t3 t4 t5 : ByteArray) (p q : Nat → Rat) (hs : Std w)
    (hp : s0.data.toList = RT (p 0) ∧ s1.data.toList = RT (p 1) ∧ s2.data.toList = RT (p 2) ∧ s3.data.toList = RT (p 3) ∧ s4.data.toList = RT (p 4) ∧ s5.data.toList = RT (p 5)) (hq : t0.data.toList = RT (q 0) ∧ t1.data.toList = RT (q 1) ∧ t2.data.toList = RT (q 2) ∧ t3.data.toList = RT (q 3) ∧ t4.data.toList = RT (q 4) ∧ t5.data.toList = RT (q 5))
    (hbd : ∀ i, i < 6 → Bnd (p i) (q i)) :
    Calls Tryz.prog 31 #[.agg #[.string s0, .string s1, .string s2, .string s3, .string s4, .string s5], .agg #[.string t0, .string t1, .string t2, .string t3, .string t4, .string t5]] w fun e w' => e = .returned (.tuple #[.agg #[.string ⟨(RT (p 0 + q 0)).toArray⟩, .string ⟨(RT (p 1 + q 1)).toArray⟩, .string ⟨(RT (p 2 + q 2)).toArray⟩, .string ⟨(RT (p 3 + q 3)).toArray⟩, .string ⟨(RT (p 4 + q 4)).toArray⟩, .string ⟨(RT (p 5 + q 5)).toArray⟩], .int .i64 0]) ∧ Below w.heap.size w w' := by
  have HS := hide hs
  obtain ⟨a0, a1, a2, a3, a4, a5⟩ := hp
  obtain ⟨b0, b1, b2, b3, b4, b5⟩ := hq
  have fit : ∀ i, i < 6 → Fit (p i) ∧ Fit (q i) := fun i hi => ⟨(hbd i hi).1, (hbd i hi).2.1⟩
  have zs : ∀ l ∈ [s0.data.toList, s1.data.toList, s2.data.toList, s3.data.toList, s4.data.toList, s5.data.toList], l.length < 4000000000 := by
    intro l hl
    rw [a0, a1, a2, a3, a4, a5] at hl
    simp only [List.mem_cons, List.not_mem_nil, or_false] at hl
    rcases hl with rfl | rfl | rfl | rfl | rfl | rfl
    · have := RT_len (fit 0 (by omega)).1; omega
    · have := RT_len (fit 1 (by omega)).1; omega
    · have := RT_len (fit 2 (by omega)).1; omega
    · have := RT_len (fit 3 (by omega)).1; omega
    · have := RT_len (fit 4 (by omega)).1; omega
    · have := RT_len (fit 5 (by omega)).1; omega
  have zt : ∀ l ∈ [t0.data.toList, t1.data.toList, t2.data.toList, t3.data.toList, t4.data.toList, t5.data.toList], l.length < 4000000000 := by
    intro l hl
    rw [b0, b1, b2, b3, b4, b5] at hl
    simp only [List.mem_cons, List.not_mem_nil, or_false] at hl
    rcases hl with rfl | rfl | rfl | rfl | rfl | rfl
    · have := RT_len (fit 0 (by omega)).2; omega
    · have := RT_len (fit 1 (by omega)).2; omega
    · have := RT_len (fit 2 (by omega)).2; omega
    · have := RT_len (fit 3 (by omega)).2; omega
    · have := RT_len (fit 4 (by omega)).2; omega
    · have := RT_len (fit 5 (by omega)).2; omega
  have cs : chkRs [s0.data.toList, s1.data.toList, s2.data.toList, s3.data.toList, s4.data.toList, s5.data.toList] = 0 := by
    rw [a0, a1, a2, a3, a4, a5]
    exact chkRs_fit (L := [p 0, p 1, p 2, p 3, p 4, p 5]) (by
      intro x hx
      simp only [List.mem_cons, List.not_mem_nil, or_false] at hx
      rcases hx with rfl | rfl | rfl | rfl | rfl | rfl
      · exact (fit 0 (by omega)).1
      · exact (fit 1 (by omega)).1
      · exact (fit 2 (by omega)).1
      · exact (fit 3 (by omega)).1
      · exact (fit 4 (by omega)).1
      · exact (fit 5 (by omega)).1)
  have ct : chkRs [t0.data.toList, t1.data.toList, t2.data.toList, t3.data.toList, t4.data.toList, t5.data.toList] = 0 := by
    rw [b0, b1, b2, b3, b4, b5]
    exact chkRs_fit (L := [q 0, q 1, q 2, q 3, q 4, q 5]) (by
      intro x hx
      simp only [List.mem_cons, List.not_mem_nil, or_false] at hx
      rcases hx with rfl | rfl | rfl | rfl | rfl | rfl
      · exact (fit 0 (by omega)).2
      · exact (fit 1 (by omega)).2
      · exact (fit 2 (by omega)).2
      · exact (fit 3 (by omega)).2
      · exact (fit 4 (by omega)).2
      · exact (fit 5 (by omega)).2)
  have ZS := hide zs
  have ZT := hide zt
  have CS := hide cs
  have CT := hide ct
  have HBD := hide hbd
  have A0 := hide a0
  have A1 := hide a1
  have A2 := hide a2
  have A3 := hide a3
  have A4 := hide a4
  have A5 := hide a5
  have B0 := hide b0
  have B1 := hide b1
  have B2 := hide b2
  have B3 := hide b3
  have B4 := hide b4
  have B5 := hide b5
  clear hs zs zt cs ct hbd fit a0 b0 a1 b1 a2 b2 a3 b3 a4 b4 a5 b5
  go_enter Tryz.func31, Tryz.ntmps31
  go_wp2_with fail
  have hb0 : Below w.heap.size w ((((w.alloc (.cells #[.string s0, .string s1, .string s2, .string s3, .string s4, .string s5] 25)).alloc (.cells #[.string t0, .string t1, .string t2, .string t3, .string t4, .string t5] 25)).alloc (.cells six0 25)).alloc (.cells #[.string s0, .string s1, .string s2, .string s3, .string s4, .string s5, .string t0, .string t1, .string t2, .string t3, .string t4, .string t5] 25)) := allocs_below w [(.cells #[.string s0, .string s1, .string s2, .string s3, .string s4, .string s5] 25), (.cells #[.string t0, .string t1, .string t2, .string t3, .string t4, .string t5] 25), (.cells six0 25), (.cells #[.string s0, .string s1, .string s2, .string s3, .string s4, .string s5, .string t0, .string t1, .string t2, .string t3, .string t4, .string t5] 25)]
  have hk0 : ((((w.alloc (.cells #[.string s0, .string s1, .string s2, .string s3, .string s4, .string s5] 25)).alloc (.cells #[.string t0, .string t1, .string t2, .string t3, .string t4, .string t5] 25)).alloc (.cells six0 25)).alloc (.cells #[.string s0, .string s1, .string s2, .string s3, .string s4, .string s5, .string t0, .string t1, .string t2, .string t3, .string t4, .string t5] 25)).heap[w.heap.size + 0]? = some (.cells #[.string s0, .string s1, .string s2, .string s3, .string s4, .string s5] 25) := allocs_at w [(.cells #[.string s0, .string s1, .string s2, .string s3, .string s4, .string s5] 25), (.cells #[.string t0, .string t1, .string t2, .string t3, .string t4, .string t5] 25), (.cells six0 25), (.cells #[.string s0, .string s1, .string s2, .string s3, .string s4, .string s5, .string t0, .string t1, .string t2, .string t3, .string t4, .string t5] 25)] 0 rfl
  have hk1 : ((((w.alloc (.cells #[.string s0, .string s1, .string s2, .string s3, .string s4, .string s5] 25)).alloc (.cells #[.string t0, .string t1, .string t2, .string t3, .string t4, .string t5] 25)).alloc (.cells six0 25)).alloc (.cells #[.string s0, .string s1, .string s2, .string s3, .string s4, .string s5, .string t0, .string t1, .string t2, .string t3, .string t4, .string t5] 25)).heap[w.heap.size + 1]? = some (.cells #[.string t0, .string t1, .string t2, .string t3, .string t4, .string t5] 25) := allocs_at w [(.cells #[.string s0, .string s1, .string s2, .string s3, .string s4, .string s5] 25), (.cells #[.string t0, .string t1, .string t2, .string t3, .string t4, .string t5] 25), (.cells six0 25), (.cells #[.string s0, .string s1, .string s2, .string s3, .string s4, .string s5, .string t0, .string t1, .string t2, .string t3, .string t4, .string t5] 25)] 1 rfl
  have hk2 : ((((w.alloc (.cells #[.string s0, .string s1, .string s2, .string s3, .string s4, .string s5] 25)).alloc (.cells #[.string t0, .string t1, .string t2, .string t3, .string t4, .string t5] 25)).alloc (.cells six0 25)).alloc (.cells #[.string s0, .string s1, .string s2, .string s3, .string s4, .string s5, .string t0, .string t1, .string t2, .string t3, .string t4, .string t5] 25)).heap[w.heap.size + 2]? = some (.cells six0 25) := allocs_at w [(.cells #[.string s0, .string s1, .string s2, .string s3, .string s4, .string s5] 25), (.cells #[.string t0, .string t1, .string t2, .string t3, .string t4, .string t5] 25), (.cells six0 25), (.cells #[.string s0, .string s1, .string s2, .string s3, .string s4, .string s5, .string t0, .string t1, .string t2, .string t3, .string t4, .string t5] 25)] 2 rfl
  have hk3 : ((((w.alloc (.cells #[.string s0, .string s1, .string s2, .string s3, .string s4, .string s5] 25)).alloc (.cells #[.string t0, .string t1, .string t2, .string t3, .string t4, .string t5] 25)).alloc (.cells six0 25)).alloc (.cells #[.string s0, .string s1, .string s2, .string s3, .string s4, .string s5, .string t0, .string t1, .string t2, .string t3, .string t4, .string t5] 25)).heap[w.heap.size + 3]? = some (.cells #[.string s0, .string s1, .string s2, .string s3, .string s4, .string s5, .string t0, .string t1, .string t2, .string t3, .string t4, .string t5] 25) := allocs_at w [(.cells #[.string s0, .string s1, .string s2, .string s3, .string s4, .string s5] 25), (.cells #[.string t0, .string t1, .string t2, .string t3, .string t4, .string t5] 25), (.cells six0 25), (.cells #[.string s0, .string s1, .string s2, .string s3, .string s4, .string s5, .string t0, .string t1, .string t2, .string t3, .string t4, .string t5] 25)] 3 rfl
  generalize ((((w.alloc (.cells #[.string s0, .string s1, .string s2, .string s3, .string s4, .string s5] 25)).alloc (.cells #[.string t0, .string t1, .string t2, .string t3, .string t4, .string t5] 25)).alloc (.cells six0 25)).alloc (.cells #[.string s0, .string s1, .string s2, .string s3, .string s4, .string s5, .string t0, .string t1, .string t2, .string t3, .string t4, .string t5] 25)) = w0 at *
  have K0 := hide (show Blk w0 (w.heap.size + 0) 25 #[.string s0, .string s1, .string s2, .string s3, .string s4, .string s5] from hk0)
  have K1 := hide (show Blk w0 (w.heap.size + 1) 25 #[.string t0, .string t1, .string t2, .string t3, .string t4, .string t5] from hk1)
  have K2 := hide (show Blk w0 (w.heap.size + 2) 25 six0 from hk2)
  have K3 := hide (show Blk w0 (w.heap.size + 3) 25 #[.string s0, .string s1, .string s2, .string s3, .string s4, .string s5, .string t0, .string t1, .string t2, .string t3, .string t4, .string t5] from hk3)
  have HB0 := hide hb0
  clear hb0 hk0 hk1 hk2 hk3
  go_loopg [15] 2 (fun q iv wr => ∃ j : Nat, iv = .int .i64 (j : Int) ∧ q + j = 2 ∧ Below w0.heap.size w0 wr)
  case atStart => exact ⟨0, rfl, rfl, Below.refl _ _⟩
  case round =>
    obtain ⟨j, rfl, hq, hb⟩ := hrel
    have HQ := hide hq
    have HB := hide hb
    have HBw := hide (HB0.out.trans (hb.mono HB0.out.size))
    have hj : j = 0 ∨ j = 1 ∨ j = 2 := by omega
    clear hq hb
    rcases hj with rfl | rfl | rfl
    · have hl := Blk.below K3.out HB.out (Blk.lt K3.out)
      have k0 : wr.cell? ⟨w.heap.size + 3, 0, none⟩ = some (.string s0) := (Blk.cell hl 0).trans rfl
      have k1 : wr.cell? ⟨w.heap.size + 3, 1, none⟩ = some (.string s1) := (Blk.cell hl 1).trans rfl
      have k2 : wr.cell? ⟨w.heap.size + 3, 2, none⟩ = some (.string s2) := (Blk.cell hl 2).trans rfl
      have k3 : wr.cell? ⟨w.heap.size + 3, 3, none⟩ = some (.string s3) := (Blk.cell hl 3).trans rfl
      have k4 : wr.cell? ⟨w.heap.size + 3, 4, none⟩ = some (.string s4) := (Blk.cell hl 4).trans rfl
      have k5 : wr.cell? ⟨w.heap.size + 3, 5, none⟩ = some (.string s5) := (Blk.cell hl 5).trans rfl
      have HA := hide (HBw.out.alloc HBw.out.size (.cells #[.string s0, .string s1, .string s2, .string s3, .string s4, .string s5] 25))
      clear hl
      go_wp2_with fail
      refine (tCheck_any _ s0 s1 s2 s3 s4 s5 ZS.out (std_next HS.out HA.out)).mono ?_
      rw [CS.out]
      rintro e w1 ⟨rfl, hb1⟩
      have HB1 := hide (HB.out.trans (((nb1 wr _).trans (hb1.mono (by simp))).mono HB.out.size))
      clear hb1 k0 k1 k2 k3 k4 k5
      go_wp2_with fail
      go_roundg 1
      case measure => have := HQ.out; omega
      case rel => exact ⟨1, rfl, rfl, HB1.out⟩
    · have hl := Blk.below K3.out HB.out (Blk.lt K3.out)
      have k0 : wr.cell? ⟨w.heap.size + 3, 6, none⟩ = some (.string t0) := (Blk.cell hl 6).trans rfl
      have k1 : wr.cell? ⟨w.heap.size + 3, 7, none⟩ = some (.string t1) := (Blk.cell hl 7).trans rfl
      have k2 : wr.cell? ⟨w.heap.size + 3, 8, none⟩ = some (.string t2) := (Blk.cell hl 8).trans rfl
      have k3 : wr.cell? ⟨w.heap.size + 3, 9, none⟩ = some (.string t3) := (Blk.cell hl 9).trans rfl
      have k4 : wr.cell? ⟨w.heap.size + 3, 10, none⟩ = some (.string t4) := (Blk.cell hl 10).trans rfl
      have k5 : wr.cell? ⟨w.heap.size + 3, 11, none⟩ = some (.string t5) := (Blk.cell hl 11).trans rfl
      have HA := hide (HBw.out.alloc HBw.out.size (.cells #[.string t0, .string t1, .string t2, .string t3, .string t4, .string t5] 25))
      clear hl
      go_wp2_with fail
      refine (tCheck_any _ t0 t1 t2 t3 t4 t5 ZT.out (std_next HS.out HA.out)).mono ?_
      rw [CT.out]
      rintro e w1 ⟨rfl, hb1⟩
      have HB1 := hide (HB.out.trans (((nb1 wr _).trans (hb1.mono (by simp))).mono HB.out.size))
      clear hb1 k0 k1 k2 k3 k4 k5
      go_wp2_with fail
      go_roundg 0
      case measure => have := HQ.out; omega
      case rel => exact ⟨2, rfl, rfl, HB1.out⟩
    · have h2 : ¬ ((2 : Nat) : Int) < 2 := by omega
      have hs1 := Blk.below K0.out HB.out (Blk.lt K0.out)
      have ht1 := Blk.below K1.out HB.out (Blk.lt K1.out)
      have x0 : wr.cell? ⟨w.heap.size, 0, none⟩ = some (.string s0) := (Blk.cell hs1 0).trans rfl
      have x1 : wr.cell? ⟨w.heap.size, 1, none⟩ = some (.string s1) := (Blk.cell hs1 1).trans rfl
      have x2 : wr.cell? ⟨w.heap.size, 2, none⟩ = some (.string s2) := (Blk.cell hs1 2).trans rfl
      have x3 : wr.cell? ⟨w.heap.size, 3, none⟩ = some (.string s3) := (Blk.cell hs1 3).trans rfl
      have x4 : wr.cell? ⟨w.heap.size, 4, none⟩ = some (.string s4) := (Blk.cell hs1 4).trans rfl
      have x5 : wr.cell? ⟨w.heap.size, 5, none⟩ = some (.string s5) := (Blk.cell hs1 5).trans rfl
      have y0 : wr.cell? ⟨w.heap.size + 1, 0, none⟩ = some (.string t0) := (Blk.cell ht1 0).trans rfl
      have y1 : wr.cell? ⟨w.heap.size + 1, 1, none⟩ = some (.string t1) := (Blk.cell ht1 1).trans rfl
      have y2 : wr.cell? ⟨w.heap.size + 1, 2, none⟩ = some (.string t2) := (Blk.cell ht1 2).trans rfl
      have y3 : wr.cell? ⟨w.heap.size + 1, 3, none⟩ = some (.string t3) := (Blk.cell ht1 3).trans rfl
      have y4 : wr.cell? ⟨w.heap.size + 1, 4, none⟩ = some (.string t4) := (Blk.cell ht1 4).trans rfl
      have y5 : wr.cell? ⟨w.heap.size + 1, 5, none⟩ = some (.string t5) := (Blk.cell ht1 5).trans rfl
      clear hs1 ht1
      go_upto_region 8 with (fail)
      go_cut [9, 10] (fun v9 v10 wc => ∃ b9 b10, v9 = .pointer (some ⟨b9, 0, none⟩) ∧ v10 = .pointer (some ⟨b10, 0, none⟩) ∧ Blk wc b9 87 #[.string s0, .string s1, .string s2, .string s3, .string s4, .string s5] ∧ Blk wc b10 87 #[.string t0, .string t1, .string t2, .string t3, .string t4, .string t5] ∧ Below wr.heap.size wr wc)
      case first =>
        as_aux_lemma =>
          have HX : ∀ w', Below wr.heap.size wr w' → w'.cell? ⟨w.heap.size, 0, none⟩ = some (.string s0) ∧ w'.cell? ⟨w.heap.size, 1, none⟩ = some (.string s1) ∧ w'.cell? ⟨w.heap.size, 2, none⟩ = some (.string s2) ∧ w'.cell? ⟨w.heap.size, 3, none⟩ = some (.string s3) ∧ w'.cell? ⟨w.heap.size, 4, none⟩ = some (.string s4) ∧ w'.cell? ⟨w.heap.size, 5, none⟩ = some (.string s5) ∧ w'.cell? ⟨w.heap.size + 1, 0, none⟩ = some (.string t0) ∧ w'.cell? ⟨w.heap.size + 1, 1, none⟩ = some (.string t1) ∧ w'.cell? ⟨w.heap.size + 1, 2, none⟩ = some (.string t2) ∧ w'.cell? ⟨w.heap.size + 1, 3, none⟩ = some (.string t3) ∧ w'.cell? ⟨w.heap.size + 1, 4, none⟩ = some (.string t4) ∧ w'.cell? ⟨w.heap.size + 1, 5, none⟩ = some (.string t5) := fun w' h => ⟨(bcell h _ _ (block_lt_of_cell x0)).trans x0, (bcell h _ _ (block_lt_of_cell x1)).trans x1, (bcell h _ _ (block_lt_of_cell x2)).trans x2, (bcell h _ _ (block_lt_of_cell x3)).trans x3, (bcell h _ _ (block_lt_of_cell x4)).trans x4, (bcell h _ _ (block_lt_of_cell x5)).trans x5, (bcell h _ _ (block_lt_of_cell y0)).trans y0, (bcell h _ _ (block_lt_of_cell y1)).trans y1, (bcell h _ _ (block_lt_of_cell y2)).trans y2, (bcell h _ _ (block_lt_of_cell y3)).trans y3, (bcell h _ _ (block_lt_of_cell y4)).trans y4, (bcell h _ _ (block_lt_of_cell y5)).trans y5⟩
          clear x0 y0 x1 y1 x2 y2 x3 y3 x4 y4 x5 y5
          refine wp_region_inv (by kernel_rfl) (I := fun l a w' => ∃ (l0 l1 l2 l3 l4 l5 l6 l7 : Bool) (b9 b10 : Nat), l = #[l0, l1, l2, l3, l4, l5, l6, l7] ∧ a = ({ tmps := #[(.agg #[.string s0, .string s1, .string s2, .string s3, .string s4, .string s5]), (.agg #[.string t0, .string t1, .string t2, .string t3, .string t4, .string t5]), .pointer (some ⟨w.heap.size, 0, none⟩), .pointer (some ⟨w.heap.size + 1, 0, none⟩), .pointer (some ⟨w.heap.size + 1 + 1, 0, none⟩), u5, undef, u7, u8, (if l4 = true then .pointer (some ⟨b9, 0, none⟩) else undef), (if l5 = true then .pointer (some ⟨b10, 0, none⟩) else undef), (.agg #[.string s0, .string s1, .string s2, .string s3, .string s4, .string s5]), (.agg #[.string t0, .string t1, .string t2, .string t3, .string t4, .string t5]), .slice (some ⟨w.heap.size + 1 + 1 + 1, 0, none⟩) 2 2, .int .i64 2, .int .i64 ((2 : Nat) : Int), .bool false, u17, u18, u19, u20, u21, u22, u23, u24, u25, (if l0 = true then .agg #[.string s0, .string s1, .string s2, .string s3, .string s4, .string s5] else undef), (if l1 = true then .agg #[.string s0, .string s1, .string s2, .string s3, .string s4, .string s5] else undef), (if l2 = true then .agg #[.string t0, .string t1, .string t2, .string t3, .string t4, .string t5] else undef), (if l3 = true then .agg #[.string t0, .string t1, .string t2, .string t3, .string t4, .string t5] else undef), undef, undef, undef, undef], defers := [] } : Act) ∧ Below wr.heap.size wr w' ∧ (l4 = true → wr.heap.size ≤ b9 ∧ Blk w' b9 87 (if l6 = true then #[.string s0, .string s1, .string s2, .string s3, .string s4, .string s5] else six0)) ∧ (l5 = true → wr.heap.size ≤ b10 ∧ Blk w' b10 87 (if l7 = true then #[.string t0, .string t1, .string t2, .string t3, .string t4, .string t5] else six0)) ∧ (l4 = true → l5 = true → b9 ≠ b10) ∧ (l6 = true → l4 = true) ∧ (l7 = true → l5 = true)) ?h0 ?step ?fin
          case h0 => exact ⟨false, false, false, false, false, false, false, false, 0, 0, rfl, rfl, (Below.refl _ _).drew, (by intro h; exact absurd h (by decide)), (by intro h; exact absurd h (by decide)), (by intro h; exact absurd h (by decide)), (by intro h; exact absurd h (by decide)), (by intro h; exact absurd h (by decide))⟩
          case fin =>
            rintro l a wx ⟨l0, l1, l2, l3, l4, l5, l6, l7, b9, b10, rfl, rfl, hbx, h4, h5, hne, h64, h75⟩ hr
            have hall := ready_none hr (by kernel_rfl)
            simp only [Bool.and_eq_true] at hall
            obtain ⟨⟨⟨⟨⟨⟨⟨rfl, rfl⟩, rfl⟩, rfl⟩, rfl⟩, rfl⟩, rfl⟩, rfl⟩ := hall
            obtain ⟨h41, h42⟩ := h4 rfl
            obtain ⟨h51, h52⟩ := h5 rfl
            have H4 := hide h42
            have H5 := hide h52
            have HBX := hide hbx
            clear h42 h52 hbx h4 h5 hne h64 h75 hr
            go_wp2_with fail
            go_meet
            case rel => exact ⟨b9, b10, rfl, rfl, H4.out, H5.out, HBX.out⟩
          case step =>
            rintro l a wx i ⟨l0, l1, l2, l3, l4, l5, l6, l7, b9, b10, rfl, rfl, hbx, h4, h5, hne, h64, h75⟩ hi
            have hi8 : i < 8 := by
              have h := (mem_ready.1 hi).1
              rcases Nat.lt_or_ge i 8 with h8 | h8
              · exact h8
              · simp [show ¬ i < 8 by omega] at h
            match i, hi8, hi with
            | 0, _, hi =>
              have hf := ready_flags 0 (fun l0 l1 l2 l3 l4 l5 l6 l7 => !l0) hi (by kernel_rfl)
              simp only [Bool.not_eq_true'] at hf
              clear hi
              obtain rfl := hf
              obtain ⟨c0, c1, c2, c3, c4, c5, c6, c7, c8, c9, c10, c11⟩ := HX _ hbx
              clear HX
              refine wpOp_step rfl (fun K hK => ?_)
              go_simp
              exact hK _ _ ⟨true, l1, l2, l3, l4, l5, l6, l7, b9, b10, rfl, by simp, hbx, h4, h5, hne, h64, h75⟩
            | 1, _, hi =>
              have hf := ready_flags 1 (fun l0 l1 l2 l3 l4 l5 l6 l7 => !l1 && l0) hi (by kernel_rfl)
              simp only [Bool.and_eq_true, Bool.not_eq_true'] at hf
              clear hi
              obtain ⟨rfl, rfl⟩ := hf
              clear HX
              refine wpOp_step rfl (fun K hK => ?_)
              go_simp
              refine (tnumbers_any _ s0 s1 s2 s3 s4 s5).mono ?_
              rintro e wy ⟨rfl, hb1⟩
              exact hK _ _ ⟨true, true, l2, l3, l4, l5, l6, l7, b9, b10, rfl, by simp, hbx.trans (hb1.mono hbx.size), fun e => ⟨(h4 e).1, Blk.below (h4 e).2 hb1 (Blk.lt (h4 e).2)⟩, fun e => ⟨(h5 e).1, Blk.below (h5 e).2 hb1 (Blk.lt (h5 e).2)⟩, hne, h64, h75⟩
            | 2, _, hi =>
              have hf := ready_flags 2 (fun l0 l1 l2 l3 l4 l5 l6 l7 => !l2) hi (by kernel_rfl)
              simp only [Bool.not_eq_true'] at hf
              clear hi
              obtain rfl := hf
              obtain ⟨c0, c1, c2, c3, c4, c5, c6, c7, c8, c9, c10, c11⟩ := HX _ hbx
              clear HX
              refine wpOp_step rfl (fun K hK => ?_)
              go_simp
              exact hK _ _ ⟨l0, l1, true, l3, l4, l5, l6, l7, b9, b10, rfl, by simp, hbx, h4, h5, hne, h64, h75⟩
            | 3, _, hi =>
              have hf := ready_flags 3 (fun l0 l1 l2 l3 l4 l5 l6 l7 => !l3 && l2 && l1) hi (by kernel_rfl)
              simp only [Bool.and_eq_true, Bool.not_eq_true'] at hf
              clear hi
              obtain ⟨⟨rfl, rfl⟩, rfl⟩ := hf
              clear HX
              refine wpOp_step rfl (fun K hK => ?_)
              go_simp
              refine (tnumbers_any _ t0 t1 t2 t3 t4 t5).mono ?_
              rintro e wy ⟨rfl, hb1⟩
              exact hK _ _ ⟨l0, true, true, true, l4, l5, l6, l7, b9, b10, rfl, by simp, hbx.trans (hb1.mono hbx.size), fun e => ⟨(h4 e).1, Blk.below (h4 e).2 hb1 (Blk.lt (h4 e).2)⟩, fun e => ⟨(h5 e).1, Blk.below (h5 e).2 hb1 (Blk.lt (h5 e).2)⟩, hne, h64, h75⟩
            | 4, _, hi =>
              have hf := ready_flags 4 (fun l0 l1 l2 l3 l4 l5 l6 l7 => !l4) hi (by kernel_rfl)
              simp only [Bool.not_eq_true'] at hf
              clear hi
              obtain rfl := hf
              have hm : l6 = false := by
                cases hl : l6 with
                | false => rfl
                | true => exact absurd (h64 hl) (by decide)
              subst hm
              clear HX
              refine wpOp_step rfl (fun K hK => ?_)
              go_simp
              exact hK _ _ ⟨l0, l1, l2, l3, true, l5, false, l7, wx.heap.size, b10, rfl, by simp, hbx.alloc hbx.size _, fun _ => ⟨hbx.size, Blk.new _ _ _⟩, fun e => ⟨(h5 e).1, Blk.alloc (h5 e).2 _⟩, fun _ e => Nat.ne_of_gt (Blk.lt (h5 e).2), fun _ => rfl, h75⟩
            | 5, _, hi =>
              have hf := ready_flags 5 (fun l0 l1 l2 l3 l4 l5 l6 l7 => !l5) hi (by kernel_rfl)
              simp only [Bool.not_eq_true'] at hf
              clear hi
              obtain rfl := hf
              have hm : l7 = false := by
                cases hl : l7 with
                | false => rfl
                | true => exact absurd (h75 hl) (by decide)
              subst hm
              clear HX
              refine wpOp_step rfl (fun K hK => ?_)
              go_simp
              exact hK _ _ ⟨l0, l1, l2, l3, l4, true, l6, false, b9, wx.heap.size, rfl, by simp, hbx.alloc hbx.size _, fun e => ⟨(h4 e).1, Blk.alloc (h4 e).2 _⟩, fun _ => ⟨hbx.size, Blk.new _ _ _⟩, fun e _ => Nat.ne_of_lt (Blk.lt (h4 e).2), h64, fun _ => rfl⟩
            | 6, _, hi =>
              have hf := ready_flags 6 (fun l0 l1 l2 l3 l4 l5 l6 l7 => !l6 && l4 && l1 && l3) hi (by kernel_rfl)
              simp only [Bool.and_eq_true, Bool.not_eq_true'] at hf
              clear hi
              obtain ⟨⟨⟨rfl, rfl⟩, rfl⟩, rfl⟩ := hf
              obtain ⟨hle, hblk⟩ := h4 rfl
              rw [if_neg (by decide)] at hblk
              have z0 : wx.cell? ⟨b9, 0, none⟩ = some (.string ⟨#[]⟩) := (Blk.cell hblk 0).trans rfl
              have z1 : wx.cell? ⟨b9, 1, none⟩ = some (.string ⟨#[]⟩) := (Blk.cell hblk 1).trans rfl
              have z2 : wx.cell? ⟨b9, 2, none⟩ = some (.string ⟨#[]⟩) := (Blk.cell hblk 2).trans rfl
              have z3 : wx.cell? ⟨b9, 3, none⟩ = some (.string ⟨#[]⟩) := (Blk.cell hblk 3).trans rfl
              have z4 : wx.cell? ⟨b9, 4, none⟩ = some (.string ⟨#[]⟩) := (Blk.cell hblk 4).trans rfl
              have z5 : wx.cell? ⟨b9, 5, none⟩ = some (.string ⟨#[]⟩) := (Blk.cell hblk 5).trans rfl
              have f0 := Blk.frozen hblk 0
              have f1 := Blk.frozen hblk 1
              have f2 := Blk.frozen hblk 2
              have f3 := Blk.frozen hblk 3
              have f4 := Blk.frozen hblk 4
              have f5 := Blk.frozen hblk 5
              have HBK := hide hblk
              clear HX hblk
              refine wpOp_step rfl (fun K hK => ?_)
              go_simp
              exact hK _ _ ⟨l0, true, l2, true, true, l5, true, l7, b9, b10, rfl, by simp, ((((((hbx.setCell (p := ⟨b9, 0, none⟩) hle _).setCell (p := ⟨b9, 1, none⟩) hle _).setCell (p := ⟨b9, 2, none⟩) hle _).setCell (p := ⟨b9, 3, none⟩) hle _).setCell (p := ⟨b9, 4, none⟩) hle _).setCell (p := ⟨b9, 5, none⟩) hle _), fun _ => ⟨hle, ((((((HBK.out.set_ 0 (.string s0)).set_ 1 (.string s1)).set_ 2 (.string s2)).set_ 3 (.string s3)).set_ 4 (.string s4)).set_ 5 (.string s5))⟩, fun e => ⟨(h5 e).1, (Blk.far (p := ⟨b9, 5, none⟩) (Blk.far (p := ⟨b9, 4, none⟩) (Blk.far (p := ⟨b9, 3, none⟩) (Blk.far (p := ⟨b9, 2, none⟩) (Blk.far (p := ⟨b9, 1, none⟩) (Blk.far (p := ⟨b9, 0, none⟩) (h5 e).2 (Ne.symm (hne rfl e)) _) (Ne.symm (hne rfl e)) _) (Ne.symm (hne rfl e)) _) (Ne.symm (hne rfl e)) _) (Ne.symm (hne rfl e)) _) (Ne.symm (hne rfl e)) _)⟩, hne, fun _ => rfl, h75⟩
            | 7, _, hi =>
              have hf := ready_flags 7 (fun l0 l1 l2 l3 l4 l5 l6 l7 => !l7 && l5 && l3 && l6) hi (by kernel_rfl)
              simp only [Bool.and_eq_true, Bool.not_eq_true'] at hf
              clear hi
              obtain ⟨⟨⟨rfl, rfl⟩, rfl⟩, rfl⟩ := hf
              obtain rfl : l4 = true := h64 rfl
              obtain ⟨hle, hblk⟩ := h5 rfl
              rw [if_neg (by decide)] at hblk
              have z0 : wx.cell? ⟨b10, 0, none⟩ = some (.string ⟨#[]⟩) := (Blk.cell hblk 0).trans rfl
              have z1 : wx.cell? ⟨b10, 1, none⟩ = some (.string ⟨#[]⟩) := (Blk.cell hblk 1).trans rfl
              have z2 : wx.cell? ⟨b10, 2, none⟩ = some (.string ⟨#[]⟩) := (Blk.cell hblk 2).trans rfl
              have z3 : wx.cell? ⟨b10, 3, none⟩ = some (.string ⟨#[]⟩) := (Blk.cell hblk 3).trans rfl
              have z4 : wx.cell? ⟨b10, 4, none⟩ = some (.string ⟨#[]⟩) := (Blk.cell hblk 4).trans rfl
              have z5 : wx.cell? ⟨b10, 5, none⟩ = some (.string ⟨#[]⟩) := (Blk.cell hblk 5).trans rfl
              have f0 := Blk.frozen hblk 0
              have f1 := Blk.frozen hblk 1
              have f2 := Blk.frozen hblk 2
              have f3 := Blk.frozen hblk 3
              have f4 := Blk.frozen hblk 4
              have f5 := Blk.frozen hblk 5
              have HBK := hide hblk
              clear HX hblk
              refine wpOp_step rfl (fun K hK => ?_)
              go_simp
              exact hK _ _ ⟨l0, l1, l2, true, true, true, true, true, b9, b10, rfl, by simp, ((((((hbx.setCell (p := ⟨b10, 0, none⟩) hle _).setCell (p := ⟨b10, 1, none⟩) hle _).setCell (p := ⟨b10, 2, none⟩) hle _).setCell (p := ⟨b10, 3, none⟩) hle _).setCell (p := ⟨b10, 4, none⟩) hle _).setCell (p := ⟨b10, 5, none⟩) hle _), fun e => ⟨(h4 e).1, (Blk.far (p := ⟨b10, 5, none⟩) (Blk.far (p := ⟨b10, 4, none⟩) (Blk.far (p := ⟨b10, 3, none⟩) (Blk.far (p := ⟨b10, 2, none⟩) (Blk.far (p := ⟨b10, 1, none⟩) (Blk.far (p := ⟨b10, 0, none⟩) (h4 e).2 (hne e rfl) _) (hne e rfl) _) (hne e rfl) _) (hne e rfl) _) (hne e rfl) _) (hne e rfl) _)⟩, fun _ => ⟨hle, ((((((HBK.out.set_ 0 (.string t0)).set_ 1 (.string t1)).set_ 2 (.string t2)).set_ 3 (.string t3)).set_ 4 (.string t4)).set_ 5 (.string t5))⟩, hne, h64, fun _ => rfl⟩
      case rest =>
        obtain ⟨b9, b10, rfl, rfl, h9, h10, hbc⟩ := hcut
        have H9 := hide h9
        have H10 := hide h10
        have hz := Blk.below (Blk.below K2.out HB.out (Blk.lt K2.out)) hbc (Blk.lt (Blk.below K2.out HB.out (Blk.lt K2.out)))
        have HZ := hide hz
        have HC := hide (HBw.out.trans (hbc.mono HBw.out.size))
        clear h9 h10 hz hbc x0 y0 x1 y1 x2 y2 x3 y3 x4 y4 x5 y5
        have HM := hide (mapped_any wc 76 b9 b10 (fun i => ⟨(RT (p i + q i)).toArray⟩) (enters_of Tryz.func76 (by kernel_rfl) rfl) (fun i W hi hW => by
          have g9 := Blk.below H9.out hW (Blk.lt H9.out)
          have g10 := Blk.below H10.out hW (Blk.lt H10.out)
          have hst := std_next HS.out (HC.out.trans (hW.mono HC.out.size))
          match i, hi with
          | 0, _ => exact tadd1_any W 0 b9 b10 s0 t0 (p 0) (q 0) (by omega) ((Blk.cell g9 0).trans rfl) ((Blk.cell g10 0).trans rfl) A0.out B0.out (HBD.out 0 (by omega)) hst
          | 1, _ => exact tadd1_any W 1 b9 b10 s1 t1 (p 1) (q 1) (by omega) ((Blk.cell g9 1).trans rfl) ((Blk.cell g10 1).trans rfl) A1.out B1.out (HBD.out 1 (by omega)) hst
          | 2, _ => exact tadd1_any W 2 b9 b10 s2 t2 (p 2) (q 2) (by omega) ((Blk.cell g9 2).trans rfl) ((Blk.cell g10 2).trans rfl) A2.out B2.out (HBD.out 2 (by omega)) hst
          | 3, _ => exact tadd1_any W 3 b9 b10 s3 t3 (p 3) (q 3) (by omega) ((Blk.cell g9 3).trans rfl) ((Blk.cell g10 3).trans rfl) A3.out B3.out (HBD.out 3 (by omega)) hst
          | 4, _ => exact tadd1_any W 4 b9 b10 s4 t4 (p 4) (q 4) (by omega) ((Blk.cell g9 4).trans rfl) ((Blk.cell g10 4).trans rfl) A4.out B4.out (HBD.out 4 (by omega)) hst
          | 5, _ => exact tadd1_any W 5 b9 b10 s5 t5 (p 5) (q 5) (by omega) ((Blk.cell g9 5).trans rfl) ((Blk.cell g10 5).trans rfl) A5.out B5.out (HBD.out 5 (by omega)) hst))
        go_wp2_with fail
        refine HM.out.mono ?_
        rintro e w5 ⟨rfl, hb5⟩
        have hz5 := Blk.below HZ.out hb5 (Blk.lt HZ.out)
        have z0 : w5.cell? ⟨w.heap.size + 2, 0, none⟩ = some (.string ⟨#[]⟩) := (Blk.cell hz5 0).trans rfl
        have z1 : w5.cell? ⟨w.heap.size + 2, 1, none⟩ = some (.string ⟨#[]⟩) := (Blk.cell hz5 1).trans rfl
        have z2 : w5.cell? ⟨w.heap.size + 2, 2, none⟩ = some (.string ⟨#[]⟩) := (Blk.cell hz5 2).trans rfl
        have z3 : w5.cell? ⟨w.heap.size + 2, 3, none⟩ = some (.string ⟨#[]⟩) := (Blk.cell hz5 3).trans rfl
        have z4 : w5.cell? ⟨w.heap.size + 2, 4, none⟩ = some (.string ⟨#[]⟩) := (Blk.cell hz5 4).trans rfl
        have z5 : w5.cell? ⟨w.heap.size + 2, 5, none⟩ = some (.string ⟨#[]⟩) := (Blk.cell hz5 5).trans rfl
        have f0 := Blk.frozen hz5 0
        have f1 := Blk.frozen hz5 1
        have f2 := Blk.frozen hz5 2
        have f3 := Blk.frozen hz5 3
        have f4 := Blk.frozen hz5 4
        have f5 := Blk.frozen hz5 5
        have HB5 := hide (HC.out.trans (hb5.mono HC.out.size))
        clear hz5 hb5
        go_wp2_with fail
        exact bodyPost_ret (v := .tuple #[.agg #[.string ⟨(RT (p 0 + q 0)).toArray⟩, .string ⟨(RT (p 1 + q 1)).toArray⟩, .string ⟨(RT (p 2 + q 2)).toArray⟩, .string ⟨(RT (p 3 + q 3)).toArray⟩, .string ⟨(RT (p 4 + q 4)).toArray⟩, .string ⟨(RT (p 5 + q 5)).toArray⟩], .int .i64 0]) (by simp [results, Tryz.results31, go_sem, z0, z1, z2, z3, z4, z5]) rfl ⟨rfl, ((((((HB5.out.setCell (p := ⟨w.heap.size + 2, 0, none⟩) (Nat.le_add_right _ _) _).setCell (p := ⟨w.heap.size + 2, 1, none⟩) (Nat.le_add_right _ _) _).setCell (p := ⟨w.heap.size + 2, 2, none⟩) (Nat.le_add_right _ _) _).setCell (p := ⟨w.heap.size + 2, 3, none⟩) (Nat.le_add_right _ _) _).setCell (p := ⟨w.heap.size + 2, 4, none⟩) (Nat.le_add_right _ _) _).setCell (p := ⟨w.heap.size + 2, 5, none⟩) (Nat.le_add_right _ _) _)⟩
end Go.Proofs.YtdkilkliccljeaaGreatDoor
