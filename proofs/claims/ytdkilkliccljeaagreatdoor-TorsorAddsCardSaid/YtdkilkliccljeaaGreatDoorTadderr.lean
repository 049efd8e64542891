/- The errors of torsor.Add and torsor.Scale. -/
import Derived.Test.YtdkilkliccljeaaGreatDoorTadd
import Derived.Test.YtdkilkliccljeaaGreatDoorTscale
import Derived.Test.YtdkilkliccljeaaGreatDoorTabout
namespace Go.Proofs.YtdkilkliccljeaaGreatDoor
open Go.RowKit MLab

set_option maxRecDepth 100000 in
set_option maxHeartbeats 8000000 in
theorem tadd_bad0 (w : World) (s0 s1 s2 s3 s4 s5 t0 t1 t2 t3 t4 t5 : ByteArray) (c : Int) (hc : chkRs [s0.data.toList, s1.data.toList, s2.data.toList, s3.data.toList, s4.data.toList, s5.data.toList] = c) (h0 : c ≠ 0) (zs : ∀ l ∈ [s0.data.toList, s1.data.toList, s2.data.toList, s3.data.toList, s4.data.toList, s5.data.toList], l.length < 4000000000) (zt : ∀ l ∈ [t0.data.toList, t1.data.toList, t2.data.toList, t3.data.toList, t4.data.toList, t5.data.toList], l.length < 4000000000) (hs : Std w) :
    Calls Tryz.prog 31 #[.agg #[.string s0, .string s1, .string s2, .string s3, .string s4, .string s5], .agg #[.string t0, .string t1, .string t2, .string t3, .string t4, .string t5]] w fun e w' => e = .returned (.tuple #[.agg six0, .int .i64 c]) ∧ Below w.heap.size w w' := by
  have hb0 := allocs_below w [.cells #[.string s0, .string s1, .string s2, .string s3, .string s4, .string s5] 25, .cells #[.string t0, .string t1, .string t2, .string t3, .string t4, .string t5] 25, .cells six0 25, .cells #[.string s0, .string s1, .string s2, .string s3, .string s4, .string s5, .string t0, .string t1, .string t2, .string t3, .string t4, .string t5] 25]
  have hk2 : Blk (allocs w [.cells #[.string s0, .string s1, .string s2, .string s3, .string s4, .string s5] 25, .cells #[.string t0, .string t1, .string t2, .string t3, .string t4, .string t5] 25, .cells six0 25, .cells #[.string s0, .string s1, .string s2, .string s3, .string s4, .string s5, .string t0, .string t1, .string t2, .string t3, .string t4, .string t5] 25]) (w.heap.size + 2) 25 six0 := allocs_at w [.cells #[.string s0, .string s1, .string s2, .string s3, .string s4, .string s5] 25, .cells #[.string t0, .string t1, .string t2, .string t3, .string t4, .string t5] 25, .cells six0 25, .cells #[.string s0, .string s1, .string s2, .string s3, .string s4, .string s5, .string t0, .string t1, .string t2, .string t3, .string t4, .string t5] 25] 2 rfl
  have hk3 : Blk (allocs w [.cells #[.string s0, .string s1, .string s2, .string s3, .string s4, .string s5] 25, .cells #[.string t0, .string t1, .string t2, .string t3, .string t4, .string t5] 25, .cells six0 25, .cells #[.string s0, .string s1, .string s2, .string s3, .string s4, .string s5, .string t0, .string t1, .string t2, .string t3, .string t4, .string t5] 25]) (w.heap.size + 3) 25 #[.string s0, .string s1, .string s2, .string s3, .string s4, .string s5, .string t0, .string t1, .string t2, .string t3, .string t4, .string t5] := allocs_at w [.cells #[.string s0, .string s1, .string s2, .string s3, .string s4, .string s5] 25, .cells #[.string t0, .string t1, .string t2, .string t3, .string t4, .string t5] 25, .cells six0 25, .cells #[.string s0, .string s1, .string s2, .string s3, .string s4, .string s5, .string t0, .string t1, .string t2, .string t3, .string t4, .string t5] 25] 3 rfl
  unfold allocs at hb0 hk2 hk3
  simp only [List.foldl_cons, List.foldl_nil] at hb0 hk2 hk3
  have HS := hide hs
  clear hs
  have ZS := hide zs
  have ZT := hide zt
  have HC := hide hc
  clear zs zt hc
  go_enter Tryz.func31, Tryz.ntmps31
  go_wp2_with fail
  generalize ((((w.alloc (.cells #[.string s0, .string s1, .string s2, .string s3, .string s4, .string s5] 25)).alloc (.cells #[.string t0, .string t1, .string t2, .string t3, .string t4, .string t5] 25)).alloc (.cells six0 25)).alloc (.cells #[.string s0, .string s1, .string s2, .string s3, .string s4, .string s5, .string t0, .string t1, .string t2, .string t3, .string t4, .string t5] 25)) = w0 at *
  have HB := hide hb0
  have K2 := hide hk2
  have K3 := hide hk3
  clear hb0 hk2 hk3
  go_loopg [15] 2 (fun q iv wr => ∃ j : Nat, iv = .int .i64 (j : Int) ∧ q + j = 2 ∧ j = 0 ∧ Below w0.heap.size w0 wr)
  case atStart => exact ⟨0, rfl, rfl, rfl, Below.refl _ _⟩
  case round =>
    obtain ⟨j, rfl, hq, hj, hb⟩ := hrel
    have HQ := hide hq
    have HBr := hide hb
    have HBw := hide (HB.out.trans (hb.mono HB.out.size))
    clear hq hb
    subst hj
    have hl := Blk.below K3.out HBr.out (Blk.lt K3.out)
    have k0 := (Blk.cell hl 0).trans (rfl : _ = some (Value.string s0))
    have k1 := (Blk.cell hl 1).trans (rfl : _ = some (Value.string s1))
    have k2 := (Blk.cell hl 2).trans (rfl : _ = some (Value.string s2))
    have k3 := (Blk.cell hl 3).trans (rfl : _ = some (Value.string s3))
    have k4 := (Blk.cell hl 4).trans (rfl : _ = some (Value.string s4))
    have k5 := (Blk.cell hl 5).trans (rfl : _ = some (Value.string s5))
    have HA := hide (HBw.out.alloc HBw.out.size (.cells #[.string s0, .string s1, .string s2, .string s3, .string s4, .string s5] 25))
    clear hl
    go_wp2_with fail
    refine (tCheck_any _ s0 s1 s2 s3 s4 s5 ZS.out (std_next HS.out HA.out)).mono ?_
    rw [HC.out]
    rintro e w1 ⟨rfl, hb1⟩
    have HB1 := hide (HBr.out.trans (((allocs_below wr [_]).trans (hb1.mono (allocs_below wr [_]).size)).mono HBr.out.size))
    clear hb1 k0 k1 k2 k3 k4 k5
    have rhz := Blk.below K2.out HB1.out (Blk.lt K2.out)
    have rz0 : w1.cell? ⟨w.heap.size + 2, 0, none⟩ = some (.string ⟨#[]⟩) := (Blk.cell rhz 0).trans rfl
    have rf0 := Blk.frozen rhz 0
    have rz1 : w1.cell? ⟨w.heap.size + 2, 1, none⟩ = some (.string ⟨#[]⟩) := (Blk.cell rhz 1).trans rfl
    have rf1 := Blk.frozen rhz 1
    have rz2 : w1.cell? ⟨w.heap.size + 2, 2, none⟩ = some (.string ⟨#[]⟩) := (Blk.cell rhz 2).trans rfl
    have rf2 := Blk.frozen rhz 2
    have rz3 : w1.cell? ⟨w.heap.size + 2, 3, none⟩ = some (.string ⟨#[]⟩) := (Blk.cell rhz 3).trans rfl
    have rf3 := Blk.frozen rhz 3
    have rz4 : w1.cell? ⟨w.heap.size + 2, 4, none⟩ = some (.string ⟨#[]⟩) := (Blk.cell rhz 4).trans rfl
    have rf4 := Blk.frozen rhz 4
    have rz5 : w1.cell? ⟨w.heap.size + 2, 5, none⟩ = some (.string ⟨#[]⟩) := (Blk.cell rhz 5).trans rfl
    have rf5 := Blk.frozen rhz 5
    have HBf := hide (HB.out.trans (HB1.out.mono HB.out.size))
    clear rhz
    go_wp2_with fail
    exact bodyPost_ret (v := .tuple #[.agg six0, .int .i64 c]) (by simp [results, Tryz.results31, go_sem, rz0, rz1, rz2, rz3, rz4, rz5]) rfl ⟨rfl, ((((((HBf.out.setCell (p := ⟨w.heap.size + 2, 0, none⟩) (Nat.le_add_right _ _) _).setCell (p := ⟨w.heap.size + 2, 1, none⟩) (Nat.le_add_right _ _) _).setCell (p := ⟨w.heap.size + 2, 2, none⟩) (Nat.le_add_right _ _) _).setCell (p := ⟨w.heap.size + 2, 3, none⟩) (Nat.le_add_right _ _) _).setCell (p := ⟨w.heap.size + 2, 4, none⟩) (Nat.le_add_right _ _) _).setCell (p := ⟨w.heap.size + 2, 5, none⟩) (Nat.le_add_right _ _) _)⟩

set_option maxRecDepth 100000 in
set_option maxHeartbeats 8000000 in
theorem tadd_bad1 (w : World) (s0 s1 s2 s3 s4 s5 t0 t1 t2 t3 t4 t5 : ByteArray) (hc0 : chkRs [s0.data.toList, s1.data.toList, s2.data.toList, s3.data.toList, s4.data.toList, s5.data.toList] = 0) (c : Int) (hc : chkRs [t0.data.toList, t1.data.toList, t2.data.toList, t3.data.toList, t4.data.toList, t5.data.toList] = c) (h0 : c ≠ 0) (zs : ∀ l ∈ [s0.data.toList, s1.data.toList, s2.data.toList, s3.data.toList, s4.data.toList, s5.data.toList], l.length < 4000000000) (zt : ∀ l ∈ [t0.data.toList, t1.data.toList, t2.data.toList, t3.data.toList, t4.data.toList, t5.data.toList], l.length < 4000000000) (hs : Std w) :
    Calls Tryz.prog 31 #[.agg #[.string s0, .string s1, .string s2, .string s3, .string s4, .string s5], .agg #[.string t0, .string t1, .string t2, .string t3, .string t4, .string t5]] w fun e w' => e = .returned (.tuple #[.agg six0, .int .i64 c]) ∧ Below w.heap.size w w' := by
  have hb0 := allocs_below w [.cells #[.string s0, .string s1, .string s2, .string s3, .string s4, .string s5] 25, .cells #[.string t0, .string t1, .string t2, .string t3, .string t4, .string t5] 25, .cells six0 25, .cells #[.string s0, .string s1, .string s2, .string s3, .string s4, .string s5, .string t0, .string t1, .string t2, .string t3, .string t4, .string t5] 25]
  have hk2 : Blk (allocs w [.cells #[.string s0, .string s1, .string s2, .string s3, .string s4, .string s5] 25, .cells #[.string t0, .string t1, .string t2, .string t3, .string t4, .string t5] 25, .cells six0 25, .cells #[.string s0, .string s1, .string s2, .string s3, .string s4, .string s5, .string t0, .string t1, .string t2, .string t3, .string t4, .string t5] 25]) (w.heap.size + 2) 25 six0 := allocs_at w [.cells #[.string s0, .string s1, .string s2, .string s3, .string s4, .string s5] 25, .cells #[.string t0, .string t1, .string t2, .string t3, .string t4, .string t5] 25, .cells six0 25, .cells #[.string s0, .string s1, .string s2, .string s3, .string s4, .string s5, .string t0, .string t1, .string t2, .string t3, .string t4, .string t5] 25] 2 rfl
  have hk3 : Blk (allocs w [.cells #[.string s0, .string s1, .string s2, .string s3, .string s4, .string s5] 25, .cells #[.string t0, .string t1, .string t2, .string t3, .string t4, .string t5] 25, .cells six0 25, .cells #[.string s0, .string s1, .string s2, .string s3, .string s4, .string s5, .string t0, .string t1, .string t2, .string t3, .string t4, .string t5] 25]) (w.heap.size + 3) 25 #[.string s0, .string s1, .string s2, .string s3, .string s4, .string s5, .string t0, .string t1, .string t2, .string t3, .string t4, .string t5] := allocs_at w [.cells #[.string s0, .string s1, .string s2, .string s3, .string s4, .string s5] 25, .cells #[.string t0, .string t1, .string t2, .string t3, .string t4, .string t5] 25, .cells six0 25, .cells #[.string s0, .string s1, .string s2, .string s3, .string s4, .string s5, .string t0, .string t1, .string t2, .string t3, .string t4, .string t5] 25] 3 rfl
  unfold allocs at hb0 hk2 hk3
  simp only [List.foldl_cons, List.foldl_nil] at hb0 hk2 hk3
  have HS := hide hs
  clear hs
  have ZS := hide zs
  have ZT := hide zt
  have HC := hide hc
  have HC0 := hide hc0
  clear zs zt hc hc0
  go_enter Tryz.func31, Tryz.ntmps31
  go_wp2_with fail
  generalize ((((w.alloc (.cells #[.string s0, .string s1, .string s2, .string s3, .string s4, .string s5] 25)).alloc (.cells #[.string t0, .string t1, .string t2, .string t3, .string t4, .string t5] 25)).alloc (.cells six0 25)).alloc (.cells #[.string s0, .string s1, .string s2, .string s3, .string s4, .string s5, .string t0, .string t1, .string t2, .string t3, .string t4, .string t5] 25)) = w0 at *
  have HB := hide hb0
  have K2 := hide hk2
  have K3 := hide hk3
  clear hb0 hk2 hk3
  go_loopg [15] 2 (fun q iv wr => ∃ j : Nat, iv = .int .i64 (j : Int) ∧ q + j = 2 ∧ j ≤ 1 ∧ Below w0.heap.size w0 wr)
  case atStart => exact ⟨0, rfl, rfl, by omega, Below.refl _ _⟩
  case round =>
    obtain ⟨j, rfl, hq, hj, hb⟩ := hrel
    have HQ := hide hq
    have HBr := hide hb
    have HBw := hide (HB.out.trans (hb.mono HB.out.size))
    clear hq hb
    have hj2 : j = 0 ∨ j = 1 := by omega
    clear hj
    rcases hj2 with rfl | rfl
    · have hl := Blk.below K3.out HBr.out (Blk.lt K3.out)
      have k0 := (Blk.cell hl 0).trans (rfl : _ = some (Value.string s0))
      have k1 := (Blk.cell hl 1).trans (rfl : _ = some (Value.string s1))
      have k2 := (Blk.cell hl 2).trans (rfl : _ = some (Value.string s2))
      have k3 := (Blk.cell hl 3).trans (rfl : _ = some (Value.string s3))
      have k4 := (Blk.cell hl 4).trans (rfl : _ = some (Value.string s4))
      have k5 := (Blk.cell hl 5).trans (rfl : _ = some (Value.string s5))
      have HA := hide (HBw.out.alloc HBw.out.size (.cells #[.string s0, .string s1, .string s2, .string s3, .string s4, .string s5] 25))
      clear hl
      go_wp2_with fail
      refine (tCheck_any _ s0 s1 s2 s3 s4 s5 ZS.out (std_next HS.out HA.out)).mono ?_
      rw [HC0.out]
      rintro e w1 ⟨rfl, hb1⟩
      have HB1 := hide (HBr.out.trans (((allocs_below wr [_]).trans (hb1.mono (allocs_below wr [_]).size)).mono HBr.out.size))
      clear hb1 k0 k1 k2 k3 k4 k5
      go_wp2_with fail
      go_roundg 1
      case measure => have := HQ.out; omega
      case rel => exact ⟨1, rfl, rfl, by omega, HB1.out⟩
    · have hl := Blk.below K3.out HBr.out (Blk.lt K3.out)
      have k0 := (Blk.cell hl 6).trans (rfl : _ = some (Value.string t0))
      have k1 := (Blk.cell hl 7).trans (rfl : _ = some (Value.string t1))
      have k2 := (Blk.cell hl 8).trans (rfl : _ = some (Value.string t2))
      have k3 := (Blk.cell hl 9).trans (rfl : _ = some (Value.string t3))
      have k4 := (Blk.cell hl 10).trans (rfl : _ = some (Value.string t4))
      have k5 := (Blk.cell hl 11).trans (rfl : _ = some (Value.string t5))
      have HA := hide (HBw.out.alloc HBw.out.size (.cells #[.string t0, .string t1, .string t2, .string t3, .string t4, .string t5] 25))
      clear hl
      go_wp2_with fail
      refine (tCheck_any _ t0 t1 t2 t3 t4 t5 ZT.out (std_next HS.out HA.out)).mono ?_
      rw [HC.out]
      rintro e w1 ⟨rfl, hb1⟩
      have HB1 := hide (HBr.out.trans (((allocs_below wr [_]).trans (hb1.mono (allocs_below wr [_]).size)).mono HBr.out.size))
      clear hb1 k0 k1 k2 k3 k4 k5
      have rhz := Blk.below K2.out HB1.out (Blk.lt K2.out)
      have rz0 : w1.cell? ⟨w.heap.size + 2, 0, none⟩ = some (.string ⟨#[]⟩) := (Blk.cell rhz 0).trans rfl
      have rf0 := Blk.frozen rhz 0
      have rz1 : w1.cell? ⟨w.heap.size + 2, 1, none⟩ = some (.string ⟨#[]⟩) := (Blk.cell rhz 1).trans rfl
      have rf1 := Blk.frozen rhz 1
      have rz2 : w1.cell? ⟨w.heap.size + 2, 2, none⟩ = some (.string ⟨#[]⟩) := (Blk.cell rhz 2).trans rfl
      have rf2 := Blk.frozen rhz 2
      have rz3 : w1.cell? ⟨w.heap.size + 2, 3, none⟩ = some (.string ⟨#[]⟩) := (Blk.cell rhz 3).trans rfl
      have rf3 := Blk.frozen rhz 3
      have rz4 : w1.cell? ⟨w.heap.size + 2, 4, none⟩ = some (.string ⟨#[]⟩) := (Blk.cell rhz 4).trans rfl
      have rf4 := Blk.frozen rhz 4
      have rz5 : w1.cell? ⟨w.heap.size + 2, 5, none⟩ = some (.string ⟨#[]⟩) := (Blk.cell rhz 5).trans rfl
      have rf5 := Blk.frozen rhz 5
      have HBf := hide (HB.out.trans (HB1.out.mono HB.out.size))
      clear rhz
      go_wp2_with fail
      exact bodyPost_ret (v := .tuple #[.agg six0, .int .i64 c]) (by simp [results, Tryz.results31, go_sem, rz0, rz1, rz2, rz3, rz4, rz5]) rfl ⟨rfl, ((((((HBf.out.setCell (p := ⟨w.heap.size + 2, 0, none⟩) (Nat.le_add_right _ _) _).setCell (p := ⟨w.heap.size + 2, 1, none⟩) (Nat.le_add_right _ _) _).setCell (p := ⟨w.heap.size + 2, 2, none⟩) (Nat.le_add_right _ _) _).setCell (p := ⟨w.heap.size + 2, 3, none⟩) (Nat.le_add_right _ _) _).setCell (p := ⟨w.heap.size + 2, 4, none⟩) (Nat.le_add_right _ _) _).setCell (p := ⟨w.heap.size + 2, 5, none⟩) (Nat.le_add_right _ _) _)⟩

set_option maxRecDepth 100000 in
set_option maxHeartbeats 8000000 in
theorem tscale_bad0 (w : World) (k t0 t1 t2 t3 t4 t5 : ByteArray) (c : Int) (hc : chkR k.data.toList = c) (h0 : c ≠ 0) (zk : k.data.toList.length < 4000000000) (zt : ∀ l ∈ [t0.data.toList, t1.data.toList, t2.data.toList, t3.data.toList, t4.data.toList, t5.data.toList], l.length < 4000000000) (hs : Std w) :
    Calls Tryz.prog 33 #[.string k, .agg #[.string t0, .string t1, .string t2, .string t3, .string t4, .string t5]] w fun e w' => e = .returned (.tuple #[.agg six0, .int .i64 c]) ∧ Below w.heap.size w w' := by
  have HB := allocs_below w [.cells #[.string k] 22, .cells #[.string t0, .string t1, .string t2, .string t3, .string t4, .string t5] 25, .cells six0 25]
  have K_z : Blk (allocs w [.cells #[.string k] 22, .cells #[.string t0, .string t1, .string t2, .string t3, .string t4, .string t5] 25, .cells six0 25]) (w.heap.size + 0) 22 #[.string k] := allocs_at w [.cells #[.string k] 22, .cells #[.string t0, .string t1, .string t2, .string t3, .string t4, .string t5] 25, .cells six0 25] 0 rfl
  have K_y : Blk (allocs w [.cells #[.string k] 22, .cells #[.string t0, .string t1, .string t2, .string t3, .string t4, .string t5] 25, .cells six0 25]) (w.heap.size + 1) 25 #[.string t0, .string t1, .string t2, .string t3, .string t4, .string t5] := allocs_at w [.cells #[.string k] 22, .cells #[.string t0, .string t1, .string t2, .string t3, .string t4, .string t5] 25, .cells six0 25] 1 rfl
  have K_r : Blk (allocs w [.cells #[.string k] 22, .cells #[.string t0, .string t1, .string t2, .string t3, .string t4, .string t5] 25, .cells six0 25]) (w.heap.size + 2) 25 six0 := allocs_at w [.cells #[.string k] 22, .cells #[.string t0, .string t1, .string t2, .string t3, .string t4, .string t5] 25, .cells six0 25] 2 rfl
  unfold allocs at HB K_z K_y K_r
  simp only [List.foldl_cons, List.foldl_nil] at HB K_z K_y K_r
  rw [Nat.add_zero] at K_z
  have HS := hide hs
  have ZK := hide zk
  have ZT := hide zt
  have HC := hide hc
  clear hs zk zt hc
  go_enter Tryz.func33, Tryz.ntmps33
  go_upto_region 1 with (fail)
  generalize (((w.alloc (.cells #[.string k] 22)).alloc (.cells #[.string t0, .string t1, .string t2, .string t3, .string t4, .string t5] 25)).alloc (.cells six0 25)) = w0 at *
  replace K_z := hide K_z
  replace K_y := hide K_y
  replace K_r := hide K_r
  replace HB := hide HB
  have z0 := (Blk.cell K_z.out 0).trans (rfl : _ = some (Value.string k))
  go_wp2_with fail
  refine (one_canon _ _ rfl k _ ZK.out (std_next HS.out HB.out)).mono ?_
  rw [HC.out]
  rintro e w1 ⟨rfl, hb1⟩
  clear z0
  replace K_z := hide (Blk.below K_z.out hb1 (Blk.lt K_z.out))
  replace K_y := hide (Blk.below K_y.out hb1 (Blk.lt K_y.out))
  replace K_r := hide (Blk.below K_r.out hb1 (Blk.lt K_r.out))
  replace HB := hide (HB.out.trans (hb1.mono HB.out.size))
  clear hb1
  have r0 := (Blk.cell K_r.out 0).trans (rfl : _ = some (Value.string ⟨#[]⟩))
  have rf0 := Blk.frozen K_r.out 0
  have r1 := (Blk.cell K_r.out 1).trans (rfl : _ = some (Value.string ⟨#[]⟩))
  have rf1 := Blk.frozen K_r.out 1
  have r2 := (Blk.cell K_r.out 2).trans (rfl : _ = some (Value.string ⟨#[]⟩))
  have rf2 := Blk.frozen K_r.out 2
  have r3 := (Blk.cell K_r.out 3).trans (rfl : _ = some (Value.string ⟨#[]⟩))
  have rf3 := Blk.frozen K_r.out 3
  have r4 := (Blk.cell K_r.out 4).trans (rfl : _ = some (Value.string ⟨#[]⟩))
  have rf4 := Blk.frozen K_r.out 4
  have r5 := (Blk.cell K_r.out 5).trans (rfl : _ = some (Value.string ⟨#[]⟩))
  have rf5 := Blk.frozen K_r.out 5
  go_wp2_with fail
  exact bodyPost_ret (v := .tuple #[.agg six0, .int .i64 c]) (by simp [results, Tryz.results33, go_sem, r0, r1, r2, r3, r4, r5]) rfl ⟨rfl, ((((((HB.out.setCell (p := ⟨w.heap.size + 2, 0, none⟩) (Nat.le_add_right _ _) _).setCell (p := ⟨w.heap.size + 2, 1, none⟩) (Nat.le_add_right _ _) _).setCell (p := ⟨w.heap.size + 2, 2, none⟩) (Nat.le_add_right _ _) _).setCell (p := ⟨w.heap.size + 2, 3, none⟩) (Nat.le_add_right _ _) _).setCell (p := ⟨w.heap.size + 2, 4, none⟩) (Nat.le_add_right _ _) _).setCell (p := ⟨w.heap.size + 2, 5, none⟩) (Nat.le_add_right _ _) _)⟩

set_option maxRecDepth 100000 in
set_option maxHeartbeats 8000000 in
theorem tscale_bad1 (w : World) (k t0 t1 t2 t3 t4 t5 : ByteArray) (hc0 : chkR k.data.toList = 0) (c : Int) (hc : chkRs [t0.data.toList, t1.data.toList, t2.data.toList, t3.data.toList, t4.data.toList, t5.data.toList] = c) (h0 : c ≠ 0) (zk : k.data.toList.length < 4000000000) (zt : ∀ l ∈ [t0.data.toList, t1.data.toList, t2.data.toList, t3.data.toList, t4.data.toList, t5.data.toList], l.length < 4000000000) (hs : Std w) :
    Calls Tryz.prog 33 #[.string k, .agg #[.string t0, .string t1, .string t2, .string t3, .string t4, .string t5]] w fun e w' => e = .returned (.tuple #[.agg six0, .int .i64 c]) ∧ Below w.heap.size w w' := by
  have HB := allocs_below w [.cells #[.string k] 22, .cells #[.string t0, .string t1, .string t2, .string t3, .string t4, .string t5] 25, .cells six0 25]
  have K_z : Blk (allocs w [.cells #[.string k] 22, .cells #[.string t0, .string t1, .string t2, .string t3, .string t4, .string t5] 25, .cells six0 25]) (w.heap.size + 0) 22 #[.string k] := allocs_at w [.cells #[.string k] 22, .cells #[.string t0, .string t1, .string t2, .string t3, .string t4, .string t5] 25, .cells six0 25] 0 rfl
  have K_y : Blk (allocs w [.cells #[.string k] 22, .cells #[.string t0, .string t1, .string t2, .string t3, .string t4, .string t5] 25, .cells six0 25]) (w.heap.size + 1) 25 #[.string t0, .string t1, .string t2, .string t3, .string t4, .string t5] := allocs_at w [.cells #[.string k] 22, .cells #[.string t0, .string t1, .string t2, .string t3, .string t4, .string t5] 25, .cells six0 25] 1 rfl
  have K_r : Blk (allocs w [.cells #[.string k] 22, .cells #[.string t0, .string t1, .string t2, .string t3, .string t4, .string t5] 25, .cells six0 25]) (w.heap.size + 2) 25 six0 := allocs_at w [.cells #[.string k] 22, .cells #[.string t0, .string t1, .string t2, .string t3, .string t4, .string t5] 25, .cells six0 25] 2 rfl
  unfold allocs at HB K_z K_y K_r
  simp only [List.foldl_cons, List.foldl_nil] at HB K_z K_y K_r
  rw [Nat.add_zero] at K_z
  have HS := hide hs
  have ZK := hide zk
  have ZT := hide zt
  have HC := hide hc
  have HC0 := hide hc0
  clear hs zk zt hc hc0
  go_enter Tryz.func33, Tryz.ntmps33
  go_upto_region 1 with (fail)
  generalize (((w.alloc (.cells #[.string k] 22)).alloc (.cells #[.string t0, .string t1, .string t2, .string t3, .string t4, .string t5] 25)).alloc (.cells six0 25)) = w0 at *
  replace K_z := hide K_z
  replace K_y := hide K_y
  replace K_r := hide K_r
  replace HB := hide HB
  have z0 := (Blk.cell K_z.out 0).trans (rfl : _ = some (Value.string k))
  go_wp2_with fail
  refine (one_canon _ _ rfl k _ ZK.out (std_next HS.out HB.out)).mono ?_
  rw [HC0.out]
  rintro e w1 ⟨rfl, hb1⟩
  clear z0
  replace K_z := hide (Blk.below K_z.out hb1 (Blk.lt K_z.out))
  replace K_y := hide (Blk.below K_y.out hb1 (Blk.lt K_y.out))
  replace K_r := hide (Blk.below K_r.out hb1 (Blk.lt K_r.out))
  replace HB := hide (HB.out.trans (hb1.mono HB.out.size))
  clear hb1
  have y0 := (Blk.cell K_y.out 0).trans (rfl : _ = some (Value.string t0))
  have y1 := (Blk.cell K_y.out 1).trans (rfl : _ = some (Value.string t1))
  have y2 := (Blk.cell K_y.out 2).trans (rfl : _ = some (Value.string t2))
  have y3 := (Blk.cell K_y.out 3).trans (rfl : _ = some (Value.string t3))
  have y4 := (Blk.cell K_y.out 4).trans (rfl : _ = some (Value.string t4))
  have y5 := (Blk.cell K_y.out 5).trans (rfl : _ = some (Value.string t5))
  go_wp2_with fail
  refine (tCheck_any _ t0 t1 t2 t3 t4 t5 ZT.out (std_next HS.out HB.out)).mono ?_
  rw [HC.out]
  rintro e w2 ⟨rfl, hb2⟩
  clear y0 y1 y2 y3 y4 y5
  replace K_z := hide (Blk.below K_z.out hb2 (Blk.lt K_z.out))
  replace K_y := hide (Blk.below K_y.out hb2 (Blk.lt K_y.out))
  replace K_r := hide (Blk.below K_r.out hb2 (Blk.lt K_r.out))
  replace HB := hide (HB.out.trans (hb2.mono HB.out.size))
  clear hb2
  have r0 := (Blk.cell K_r.out 0).trans (rfl : _ = some (Value.string ⟨#[]⟩))
  have rf0 := Blk.frozen K_r.out 0
  have r1 := (Blk.cell K_r.out 1).trans (rfl : _ = some (Value.string ⟨#[]⟩))
  have rf1 := Blk.frozen K_r.out 1
  have r2 := (Blk.cell K_r.out 2).trans (rfl : _ = some (Value.string ⟨#[]⟩))
  have rf2 := Blk.frozen K_r.out 2
  have r3 := (Blk.cell K_r.out 3).trans (rfl : _ = some (Value.string ⟨#[]⟩))
  have rf3 := Blk.frozen K_r.out 3
  have r4 := (Blk.cell K_r.out 4).trans (rfl : _ = some (Value.string ⟨#[]⟩))
  have rf4 := Blk.frozen K_r.out 4
  have r5 := (Blk.cell K_r.out 5).trans (rfl : _ = some (Value.string ⟨#[]⟩))
  have rf5 := Blk.frozen K_r.out 5
  go_wp2_with fail
  exact bodyPost_ret (v := .tuple #[.agg six0, .int .i64 c]) (by simp [results, Tryz.results33, go_sem, r0, r1, r2, r3, r4, r5]) rfl ⟨rfl, ((((((HB.out.setCell (p := ⟨w.heap.size + 2, 0, none⟩) (Nat.le_add_right _ _) _).setCell (p := ⟨w.heap.size + 2, 1, none⟩) (Nat.le_add_right _ _) _).setCell (p := ⟨w.heap.size + 2, 2, none⟩) (Nat.le_add_right _ _) _).setCell (p := ⟨w.heap.size + 2, 3, none⟩) (Nat.le_add_right _ _) _).setCell (p := ⟨w.heap.size + 2, 4, none⟩) (Nat.le_add_right _ _) _).setCell (p := ⟨w.heap.size + 2, 5, none⟩) (Nat.le_add_right _ _) _)⟩
end Go.Proofs.YtdkilkliccljeaaGreatDoor
