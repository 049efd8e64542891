/- VectorNormals: the walk. -/
import Derived.Test.YtblfinpfcpglcaaGreatDoorNear
namespace Go.Proofs.YtblfinpfcpglcaaGreatDoor
open Go.RowKit MLab

set_option maxRecDepth 100000 in
set_option maxHeartbeats 2000000 in
theorem normals_far (w : World) (ax ay az bx by_ bz cx cy cz dx dy dz : Int) (hall : [(ax, ay, az), (bx, by_, bz), (cx, cy, cz), (dx, dy, dz)].all smS = false) (hs : Std w) : Calls Tryz.prog 5 #[.agg #[.int .i64 ax, .int .i64 ay, .int .i64 az, .int .i64 bx, .int .i64 by_, .int .i64 bz, .int .i64 cx, .int .i64 cy, .int .i64 cz, .int .i64 dx, .int .i64 dy, .int .i64 dz]] w fun e w' => e = .returned (.bool true) ∧ Below w.heap.size w w' := by
  have HS := hide hs
  clear hs
  go_enter Tryz.func5, Tryz.ntmps5
  go_upto_region 1 with (fail)
  have hb0 : Below w.heap.size w (w.alloc (.cells #[.int .i64 ax, .int .i64 ay, .int .i64 az, .int .i64 bx, .int .i64 by_, .int .i64 bz, .int .i64 cx, .int .i64 cy, .int .i64 cz, .int .i64 dx, .int .i64 dy, .int .i64 dz] 34)) := allocs_below w [(.cells #[.int .i64 ax, .int .i64 ay, .int .i64 az, .int .i64 bx, .int .i64 by_, .int .i64 bz, .int .i64 cx, .int .i64 cy, .int .i64 cz, .int .i64 dx, .int .i64 dy, .int .i64 dz] 34)]
  have s0 : w.heap.size + 1 ≤ (w.alloc (.cells #[.int .i64 ax, .int .i64 ay, .int .i64 az, .int .i64 bx, .int .i64 by_, .int .i64 bz, .int .i64 cx, .int .i64 cy, .int .i64 cz, .int .i64 dx, .int .i64 dy, .int .i64 dz] 34)).heap.size := Nat.le_of_eq (allocs_size w [(.cells #[.int .i64 ax, .int .i64 ay, .int .i64 az, .int .i64 bx, .int .i64 by_, .int .i64 bz, .int .i64 cx, .int .i64 cy, .int .i64 cz, .int .i64 dx, .int .i64 dy, .int .i64 dz] 34)]).symm
  have kb0 : (w.alloc (.cells #[.int .i64 ax, .int .i64 ay, .int .i64 az, .int .i64 bx, .int .i64 by_, .int .i64 bz, .int .i64 cx, .int .i64 cy, .int .i64 cz, .int .i64 dx, .int .i64 dy, .int .i64 dz] 34)).heap[w.heap.size + 0]? = some (.cells #[.int .i64 ax, .int .i64 ay, .int .i64 az, .int .i64 bx, .int .i64 by_, .int .i64 bz, .int .i64 cx, .int .i64 cy, .int .i64 cz, .int .i64 dx, .int .i64 dy, .int .i64 dz] 34) := allocs_at w [(.cells #[.int .i64 ax, .int .i64 ay, .int .i64 az, .int .i64 bx, .int .i64 by_, .int .i64 bz, .int .i64 cx, .int .i64 cy, .int .i64 cz, .int .i64 dx, .int .i64 dy, .int .i64 dz] 34)] 0 rfl
  generalize (w.alloc (.cells #[.int .i64 ax, .int .i64 ay, .int .i64 az, .int .i64 bx, .int .i64 by_, .int .i64 bz, .int .i64 cx, .int .i64 cy, .int .i64 cz, .int .i64 dx, .int .i64 dy, .int .i64 dz] 34)) = w0 at *
  have k0_0 : w0.cell? ⟨w.heap.size, 0, none⟩ = some (.int .i64 ax) := (Blk.cell kb0 0).trans rfl
  have k0_1 : w0.cell? ⟨w.heap.size, 1, none⟩ = some (.int .i64 ay) := (Blk.cell kb0 1).trans rfl
  have k0_2 : w0.cell? ⟨w.heap.size, 2, none⟩ = some (.int .i64 az) := (Blk.cell kb0 2).trans rfl
  have k0_3 : w0.cell? ⟨w.heap.size, 3, none⟩ = some (.int .i64 bx) := (Blk.cell kb0 3).trans rfl
  have k0_4 : w0.cell? ⟨w.heap.size, 4, none⟩ = some (.int .i64 by_) := (Blk.cell kb0 4).trans rfl
  have k0_5 : w0.cell? ⟨w.heap.size, 5, none⟩ = some (.int .i64 bz) := (Blk.cell kb0 5).trans rfl
  have k0_6 : w0.cell? ⟨w.heap.size, 6, none⟩ = some (.int .i64 cx) := (Blk.cell kb0 6).trans rfl
  have k0_7 : w0.cell? ⟨w.heap.size, 7, none⟩ = some (.int .i64 cy) := (Blk.cell kb0 7).trans rfl
  have k0_8 : w0.cell? ⟨w.heap.size, 8, none⟩ = some (.int .i64 cz) := (Blk.cell kb0 8).trans rfl
  have k0_9 : w0.cell? ⟨w.heap.size, 9, none⟩ = some (.int .i64 dx) := (Blk.cell kb0 9).trans rfl
  have k0_10 : w0.cell? ⟨w.heap.size, 10, none⟩ = some (.int .i64 dy) := (Blk.cell kb0 10).trans rfl
  have k0_11 : w0.cell? ⟨w.heap.size, 11, none⟩ = some (.int .i64 dz) := (Blk.cell kb0 11).trans rfl
  clear kb0
  have SK : ∀ w', Below w0.heap.size w0 w' → Below w0.heap.size w0 w' ∧ w'.cell? ⟨w.heap.size, 0, none⟩ = some (.int .i64 ax) ∧ w'.cell? ⟨w.heap.size, 1, none⟩ = some (.int .i64 ay) ∧ w'.cell? ⟨w.heap.size, 2, none⟩ = some (.int .i64 az) ∧ w'.cell? ⟨w.heap.size, 3, none⟩ = some (.int .i64 bx) ∧ w'.cell? ⟨w.heap.size, 4, none⟩ = some (.int .i64 by_) ∧ w'.cell? ⟨w.heap.size, 5, none⟩ = some (.int .i64 bz) ∧ w'.cell? ⟨w.heap.size, 6, none⟩ = some (.int .i64 cx) ∧ w'.cell? ⟨w.heap.size, 7, none⟩ = some (.int .i64 cy) ∧ w'.cell? ⟨w.heap.size, 8, none⟩ = some (.int .i64 cz) ∧ w'.cell? ⟨w.heap.size, 9, none⟩ = some (.int .i64 dx) ∧ w'.cell? ⟨w.heap.size, 10, none⟩ = some (.int .i64 dy) ∧ w'.cell? ⟨w.heap.size, 11, none⟩ = some (.int .i64 dz) := fun w' h => ⟨h, (bcell h _ _ (by omega)).trans k0_0, (bcell h _ _ (by omega)).trans k0_1, (bcell h _ _ (by omega)).trans k0_2, (bcell h _ _ (by omega)).trans k0_3, (bcell h _ _ (by omega)).trans k0_4, (bcell h _ _ (by omega)).trans k0_5, (bcell h _ _ (by omega)).trans k0_6, (bcell h _ _ (by omega)).trans k0_7, (bcell h _ _ (by omega)).trans k0_8, (bcell h _ _ (by omega)).trans k0_9, (bcell h _ _ (by omega)).trans k0_10, (bcell h _ _ (by omega)).trans k0_11⟩
  have hsp : Sps w0 (.slice (some ⟨w.heap.size, 0, none⟩) 4 4) [(ax, ay, az), (bx, by_, bz), (cx, cy, cz), (dx, dy, dz)] := ⟨_, 4, rfl, fun _ => ⟨w.heap.size, 0, rfl, fun i p hi => by
    match i, hi with
    | 0, hi => cases hi; exact ⟨k0_0, k0_1, k0_2⟩
    | 1, hi => cases hi; exact ⟨k0_3, k0_4, k0_5⟩
    | 2, hi => cases hi; exact ⟨k0_6, k0_7, k0_8⟩
    | 3, hi => cases hi; exact ⟨k0_9, k0_10, k0_11⟩
    | j + 4, hi => simp at hi⟩⟩
  have HSP := hide hsp
  clear hsp
  go_wp2_with fail
  refine (containss_any _ _ [(ax, ay, az), (bx, by_, bz), (cx, cy, cz), (dx, dy, dz)] HSP.out (by simp)).mono ?_
  rw [hall]
  rintro e w1 ⟨rfl, hb1⟩
  have hL1 : Below w0.heap.size w0 w1 := hb1
  obtain ⟨-, c1_0, c1_1, c1_2, c1_3, c1_4, c1_5, c1_6, c1_7, c1_8, c1_9, c1_10, c1_11⟩ := SK _ hL1
  have HSa := hide (HS.out.below (hb0.trans (hL1.mono hb0.size)) (Nat.le_refl _))
  go_wp2_with fail
  refine (awake_any _ HSa.out).mono ?_
  rintro e w2 ⟨rfl, hbw2⟩
  have hL2 : Below w0.heap.size w0 w2 := hL1.trans (hbw2.mono hL1.size)
  have c2_0 := (bcell hbw2 _ _ (block_lt_of_cell c1_0)).trans c1_0
  have c2_1 := (bcell hbw2 _ _ (block_lt_of_cell c1_1)).trans c1_1
  have c2_2 := (bcell hbw2 _ _ (block_lt_of_cell c1_2)).trans c1_2
  have c2_3 := (bcell hbw2 _ _ (block_lt_of_cell c1_3)).trans c1_3
  have c2_4 := (bcell hbw2 _ _ (block_lt_of_cell c1_4)).trans c1_4
  have c2_5 := (bcell hbw2 _ _ (block_lt_of_cell c1_5)).trans c1_5
  have c2_6 := (bcell hbw2 _ _ (block_lt_of_cell c1_6)).trans c1_6
  have c2_7 := (bcell hbw2 _ _ (block_lt_of_cell c1_7)).trans c1_7
  have c2_8 := (bcell hbw2 _ _ (block_lt_of_cell c1_8)).trans c1_8
  have c2_9 := (bcell hbw2 _ _ (block_lt_of_cell c1_9)).trans c1_9
  have c2_10 := (bcell hbw2 _ _ (block_lt_of_cell c1_10)).trans c1_10
  have c2_11 := (bcell hbw2 _ _ (block_lt_of_cell c1_11)).trans c1_11
  clear c1_0 c1_1 c1_2 c1_3 c1_4 c1_5 c1_6 c1_7 c1_8 c1_9 c1_10 c1_11
  go_wp2_with fail
  go_ret
  exact ⟨rfl, hb0.trans (hL2.mono hb0.size)⟩

set_option maxRecDepth 100000 in
set_option maxHeartbeats 8000000 in
theorem normals_near (w : World) (ax ay az bx by_ bz cx cy cz dx dy dz : Int) (hall : [(ax, ay, az), (bx, by_, bz), (cx, cy, cz), (dx, dy, dz)].all smS = true) (hsm : (Sm ax ay ∧ Sm az 0) ∧ (Sm bx by_ ∧ Sm bz 0) ∧ (Sm cx cy ∧ Sm cz 0) ∧ (Sm dx dy ∧ Sm dz 0)) (hs : Std w) : Calls Tryz.prog 5 #[.agg #[.int .i64 ax, .int .i64 ay, .int .i64 az, .int .i64 bx, .int .i64 by_, .int .i64 bz, .int .i64 cx, .int .i64 cy, .int .i64 cz, .int .i64 dx, .int .i64 dy, .int .i64 dz]] w fun e w' => e = .returned (.bool true) ∧ Below w.heap.size w w' := by
  have HS := hide hs
  clear hs
  have hok : Co ax ∧ Co ay ∧ Co az ∧ Co bx ∧ Co by_ ∧ Co bz ∧ Co cx ∧ Co cy ∧ Co cz ∧ Co dx ∧ Co dy ∧ Co dz := by omega
  obtain ⟨m0a, m0b⟩ := mulB (x := by_ - ay) (y := cz - az) (M := 18000) (N := 18000) (by omega) (by omega)
  obtain ⟨m1a, m1b⟩ := mulB (x := bz - az) (y := cy - ay) (M := 18000) (N := 18000) (by omega) (by omega)
  obtain ⟨m2a, m2b⟩ := mulB (x := bz - az) (y := cx - ax) (M := 18000) (N := 18000) (by omega) (by omega)
  obtain ⟨m3a, m3b⟩ := mulB (x := bx - ax) (y := cz - az) (M := 18000) (N := 18000) (by omega) (by omega)
  obtain ⟨m4a, m4b⟩ := mulB (x := bx - ax) (y := cy - ay) (M := 18000) (N := 18000) (by omega) (by omega)
  obtain ⟨m5a, m5b⟩ := mulB (x := by_ - ay) (y := cx - ax) (M := 18000) (N := 18000) (by omega) (by omega)
  obtain ⟨N1, hN1⟩ : ∃ z : Int, (by_ - ay) * (cz - az) - (bz - az) * (cy - ay) = z := ⟨_, rfl⟩
  obtain ⟨N2, hN2⟩ : ∃ z : Int, (bz - az) * (cx - ax) - (bx - ax) * (cz - az) = z := ⟨_, rfl⟩
  obtain ⟨N3, hN3⟩ : ∃ z : Int, (bx - ax) * (cy - ay) - (by_ - ay) * (cx - ax) = z := ⟨_, rfl⟩
  have nb1 : -648000000 ≤ N1 ∧ N1 ≤ 648000000 := by omega
  have nb2 : -648000000 ≤ N2 ∧ N2 ≤ 648000000 := by omega
  have nb3 : -648000000 ≤ N3 ∧ N3 ≤ 648000000 := by omega
  have r1 : RN ((by_ - ay) * (cz - az) - (bz - az) * (cy - ay)) ((bz - az) * (cx - ax) - (bx - ax) * (cz - az)) ((bx - ax) * (cy - ay) - (by_ - ay) * (cx - ax)) (Co ax ∧ Co ay ∧ Co az ∧ Co bx ∧ Co by_ ∧ Co bz ∧ Co cx ∧ Co cy ∧ Co cz) = .tuple #[.agg #[.int .i64 N1, .int .i64 N2, .int .i64 N3], .int .i64 0] := (RN_pos _ _ _ (by omega)).trans (by rw [hN1, hN2, hN3])
  have z1 : N1 * (bx - ax) + N2 * (by_ - ay) + N3 * (bz - az) = 0 := by rw [← hN1, ← hN2, ← hN3]; grind
  have z2 : N1 * (cx - ax) + N2 * (cy - ay) + N3 * (cz - az) = 0 := by rw [← hN1, ← hN2, ← hN3]; grind
  obtain ⟨X, hX⟩ : ∃ z : Int, ((by_ - ay) * (cz - az) - (bz - az) * (cy - ay)) * (dx - ax) + ((bz - az) * (cx - ax) - (bx - ax) * (cz - az)) * (dy - ay) + ((bx - ax) * (cy - ay) - (by_ - ay) * (cx - ax)) * (dz - az) = z := ⟨_, rfl⟩
  have r2 : R2 (((by_ - ay) * (cz - az) - (bz - az) * (cy - ay)) * (dx - ax) + ((bz - az) * (cx - ax) - (bx - ax) * (cz - az)) * (dy - ay) + ((bx - ax) * (cy - ay) - (by_ - ay) * (cx - ax)) * (dz - az)) (Co ax ∧ Co ay ∧ Co az ∧ Co bx ∧ Co by_ ∧ Co bz ∧ Co cx ∧ Co cy ∧ Co cz ∧ Co dx ∧ Co dy ∧ Co dz) = .tuple #[.int .i64 (X), .int .i64 0] := (R2_pos _ (by omega)).trans (by rw [show ((by_ - ay) * (cz - az) - (bz - az) * (cy - ay)) * (dx - ax) + ((bz - az) * (cx - ax) - (bx - ax) * (cz - az)) * (dy - ay) + ((bx - ax) * (cy - ay) - (by_ - ay) * (cx - ax)) * (dz - az) = X by exact hX])
  have r3 : R2 (((ay - by_) * (cz - bz) - (az - bz) * (cy - by_)) * (dx - bx) + ((az - bz) * (cx - bx) - (ax - bx) * (cz - bz)) * (dy - by_) + ((ax - bx) * (cy - by_) - (ay - by_) * (cx - bx)) * (dz - bz)) (Co bx ∧ Co by_ ∧ Co bz ∧ Co ax ∧ Co ay ∧ Co az ∧ Co cx ∧ Co cy ∧ Co cz ∧ Co dx ∧ Co dy ∧ Co dz) = .tuple #[.int .i64 (-X), .int .i64 0] := (R2_pos _ (by omega)).trans (by rw [show ((ay - by_) * (cz - bz) - (az - bz) * (cy - by_)) * (dx - bx) + ((az - bz) * (cx - bx) - (ax - bx) * (cz - bz)) * (dy - by_) + ((ax - bx) * (cy - by_) - (ay - by_) * (cx - bx)) * (dz - bz) = -X by rw [← hX]; grind])
  have r4 : R2 (((cy - by_) * (dz - bz) - (cz - bz) * (dy - by_)) * (ax - bx) + ((cz - bz) * (dx - bx) - (cx - bx) * (dz - bz)) * (ay - by_) + ((cx - bx) * (dy - by_) - (cy - by_) * (dx - bx)) * (az - bz)) (Co bx ∧ Co by_ ∧ Co bz ∧ Co cx ∧ Co cy ∧ Co cz ∧ Co dx ∧ Co dy ∧ Co dz ∧ Co ax ∧ Co ay ∧ Co az) = .tuple #[.int .i64 (-X), .int .i64 0] := (R2_pos _ (by omega)).trans (by rw [show ((cy - by_) * (dz - bz) - (cz - bz) * (dy - by_)) * (ax - bx) + ((cz - bz) * (dx - bx) - (cx - bx) * (dz - bz)) * (ay - by_) + ((cx - bx) * (dy - by_) - (cy - by_) * (dx - bx)) * (az - bz) = -X by rw [← hX]; grind])
  have hXb1 := mulB (x := N1) (y := dx - ax) (M := 648000000) (N := 18000) nb1 (by omega)
  have hXb2 := mulB (x := N2) (y := dy - ay) (M := 648000000) (N := 18000) nb2 (by omega)
  have hXb3 := mulB (x := N3) (y := dz - az) (M := 648000000) (N := 18000) nb3 (by omega)
  have xb : -100000000000000 ≤ X ∧ X ≤ 100000000000000 := by rw [← hX, hN1, hN2, hN3]; omega
  have y01 := mulB (x := N1) (y := bx - ax) (M := 648000000) (N := 18000) nb1 (by omega)
  have y02 := mulB (x := N2) (y := by_ - ay) (M := 648000000) (N := 18000) nb2 (by omega)
  have y03 := mulB (x := N3) (y := bz - az) (M := 648000000) (N := 18000) nb3 (by omega)
  have y11 := mulB (x := N1) (y := cx - ax) (M := 648000000) (N := 18000) nb1 (by omega)
  have y12 := mulB (x := N2) (y := cy - ay) (M := 648000000) (N := 18000) nb2 (by omega)
  have y13 := mulB (x := N3) (y := cz - az) (M := 648000000) (N := 18000) nb3 (by omega)
  have r1 := hide r1
  have r2 := hide r2
  have r3 := hide r3
  have r4 := hide r4
  have z1 := hide z1
  have z2 := hide z2
  have hok := hide hok
  clear hX hN1 hN2 hN3 hXb1 hXb2 hXb3 m0a m0b m1a m1b m2a m2b m3a m3b m4a m4b m5a m5b
  go_enter Tryz.func5, Tryz.ntmps5
  go_upto_region 1 with (fail)
  have hb0 : Below w.heap.size w (w.alloc (.cells #[.int .i64 ax, .int .i64 ay, .int .i64 az, .int .i64 bx, .int .i64 by_, .int .i64 bz, .int .i64 cx, .int .i64 cy, .int .i64 cz, .int .i64 dx, .int .i64 dy, .int .i64 dz] 34)) := allocs_below w [(.cells #[.int .i64 ax, .int .i64 ay, .int .i64 az, .int .i64 bx, .int .i64 by_, .int .i64 bz, .int .i64 cx, .int .i64 cy, .int .i64 cz, .int .i64 dx, .int .i64 dy, .int .i64 dz] 34)]
  have s0 : w.heap.size + 1 ≤ (w.alloc (.cells #[.int .i64 ax, .int .i64 ay, .int .i64 az, .int .i64 bx, .int .i64 by_, .int .i64 bz, .int .i64 cx, .int .i64 cy, .int .i64 cz, .int .i64 dx, .int .i64 dy, .int .i64 dz] 34)).heap.size := Nat.le_of_eq (allocs_size w [(.cells #[.int .i64 ax, .int .i64 ay, .int .i64 az, .int .i64 bx, .int .i64 by_, .int .i64 bz, .int .i64 cx, .int .i64 cy, .int .i64 cz, .int .i64 dx, .int .i64 dy, .int .i64 dz] 34)]).symm
  have kb0 : (w.alloc (.cells #[.int .i64 ax, .int .i64 ay, .int .i64 az, .int .i64 bx, .int .i64 by_, .int .i64 bz, .int .i64 cx, .int .i64 cy, .int .i64 cz, .int .i64 dx, .int .i64 dy, .int .i64 dz] 34)).heap[w.heap.size + 0]? = some (.cells #[.int .i64 ax, .int .i64 ay, .int .i64 az, .int .i64 bx, .int .i64 by_, .int .i64 bz, .int .i64 cx, .int .i64 cy, .int .i64 cz, .int .i64 dx, .int .i64 dy, .int .i64 dz] 34) := allocs_at w [(.cells #[.int .i64 ax, .int .i64 ay, .int .i64 az, .int .i64 bx, .int .i64 by_, .int .i64 bz, .int .i64 cx, .int .i64 cy, .int .i64 cz, .int .i64 dx, .int .i64 dy, .int .i64 dz] 34)] 0 rfl
  generalize (w.alloc (.cells #[.int .i64 ax, .int .i64 ay, .int .i64 az, .int .i64 bx, .int .i64 by_, .int .i64 bz, .int .i64 cx, .int .i64 cy, .int .i64 cz, .int .i64 dx, .int .i64 dy, .int .i64 dz] 34)) = w0 at *
  have k0_0 : w0.cell? ⟨w.heap.size, 0, none⟩ = some (.int .i64 ax) := (Blk.cell kb0 0).trans rfl
  have k0_1 : w0.cell? ⟨w.heap.size, 1, none⟩ = some (.int .i64 ay) := (Blk.cell kb0 1).trans rfl
  have k0_2 : w0.cell? ⟨w.heap.size, 2, none⟩ = some (.int .i64 az) := (Blk.cell kb0 2).trans rfl
  have k0_3 : w0.cell? ⟨w.heap.size, 3, none⟩ = some (.int .i64 bx) := (Blk.cell kb0 3).trans rfl
  have k0_4 : w0.cell? ⟨w.heap.size, 4, none⟩ = some (.int .i64 by_) := (Blk.cell kb0 4).trans rfl
  have k0_5 : w0.cell? ⟨w.heap.size, 5, none⟩ = some (.int .i64 bz) := (Blk.cell kb0 5).trans rfl
  have k0_6 : w0.cell? ⟨w.heap.size, 6, none⟩ = some (.int .i64 cx) := (Blk.cell kb0 6).trans rfl
  have k0_7 : w0.cell? ⟨w.heap.size, 7, none⟩ = some (.int .i64 cy) := (Blk.cell kb0 7).trans rfl
  have k0_8 : w0.cell? ⟨w.heap.size, 8, none⟩ = some (.int .i64 cz) := (Blk.cell kb0 8).trans rfl
  have k0_9 : w0.cell? ⟨w.heap.size, 9, none⟩ = some (.int .i64 dx) := (Blk.cell kb0 9).trans rfl
  have k0_10 : w0.cell? ⟨w.heap.size, 10, none⟩ = some (.int .i64 dy) := (Blk.cell kb0 10).trans rfl
  have k0_11 : w0.cell? ⟨w.heap.size, 11, none⟩ = some (.int .i64 dz) := (Blk.cell kb0 11).trans rfl
  clear kb0
  have SK : ∀ w', Below w0.heap.size w0 w' → Below w0.heap.size w0 w' ∧ w'.cell? ⟨w.heap.size, 0, none⟩ = some (.int .i64 ax) ∧ w'.cell? ⟨w.heap.size, 1, none⟩ = some (.int .i64 ay) ∧ w'.cell? ⟨w.heap.size, 2, none⟩ = some (.int .i64 az) ∧ w'.cell? ⟨w.heap.size, 3, none⟩ = some (.int .i64 bx) ∧ w'.cell? ⟨w.heap.size, 4, none⟩ = some (.int .i64 by_) ∧ w'.cell? ⟨w.heap.size, 5, none⟩ = some (.int .i64 bz) ∧ w'.cell? ⟨w.heap.size, 6, none⟩ = some (.int .i64 cx) ∧ w'.cell? ⟨w.heap.size, 7, none⟩ = some (.int .i64 cy) ∧ w'.cell? ⟨w.heap.size, 8, none⟩ = some (.int .i64 cz) ∧ w'.cell? ⟨w.heap.size, 9, none⟩ = some (.int .i64 dx) ∧ w'.cell? ⟨w.heap.size, 10, none⟩ = some (.int .i64 dy) ∧ w'.cell? ⟨w.heap.size, 11, none⟩ = some (.int .i64 dz) := fun w' h => ⟨h, (bcell h _ _ (by omega)).trans k0_0, (bcell h _ _ (by omega)).trans k0_1, (bcell h _ _ (by omega)).trans k0_2, (bcell h _ _ (by omega)).trans k0_3, (bcell h _ _ (by omega)).trans k0_4, (bcell h _ _ (by omega)).trans k0_5, (bcell h _ _ (by omega)).trans k0_6, (bcell h _ _ (by omega)).trans k0_7, (bcell h _ _ (by omega)).trans k0_8, (bcell h _ _ (by omega)).trans k0_9, (bcell h _ _ (by omega)).trans k0_10, (bcell h _ _ (by omega)).trans k0_11⟩
  have hsp : Sps w0 (.slice (some ⟨w.heap.size, 0, none⟩) 4 4) [(ax, ay, az), (bx, by_, bz), (cx, cy, cz), (dx, dy, dz)] := ⟨_, 4, rfl, fun _ => ⟨w.heap.size, 0, rfl, fun i p hi => by
    match i, hi with
    | 0, hi => cases hi; exact ⟨k0_0, k0_1, k0_2⟩
    | 1, hi => cases hi; exact ⟨k0_3, k0_4, k0_5⟩
    | 2, hi => cases hi; exact ⟨k0_6, k0_7, k0_8⟩
    | 3, hi => cases hi; exact ⟨k0_9, k0_10, k0_11⟩
    | j + 4, hi => simp at hi⟩⟩
  have HSP := hide hsp
  clear hsp
  go_wp2_with fail
  refine (containss_any _ _ [(ax, ay, az), (bx, by_, bz), (cx, cy, cz), (dx, dy, dz)] HSP.out (by simp)).mono ?_
  rw [hall]
  rintro e w1 ⟨rfl, hb1⟩
  have hL1 : Below w0.heap.size w0 w1 := hb1
  obtain ⟨-, c1_0, c1_1, c1_2, c1_3, c1_4, c1_5, c1_6, c1_7, c1_8, c1_9, c1_10, c1_11⟩ := SK _ hL1
  go_wp2_with fail
  refine (Normal_any _ ax ay az bx by_ bz cx cy cz).mono ?_
  rw [r1.out]
  rintro e w2 ⟨rfl, hb2⟩
  have hL2 : Below w0.heap.size w0 w2 := hL1.trans (hb2.mono hL1.size)
  have c2_0 := (bcell hb2 _ _ (block_lt_of_cell c1_0)).trans c1_0
  have c2_1 := (bcell hb2 _ _ (block_lt_of_cell c1_1)).trans c1_1
  have c2_2 := (bcell hb2 _ _ (block_lt_of_cell c1_2)).trans c1_2
  have c2_3 := (bcell hb2 _ _ (block_lt_of_cell c1_3)).trans c1_3
  have c2_4 := (bcell hb2 _ _ (block_lt_of_cell c1_4)).trans c1_4
  have c2_5 := (bcell hb2 _ _ (block_lt_of_cell c1_5)).trans c1_5
  have c2_6 := (bcell hb2 _ _ (block_lt_of_cell c1_6)).trans c1_6
  have c2_7 := (bcell hb2 _ _ (block_lt_of_cell c1_7)).trans c1_7
  have c2_8 := (bcell hb2 _ _ (block_lt_of_cell c1_8)).trans c1_8
  have c2_9 := (bcell hb2 _ _ (block_lt_of_cell c1_9)).trans c1_9
  have c2_10 := (bcell hb2 _ _ (block_lt_of_cell c1_10)).trans c1_10
  have c2_11 := (bcell hb2 _ _ (block_lt_of_cell c1_11)).trans c1_11
  clear c1_0 c1_1 c1_2 c1_3 c1_4 c1_5 c1_6 c1_7 c1_8 c1_9 c1_10 c1_11
  go_upto_region 4 with (fail)
  have hA := Blk.new w2 35 #[.int .i64 N1, .int .i64 N2, .int .i64 N3]
  have gA : Below w2.heap.size w2 (w2.alloc (.cells #[.int .i64 N1, .int .i64 N2, .int .i64 N3] 35)) := (Below.refl _ _).alloc (Nat.le_refl _) _
  generalize (w2.alloc (.cells #[.int .i64 N1, .int .i64 N2, .int .i64 N3] 35)) = w3 at *
  have hL3 : Below w0.heap.size w0 w3 := hL2.trans (gA.mono hL2.size)
  have c3_0 := (bcell gA _ _ (block_lt_of_cell c2_0)).trans c2_0
  have c3_1 := (bcell gA _ _ (block_lt_of_cell c2_1)).trans c2_1
  have c3_2 := (bcell gA _ _ (block_lt_of_cell c2_2)).trans c2_2
  have c3_3 := (bcell gA _ _ (block_lt_of_cell c2_3)).trans c2_3
  have c3_4 := (bcell gA _ _ (block_lt_of_cell c2_4)).trans c2_4
  have c3_5 := (bcell gA _ _ (block_lt_of_cell c2_5)).trans c2_5
  have c3_6 := (bcell gA _ _ (block_lt_of_cell c2_6)).trans c2_6
  have c3_7 := (bcell gA _ _ (block_lt_of_cell c2_7)).trans c2_7
  have c3_8 := (bcell gA _ _ (block_lt_of_cell c2_8)).trans c2_8
  have c3_9 := (bcell gA _ _ (block_lt_of_cell c2_9)).trans c2_9
  have c3_10 := (bcell gA _ _ (block_lt_of_cell c2_10)).trans c2_10
  have c3_11 := (bcell gA _ _ (block_lt_of_cell c2_11)).trans c2_11
  clear c2_0 c2_1 c2_2 c2_3 c2_4 c2_5 c2_6 c2_7 c2_8 c2_9 c2_10 c2_11
  have k3_0 : w3.cell? ⟨w2.heap.size, 0, none⟩ = some (.int .i64 N1) := (Blk.cell hA 0).trans rfl
  have k3_1 : w3.cell? ⟨w2.heap.size, 1, none⟩ = some (.int .i64 N2) := (Blk.cell hA 1).trans rfl
  have k3_2 : w3.cell? ⟨w2.heap.size, 2, none⟩ = some (.int .i64 N3) := (Blk.cell hA 2).trans rfl
  clear hA
  go_wp2_with fail
  go_loopg [28] 2 (fun k i wr => ∃ j : Nat, i = .int .i64 (j : Int) ∧ k + j = 2 ∧ Below w3.heap.size w3 wr)
  case atStart => exact ⟨0, rfl, rfl, Below.refl _ _⟩
  case round =>
    obtain ⟨j, rfl, hk, hbr⟩ := hrel
    have hj : j = 0 ∨ j = 1 ∨ j = 2 := by omega
    have hL4 : Below w0.heap.size w0 wr := hL3.trans (hbr.mono hL3.size)
    have c4_0 := (bcell hbr _ _ (block_lt_of_cell c3_0)).trans c3_0
    have c4_1 := (bcell hbr _ _ (block_lt_of_cell c3_1)).trans c3_1
    have c4_2 := (bcell hbr _ _ (block_lt_of_cell c3_2)).trans c3_2
    have c4_3 := (bcell hbr _ _ (block_lt_of_cell c3_3)).trans c3_3
    have c4_4 := (bcell hbr _ _ (block_lt_of_cell c3_4)).trans c3_4
    have c4_5 := (bcell hbr _ _ (block_lt_of_cell c3_5)).trans c3_5
    have c4_6 := (bcell hbr _ _ (block_lt_of_cell c3_6)).trans c3_6
    have c4_7 := (bcell hbr _ _ (block_lt_of_cell c3_7)).trans c3_7
    have c4_8 := (bcell hbr _ _ (block_lt_of_cell c3_8)).trans c3_8
    have c4_9 := (bcell hbr _ _ (block_lt_of_cell c3_9)).trans c3_9
    have c4_10 := (bcell hbr _ _ (block_lt_of_cell c3_10)).trans c3_10
    have c4_11 := (bcell hbr _ _ (block_lt_of_cell c3_11)).trans c3_11
    have c4_12 := (bcell hbr _ _ (block_lt_of_cell k3_0)).trans k3_0
    have c4_13 := (bcell hbr _ _ (block_lt_of_cell k3_1)).trans k3_1
    have c4_14 := (bcell hbr _ _ (block_lt_of_cell k3_2)).trans k3_2
    clear c3_0 c3_1 c3_2 c3_3 c3_4 c3_5 c3_6 c3_7 c3_8 c3_9 c3_10 c3_11 k3_0 k3_1 k3_2
    rcases hj with rfl | rfl | rfl
    · go_upto_region 7 with (fail)
      have hP := Blk.new wr 33 #[.int .i64 bx, .int .i64 by_, .int .i64 bz]
      have gP : Below wr.heap.size wr (wr.alloc (.cells #[.int .i64 bx, .int .i64 by_, .int .i64 bz] 33)) := (Below.refl _ _).alloc (Nat.le_refl _) _
      generalize (wr.alloc (.cells #[.int .i64 bx, .int .i64 by_, .int .i64 bz] 33)) = w4 at *
      have p0 : w4.cell? ⟨wr.heap.size, 0, none⟩ = some (.int .i64 bx) := (Blk.cell hP 0).trans rfl
      have p1 : w4.cell? ⟨wr.heap.size, 1, none⟩ = some (.int .i64 by_) := (Blk.cell hP 1).trans rfl
      have p2 : w4.cell? ⟨wr.heap.size, 2, none⟩ = some (.int .i64 bz) := (Blk.cell hP 2).trans rfl
      have e0 := (bcell gP _ _ (block_lt_of_cell c4_0)).trans c4_0
      have e1 := (bcell gP _ _ (block_lt_of_cell c4_1)).trans c4_1
      have e2 := (bcell gP _ _ (block_lt_of_cell c4_2)).trans c4_2
      have e3 := (bcell gP _ _ (block_lt_of_cell c4_3)).trans c4_3
      have e4 := (bcell gP _ _ (block_lt_of_cell c4_4)).trans c4_4
      have e5 := (bcell gP _ _ (block_lt_of_cell c4_5)).trans c4_5
      have e6 := (bcell gP _ _ (block_lt_of_cell c4_6)).trans c4_6
      have e7 := (bcell gP _ _ (block_lt_of_cell c4_7)).trans c4_7
      have e8 := (bcell gP _ _ (block_lt_of_cell c4_8)).trans c4_8
      have e9 := (bcell gP _ _ (block_lt_of_cell c4_9)).trans c4_9
      have e10 := (bcell gP _ _ (block_lt_of_cell c4_10)).trans c4_10
      have e11 := (bcell gP _ _ (block_lt_of_cell c4_11)).trans c4_11
      have e12 := (bcell gP _ _ (block_lt_of_cell c4_12)).trans c4_12
      have e13 := (bcell gP _ _ (block_lt_of_cell c4_13)).trans c4_13
      have e14 := (bcell gP _ _ (block_lt_of_cell c4_14)).trans c4_14
      have HG := hide (hbr.trans (gP.mono hbr.size))
      clear hP gP hbr c4_0 c4_1 c4_2 c4_3 c4_4 c4_5 c4_6 c4_7 c4_8 c4_9 c4_10 c4_11 c4_12 c4_13 c4_14
      have hz : (N1 * (bx - ax) + N2 * (by_ - ay) + N3 * (bz - az) != 0) = false := by rw [z1.out]; rfl
      go_wp2_with fail
      go_roundg 1
      case measure => omega
      case rel => exact ⟨1, rfl, rfl, HG.out⟩
    · go_upto_region 7 with (fail)
      have hP := Blk.new wr 33 #[.int .i64 cx, .int .i64 cy, .int .i64 cz]
      have gP : Below wr.heap.size wr (wr.alloc (.cells #[.int .i64 cx, .int .i64 cy, .int .i64 cz] 33)) := (Below.refl _ _).alloc (Nat.le_refl _) _
      generalize (wr.alloc (.cells #[.int .i64 cx, .int .i64 cy, .int .i64 cz] 33)) = w4 at *
      have p0 : w4.cell? ⟨wr.heap.size, 0, none⟩ = some (.int .i64 cx) := (Blk.cell hP 0).trans rfl
      have p1 : w4.cell? ⟨wr.heap.size, 1, none⟩ = some (.int .i64 cy) := (Blk.cell hP 1).trans rfl
      have p2 : w4.cell? ⟨wr.heap.size, 2, none⟩ = some (.int .i64 cz) := (Blk.cell hP 2).trans rfl
      have e0 := (bcell gP _ _ (block_lt_of_cell c4_0)).trans c4_0
      have e1 := (bcell gP _ _ (block_lt_of_cell c4_1)).trans c4_1
      have e2 := (bcell gP _ _ (block_lt_of_cell c4_2)).trans c4_2
      have e3 := (bcell gP _ _ (block_lt_of_cell c4_3)).trans c4_3
      have e4 := (bcell gP _ _ (block_lt_of_cell c4_4)).trans c4_4
      have e5 := (bcell gP _ _ (block_lt_of_cell c4_5)).trans c4_5
      have e6 := (bcell gP _ _ (block_lt_of_cell c4_6)).trans c4_6
      have e7 := (bcell gP _ _ (block_lt_of_cell c4_7)).trans c4_7
      have e8 := (bcell gP _ _ (block_lt_of_cell c4_8)).trans c4_8
      have e9 := (bcell gP _ _ (block_lt_of_cell c4_9)).trans c4_9
      have e10 := (bcell gP _ _ (block_lt_of_cell c4_10)).trans c4_10
      have e11 := (bcell gP _ _ (block_lt_of_cell c4_11)).trans c4_11
      have e12 := (bcell gP _ _ (block_lt_of_cell c4_12)).trans c4_12
      have e13 := (bcell gP _ _ (block_lt_of_cell c4_13)).trans c4_13
      have e14 := (bcell gP _ _ (block_lt_of_cell c4_14)).trans c4_14
      have HG := hide (hbr.trans (gP.mono hbr.size))
      clear hP gP hbr c4_0 c4_1 c4_2 c4_3 c4_4 c4_5 c4_6 c4_7 c4_8 c4_9 c4_10 c4_11 c4_12 c4_13 c4_14
      have hz : (N1 * (cx - ax) + N2 * (cy - ay) + N3 * (cz - az) != 0) = false := by rw [z2.out]; rfl
      go_wp2_with fail
      go_roundg 0
      case measure => omega
      case rel => exact ⟨2, rfl, rfl, HG.out⟩
    · have h22 : ¬ ((2 : Nat) : Int) < 2 := by omega
      clear hbr
      go_wp2_with fail
      refine (Volume_any _ ax ay az bx by_ bz cx cy cz dx dy dz).mono ?_
      rw [r2.out]
      rintro e w5 ⟨rfl, hbw5⟩
      have hL5 : Below w0.heap.size w0 w5 := hL4.trans (hbw5.mono hL4.size)
      have c5_0 := (bcell hbw5 _ _ (block_lt_of_cell c4_0)).trans c4_0
      have c5_1 := (bcell hbw5 _ _ (block_lt_of_cell c4_1)).trans c4_1
      have c5_2 := (bcell hbw5 _ _ (block_lt_of_cell c4_2)).trans c4_2
      have c5_3 := (bcell hbw5 _ _ (block_lt_of_cell c4_3)).trans c4_3
      have c5_4 := (bcell hbw5 _ _ (block_lt_of_cell c4_4)).trans c4_4
      have c5_5 := (bcell hbw5 _ _ (block_lt_of_cell c4_5)).trans c4_5
      have c5_6 := (bcell hbw5 _ _ (block_lt_of_cell c4_6)).trans c4_6
      have c5_7 := (bcell hbw5 _ _ (block_lt_of_cell c4_7)).trans c4_7
      have c5_8 := (bcell hbw5 _ _ (block_lt_of_cell c4_8)).trans c4_8
      have c5_9 := (bcell hbw5 _ _ (block_lt_of_cell c4_9)).trans c4_9
      have c5_10 := (bcell hbw5 _ _ (block_lt_of_cell c4_10)).trans c4_10
      have c5_11 := (bcell hbw5 _ _ (block_lt_of_cell c4_11)).trans c4_11
      have c5_12 := (bcell hbw5 _ _ (block_lt_of_cell c4_12)).trans c4_12
      have c5_13 := (bcell hbw5 _ _ (block_lt_of_cell c4_13)).trans c4_13
      have c5_14 := (bcell hbw5 _ _ (block_lt_of_cell c4_14)).trans c4_14
      clear c4_0 c4_1 c4_2 c4_3 c4_4 c4_5 c4_6 c4_7 c4_8 c4_9 c4_10 c4_11 c4_12 c4_13 c4_14
      go_wp2_with fail
      refine (Volume_any _ bx by_ bz ax ay az cx cy cz dx dy dz).mono ?_
      rw [r3.out]
      rintro e w6 ⟨rfl, hbw6⟩
      have hL6 : Below w0.heap.size w0 w6 := hL5.trans (hbw6.mono hL5.size)
      have c6_0 := (bcell hbw6 _ _ (block_lt_of_cell c5_0)).trans c5_0
      have c6_1 := (bcell hbw6 _ _ (block_lt_of_cell c5_1)).trans c5_1
      have c6_2 := (bcell hbw6 _ _ (block_lt_of_cell c5_2)).trans c5_2
      have c6_3 := (bcell hbw6 _ _ (block_lt_of_cell c5_3)).trans c5_3
      have c6_4 := (bcell hbw6 _ _ (block_lt_of_cell c5_4)).trans c5_4
      have c6_5 := (bcell hbw6 _ _ (block_lt_of_cell c5_5)).trans c5_5
      have c6_6 := (bcell hbw6 _ _ (block_lt_of_cell c5_6)).trans c5_6
      have c6_7 := (bcell hbw6 _ _ (block_lt_of_cell c5_7)).trans c5_7
      have c6_8 := (bcell hbw6 _ _ (block_lt_of_cell c5_8)).trans c5_8
      have c6_9 := (bcell hbw6 _ _ (block_lt_of_cell c5_9)).trans c5_9
      have c6_10 := (bcell hbw6 _ _ (block_lt_of_cell c5_10)).trans c5_10
      have c6_11 := (bcell hbw6 _ _ (block_lt_of_cell c5_11)).trans c5_11
      have c6_12 := (bcell hbw6 _ _ (block_lt_of_cell c5_12)).trans c5_12
      have c6_13 := (bcell hbw6 _ _ (block_lt_of_cell c5_13)).trans c5_13
      have c6_14 := (bcell hbw6 _ _ (block_lt_of_cell c5_14)).trans c5_14
      clear c5_0 c5_1 c5_2 c5_3 c5_4 c5_5 c5_6 c5_7 c5_8 c5_9 c5_10 c5_11 c5_12 c5_13 c5_14
      go_wp2_with fail
      refine (Volume_any _ bx by_ bz cx cy cz dx dy dz ax ay az).mono ?_
      rw [r4.out]
      rintro e w7 ⟨rfl, hbw7⟩
      have hL7 : Below w0.heap.size w0 w7 := hL6.trans (hbw7.mono hL6.size)
      have c7_0 := (bcell hbw7 _ _ (block_lt_of_cell c6_0)).trans c6_0
      have c7_1 := (bcell hbw7 _ _ (block_lt_of_cell c6_1)).trans c6_1
      have c7_2 := (bcell hbw7 _ _ (block_lt_of_cell c6_2)).trans c6_2
      have c7_3 := (bcell hbw7 _ _ (block_lt_of_cell c6_3)).trans c6_3
      have c7_4 := (bcell hbw7 _ _ (block_lt_of_cell c6_4)).trans c6_4
      have c7_5 := (bcell hbw7 _ _ (block_lt_of_cell c6_5)).trans c6_5
      have c7_6 := (bcell hbw7 _ _ (block_lt_of_cell c6_6)).trans c6_6
      have c7_7 := (bcell hbw7 _ _ (block_lt_of_cell c6_7)).trans c6_7
      have c7_8 := (bcell hbw7 _ _ (block_lt_of_cell c6_8)).trans c6_8
      have c7_9 := (bcell hbw7 _ _ (block_lt_of_cell c6_9)).trans c6_9
      have c7_10 := (bcell hbw7 _ _ (block_lt_of_cell c6_10)).trans c6_10
      have c7_11 := (bcell hbw7 _ _ (block_lt_of_cell c6_11)).trans c6_11
      have c7_12 := (bcell hbw7 _ _ (block_lt_of_cell c6_12)).trans c6_12
      have c7_13 := (bcell hbw7 _ _ (block_lt_of_cell c6_13)).trans c6_13
      have c7_14 := (bcell hbw7 _ _ (block_lt_of_cell c6_14)).trans c6_14
      clear c6_0 c6_1 c6_2 c6_3 c6_4 c6_5 c6_6 c6_7 c6_8 c6_9 c6_10 c6_11 c6_12 c6_13 c6_14
      have HSa := hide (HS.out.below (hb0.trans (hL7.mono hb0.size)) (Nat.le_refl _))
      go_wp2_with fail
      refine (awake_any _ HSa.out).mono ?_
      rintro e w9 ⟨rfl, hbw9⟩
      have hL8 : Below w0.heap.size w0 w9 := hL7.trans (hbw9.mono hL7.size)
      have c8_0 := (bcell hbw9 _ _ (block_lt_of_cell c7_0)).trans c7_0
      have c8_1 := (bcell hbw9 _ _ (block_lt_of_cell c7_1)).trans c7_1
      have c8_2 := (bcell hbw9 _ _ (block_lt_of_cell c7_2)).trans c7_2
      have c8_3 := (bcell hbw9 _ _ (block_lt_of_cell c7_3)).trans c7_3
      have c8_4 := (bcell hbw9 _ _ (block_lt_of_cell c7_4)).trans c7_4
      have c8_5 := (bcell hbw9 _ _ (block_lt_of_cell c7_5)).trans c7_5
      have c8_6 := (bcell hbw9 _ _ (block_lt_of_cell c7_6)).trans c7_6
      have c8_7 := (bcell hbw9 _ _ (block_lt_of_cell c7_7)).trans c7_7
      have c8_8 := (bcell hbw9 _ _ (block_lt_of_cell c7_8)).trans c7_8
      have c8_9 := (bcell hbw9 _ _ (block_lt_of_cell c7_9)).trans c7_9
      have c8_10 := (bcell hbw9 _ _ (block_lt_of_cell c7_10)).trans c7_10
      have c8_11 := (bcell hbw9 _ _ (block_lt_of_cell c7_11)).trans c7_11
      have c8_12 := (bcell hbw9 _ _ (block_lt_of_cell c7_12)).trans c7_12
      have c8_13 := (bcell hbw9 _ _ (block_lt_of_cell c7_13)).trans c7_13
      have c8_14 := (bcell hbw9 _ _ (block_lt_of_cell c7_14)).trans c7_14
      clear c7_0 c7_1 c7_2 c7_3 c7_4 c7_5 c7_6 c7_7 c7_8 c7_9 c7_10 c7_11 c7_12 c7_13 c7_14
      go_wp2_with fail
      go_ret
      exact ⟨rfl, hb0.trans (hL8.mono hb0.size)⟩

theorem normals_any (w : World) (ax ay az bx by_ bz cx cy cz dx dy dz : Int) (hs : Std w) : Calls Tryz.prog 5 #[.agg #[.int .i64 ax, .int .i64 ay, .int .i64 az, .int .i64 bx, .int .i64 by_, .int .i64 bz, .int .i64 cx, .int .i64 cy, .int .i64 cz, .int .i64 dx, .int .i64 dy, .int .i64 dz]] w fun e w' => e = .returned (.bool true) ∧ Below w.heap.size w w' := by
  by_cases hsm : (Sm ax ay ∧ Sm az 0) ∧ (Sm bx by_ ∧ Sm bz 0) ∧ (Sm cx cy ∧ Sm cz 0) ∧ (Sm dx dy ∧ Sm dz 0)
  · have hall : [(ax, ay, az), (bx, by_, bz), (cx, cy, cz), (dx, dy, dz)].all smS = true := by simp only [List.all_cons, List.all_nil, smS, Bool.and_true, Bool.and_eq_true, decide_eq_true_eq]; exact hsm
    exact normals_near w ax ay az bx by_ bz cx cy cz dx dy dz hall hsm hs
  · have hall : [(ax, ay, az), (bx, by_, bz), (cx, cy, cz), (dx, dy, dz)].all smS = false := by
      rw [← Bool.not_eq_true]
      intro h
      simp only [List.all_cons, List.all_nil, smS, Bool.and_true, Bool.and_eq_true, decide_eq_true_eq] at h
      exact hsm h
    exact normals_far w ax ay az bx by_ bz cx cy cz dx dy dz hall hs

end Go.Proofs.YtblfinpfcpglcaaGreatDoor
