/- VectorSolids: the walk. -/
import Derived.Test.YtblfinpfcpglcaaGreatDoorAwake
import Derived.Test.YtblfinpfcpglcaaGreatDoorRplane
namespace Go.Proofs.YtblfinpfcpglcaaGreatDoor
open Go.RowKit MLab

set_option maxRecDepth 100000 in
set_option maxHeartbeats 8000000 in
theorem solids_any (w : World) (ax ay az bx by_ bz cx cy cz dx dy dz : Int) (hs : Std w) : Calls Tryz.prog 4 #[.agg #[.int .i64 ax, .int .i64 ay, .int .i64 az, .int .i64 bx, .int .i64 by_, .int .i64 bz, .int .i64 cx, .int .i64 cy, .int .i64 cz, .int .i64 dx, .int .i64 dy, .int .i64 dz]] w fun e w' => e = .returned (.bool true) ∧ Below w.heap.size w w' := by
  have HS := hide hs
  clear hs
  have hF : (ax - bx) * (ax - bx) + (ay - by_) * (ay - by_) + (az - bz) * (az - bz) = (bx - ax) * (bx - ax) + (by_ - ay) * (by_ - ay) + (bz - az) * (bz - az) := by grind
  obtain ⟨N1, N2, N3, E1, hR1⟩ : ∃ x y z E, RN ((by_ - ay) * (cz - az) - (bz - az) * (cy - ay)) ((bz - az) * (cx - ax) - (bx - ax) * (cz - az)) ((bx - ax) * (cy - ay) - (by_ - ay) * (cx - ax)) (Co ax ∧ Co ay ∧ Co az ∧ Co bx ∧ Co by_ ∧ Co bz ∧ Co cx ∧ Co cy ∧ Co cz) = .tuple #[.agg #[.int .i64 x, .int .i64 y, .int .i64 z], .int .i64 E] := ⟨_, _, _, _, rfl⟩
  obtain ⟨X2, E2, hR2⟩ : ∃ X E, R2 (((by_ - ay) * (cz - az) - (bz - az) * (cy - ay)) * (dx - ax) + ((bz - az) * (cx - ax) - (bx - ax) * (cz - az)) * (dy - ay) + ((bx - ax) * (cy - ay) - (by_ - ay) * (cx - ax)) * (dz - az)) (Co ax ∧ Co ay ∧ Co az ∧ Co bx ∧ Co by_ ∧ Co bz ∧ Co cx ∧ Co cy ∧ Co cz ∧ Co dx ∧ Co dy ∧ Co dz) = .tuple #[.int .i64 X, .int .i64 E] := ⟨_, _, rfl⟩
  obtain ⟨X3, E3, hR3⟩ : ∃ X E, R2 ((bx - ax) * (bx - ax) + (by_ - ay) * (by_ - ay) + (bz - az) * (bz - az)) (Co ax ∧ Co ay ∧ Co az ∧ Co bx ∧ Co by_ ∧ Co bz) = .tuple #[.int .i64 X, .int .i64 E] := ⟨_, _, rfl⟩
  obtain ⟨X4, E4, hR4⟩ : ∃ X E, RR (planeR dx dy dz ax ay az bx by_ bz cx cy cz) = .tuple #[.string X, .int .i64 E] := ⟨_, _, RR_tuple _⟩
  have HF := hide hF
  have HR1 := hide hR1
  have HR2 := hide hR2
  have HR3 := hide hR3
  have HR4 := hide hR4
  clear hF hR1 hR2 hR3 hR4
  go_enter Tryz.func4, Tryz.ntmps4
  go_upto_region 1 with (fail)
  have hb0 : Below w.heap.size w (w.alloc (.cells #[.int .i64 ax, .int .i64 ay, .int .i64 az, .int .i64 bx, .int .i64 by_, .int .i64 bz, .int .i64 cx, .int .i64 cy, .int .i64 cz, .int .i64 dx, .int .i64 dy, .int .i64 dz] 34)) := allocs_below w [(.cells #[.int .i64 ax, .int .i64 ay, .int .i64 az, .int .i64 bx, .int .i64 by_, .int .i64 bz, .int .i64 cx, .int .i64 cy, .int .i64 cz, .int .i64 dx, .int .i64 dy, .int .i64 dz] 34)]
  have s0 : w.heap.size + 1 ≤ (w.alloc (.cells #[.int .i64 ax, .int .i64 ay, .int .i64 az, .int .i64 bx, .int .i64 by_, .int .i64 bz, .int .i64 cx, .int .i64 cy, .int .i64 cz, .int .i64 dx, .int .i64 dy, .int .i64 dz] 34)).heap.size := Nat.le_of_eq (allocs_size w [(.cells #[.int .i64 ax, .int .i64 ay, .int .i64 az, .int .i64 bx, .int .i64 by_, .int .i64 bz, .int .i64 cx, .int .i64 cy, .int .i64 cz, .int .i64 dx, .int .i64 dy, .int .i64 dz] 34)]).symm
  have kb0 : (w.alloc (.cells #[.int .i64 ax, .int .i64 ay, .int .i64 az, .int .i64 bx, .int .i64 by_, .int .i64 bz, .int .i64 cx, .int .i64 cy, .int .i64 cz, .int .i64 dx, .int .i64 dy, .int .i64 dz] 34)).heap[w.heap.size + 0]? = some (.cells #[.int .i64 ax, .int .i64 ay, .int .i64 az, .int .i64 bx, .int .i64 by_, .int .i64 bz, .int .i64 cx, .int .i64 cy, .int .i64 cz, .int .i64 dx, .int .i64 dy, .int .i64 dz] 34) := allocs_at w [(.cells #[.int .i64 ax, .int .i64 ay, .int .i64 az, .int .i64 bx, .int .i64 by_, .int .i64 bz, .int .i64 cx, .int .i64 cy, .int .i64 cz, .int .i64 dx, .int .i64 dy, .int .i64 dz] 34)] 0 rfl
  generalize (w.alloc (.cells #[.int .i64 ax, .int .i64 ay, .int .i64 az, .int .i64 bx, .int .i64 by_, .int .i64 bz, .int .i64 cx, .int .i64 cy, .int .i64 cz, .int .i64 dx, .int .i64 dy, .int .i64 dz] 34)) = w0 at *
  have k0_0 : w0.cell? ⟨w.heap.size, 0, none⟩ = some (.int .i64 ax) := (Blk.cell kb0 0).trans rfl
  have k0_1 : w0.cell? ⟨w.heap.size, 1, none⟩ = some (.int .i64 ay) := (Blk.cell kb0 1).trans rfl
  have k0_2 : w0.cell? ⟨w.heap.size, 2, none⟩ = some (.int .i64 az) := (Blk.cell kb0 2).trans rfl
  have k0_3 : w0.cell? ⟨w.heap.size, 3, none⟩ = some (.int .i64 bx) := (Blk.cell kb0 3).trans rfl
  have k0_4 : w0.cell? ⟨w.heap.size, 4, none⟩ = some (.int .i64 by_) := (Blk.cell kb0 4).trans rfl
  have k0_5 : w0.cell? ⟨w.heap.size, 5, none⟩ = some (.int .i64 bz) := (Blk.cell kb0 5).trans rfl
  have k0_6 : w0.cell? ⟨w.heap.size, 6, none⟩ = some (.int .i64 cx) := (Blk.cell kb0 6).trans rfl
  have k0_7 : w0.cell? ⟨w.heap.size, 7, none⟩ = some (.int .i64 cy) := (Blk.cell kb0 7).trans rfl
  have k0_8 : w0.cell? ⟨w.heap.size, 8, none⟩ = some (.int .i64 cz) := (Blk.cell kb0 8).trans rfl
  have k0_9 : w0.cell? ⟨w.heap.size, 9, none⟩ = some (.int .i64 dx) := (Blk.cell kb0 9).trans rfl
  have k0_10 : w0.cell? ⟨w.heap.size, 10, none⟩ = some (.int .i64 dy) := (Blk.cell kb0 10).trans rfl
  have k0_11 : w0.cell? ⟨w.heap.size, 11, none⟩ = some (.int .i64 dz) := (Blk.cell kb0 11).trans rfl
  clear kb0
  have SK : ∀ w', Below w0.heap.size w0 w' → Below w0.heap.size w0 w' ∧ w'.cell? ⟨w.heap.size, 0, none⟩ = some (.int .i64 ax) ∧ w'.cell? ⟨w.heap.size, 1, none⟩ = some (.int .i64 ay) ∧ w'.cell? ⟨w.heap.size, 2, none⟩ = some (.int .i64 az) ∧ w'.cell? ⟨w.heap.size, 3, none⟩ = some (.int .i64 bx) ∧ w'.cell? ⟨w.heap.size, 4, none⟩ = some (.int .i64 by_) ∧ w'.cell? ⟨w.heap.size, 5, none⟩ = some (.int .i64 bz) ∧ w'.cell? ⟨w.heap.size, 6, none⟩ = some (.int .i64 cx) ∧ w'.cell? ⟨w.heap.size, 7, none⟩ = some (.int .i64 cy) ∧ w'.cell? ⟨w.heap.size, 8, none⟩ = some (.int .i64 cz) ∧ w'.cell? ⟨w.heap.size, 9, none⟩ = some (.int .i64 dx) ∧ w'.cell? ⟨w.heap.size, 10, none⟩ = some (.int .i64 dy) ∧ w'.cell? ⟨w.heap.size, 11, none⟩ = some (.int .i64 dz) := fun w' h => ⟨h, (bcell h _ _ (by omega)).trans k0_0, (bcell h _ _ (by omega)).trans k0_1, (bcell h _ _ (by omega)).trans k0_2, (bcell h _ _ (by omega)).trans k0_3, (bcell h _ _ (by omega)).trans k0_4, (bcell h _ _ (by omega)).trans k0_5, (bcell h _ _ (by omega)).trans k0_6, (bcell h _ _ (by omega)).trans k0_7, (bcell h _ _ (by omega)).trans k0_8, (bcell h _ _ (by omega)).trans k0_9, (bcell h _ _ (by omega)).trans k0_10, (bcell h _ _ (by omega)).trans k0_11⟩
  go_wp2_with fail
  refine (Normal_any _ ax ay az bx by_ bz cx cy cz).mono ?_
  rw [HR1.out]
  rintro e w1 ⟨rfl, hb1⟩
  have hL1 : Below w0.heap.size w0 w1 := hb1
  obtain ⟨-, c1_0, c1_1, c1_2, c1_3, c1_4, c1_5, c1_6, c1_7, c1_8, c1_9, c1_10, c1_11⟩ := SK _ hL1
  go_upto_region 2 with (fail)
  have hL2 : Below w0.heap.size w0 (w1.alloc (.cells #[.int .i64 N1, .int .i64 N2, .int .i64 N3] 35)) := hL1.alloc hL1.size _
  have hA2 := Blk.new w1 35 #[.int .i64 N1, .int .i64 N2, .int .i64 N3]
  have sA2 : w1.heap.size < (w1.alloc (.cells #[.int .i64 N1, .int .i64 N2, .int .i64 N3] 35)).heap.size := by simp
  have kA2_0 : (w1.alloc (.cells #[.int .i64 N1, .int .i64 N2, .int .i64 N3] 35)).cell? ⟨w1.heap.size, 0, none⟩ = some (.int .i64 (N1)) := (Blk.cell hA2 0).trans rfl
  have kA2_1 : (w1.alloc (.cells #[.int .i64 N1, .int .i64 N2, .int .i64 N3] 35)).cell? ⟨w1.heap.size, 1, none⟩ = some (.int .i64 (N2)) := (Blk.cell hA2 1).trans rfl
  have kA2_2 : (w1.alloc (.cells #[.int .i64 N1, .int .i64 N2, .int .i64 N3] 35)).cell? ⟨w1.heap.size, 2, none⟩ = some (.int .i64 (N3)) := (Blk.cell hA2 2).trans rfl
  have fA2_0 : (w1.alloc (.cells #[.int .i64 N1, .int .i64 N2, .int .i64 N3] 35)).frozen? ⟨w1.heap.size, 0, none⟩ = false := Blk.frozen hA2 0
  have fA2_1 : (w1.alloc (.cells #[.int .i64 N1, .int .i64 N2, .int .i64 N3] 35)).frozen? ⟨w1.heap.size, 1, none⟩ = false := Blk.frozen hA2 1
  have fA2_2 : (w1.alloc (.cells #[.int .i64 N1, .int .i64 N2, .int .i64 N3] 35)).frozen? ⟨w1.heap.size, 2, none⟩ = false := Blk.frozen hA2 2
  have gA2 : Below w1.heap.size w1 (w1.alloc (.cells #[.int .i64 N1, .int .i64 N2, .int .i64 N3] 35)) := (Below.refl _ _).alloc (Nat.le_refl _) _
  generalize (w1.alloc (.cells #[.int .i64 N1, .int .i64 N2, .int .i64 N3] 35)) = w2 at *
  have c2_0 := (bcell gA2 _ _ (block_lt_of_cell c1_0)).trans c1_0
  have c2_1 := (bcell gA2 _ _ (block_lt_of_cell c1_1)).trans c1_1
  have c2_2 := (bcell gA2 _ _ (block_lt_of_cell c1_2)).trans c1_2
  have c2_3 := (bcell gA2 _ _ (block_lt_of_cell c1_3)).trans c1_3
  have c2_4 := (bcell gA2 _ _ (block_lt_of_cell c1_4)).trans c1_4
  have c2_5 := (bcell gA2 _ _ (block_lt_of_cell c1_5)).trans c1_5
  have c2_6 := (bcell gA2 _ _ (block_lt_of_cell c1_6)).trans c1_6
  have c2_7 := (bcell gA2 _ _ (block_lt_of_cell c1_7)).trans c1_7
  have c2_8 := (bcell gA2 _ _ (block_lt_of_cell c1_8)).trans c1_8
  have c2_9 := (bcell gA2 _ _ (block_lt_of_cell c1_9)).trans c1_9
  have c2_10 := (bcell gA2 _ _ (block_lt_of_cell c1_10)).trans c1_10
  have c2_11 := (bcell gA2 _ _ (block_lt_of_cell c1_11)).trans c1_11
  go_wp2_with fail
  refine (rNormal_any _ ax ay az bx by_ bz cx cy cz).mono ?_
  rw [HR1.out]
  rintro e w3 ⟨rfl, hb3⟩
  have hL3 : Below w0.heap.size w0 w3 := hL2.trans (hb3.mono hL2.size)
  have c3_0 := (bcell hb3 _ _ (block_lt_of_cell c2_0)).trans c2_0
  have c3_1 := (bcell hb3 _ _ (block_lt_of_cell c2_1)).trans c2_1
  have c3_2 := (bcell hb3 _ _ (block_lt_of_cell c2_2)).trans c2_2
  have c3_3 := (bcell hb3 _ _ (block_lt_of_cell c2_3)).trans c2_3
  have c3_4 := (bcell hb3 _ _ (block_lt_of_cell c2_4)).trans c2_4
  have c3_5 := (bcell hb3 _ _ (block_lt_of_cell c2_5)).trans c2_5
  have c3_6 := (bcell hb3 _ _ (block_lt_of_cell c2_6)).trans c2_6
  have c3_7 := (bcell hb3 _ _ (block_lt_of_cell c2_7)).trans c2_7
  have c3_8 := (bcell hb3 _ _ (block_lt_of_cell c2_8)).trans c2_8
  have c3_9 := (bcell hb3 _ _ (block_lt_of_cell c2_9)).trans c2_9
  have c3_10 := (bcell hb3 _ _ (block_lt_of_cell c2_10)).trans c2_10
  have c3_11 := (bcell hb3 _ _ (block_lt_of_cell c2_11)).trans c2_11
  have c3_12 := (bcell hb3 _ _ (block_lt_of_cell kA2_0)).trans kA2_0
  have c3_13 := (bcell hb3 _ _ (block_lt_of_cell kA2_1)).trans kA2_1
  have c3_14 := (bcell hb3 _ _ (block_lt_of_cell kA2_2)).trans kA2_2
  clear c2_0 c2_1 c2_2 c2_3 c2_4 c2_5 c2_6 c2_7 c2_8 c2_9 c2_10 c2_11 kA2_0 kA2_1 kA2_2
  go_upto_region 3 with (fail)
  have hL4 : Below w0.heap.size w0 (w3.alloc (.cells #[.int .i64 N1, .int .i64 N2, .int .i64 N3] 35)) := hL3.alloc hL3.size _
  have hA4 := Blk.new w3 35 #[.int .i64 N1, .int .i64 N2, .int .i64 N3]
  have sA4 : w3.heap.size < (w3.alloc (.cells #[.int .i64 N1, .int .i64 N2, .int .i64 N3] 35)).heap.size := by simp
  have kA4_0 : (w3.alloc (.cells #[.int .i64 N1, .int .i64 N2, .int .i64 N3] 35)).cell? ⟨w3.heap.size, 0, none⟩ = some (.int .i64 (N1)) := (Blk.cell hA4 0).trans rfl
  have kA4_1 : (w3.alloc (.cells #[.int .i64 N1, .int .i64 N2, .int .i64 N3] 35)).cell? ⟨w3.heap.size, 1, none⟩ = some (.int .i64 (N2)) := (Blk.cell hA4 1).trans rfl
  have kA4_2 : (w3.alloc (.cells #[.int .i64 N1, .int .i64 N2, .int .i64 N3] 35)).cell? ⟨w3.heap.size, 2, none⟩ = some (.int .i64 (N3)) := (Blk.cell hA4 2).trans rfl
  have fA4_0 : (w3.alloc (.cells #[.int .i64 N1, .int .i64 N2, .int .i64 N3] 35)).frozen? ⟨w3.heap.size, 0, none⟩ = false := Blk.frozen hA4 0
  have fA4_1 : (w3.alloc (.cells #[.int .i64 N1, .int .i64 N2, .int .i64 N3] 35)).frozen? ⟨w3.heap.size, 1, none⟩ = false := Blk.frozen hA4 1
  have fA4_2 : (w3.alloc (.cells #[.int .i64 N1, .int .i64 N2, .int .i64 N3] 35)).frozen? ⟨w3.heap.size, 2, none⟩ = false := Blk.frozen hA4 2
  have gA4 : Below w3.heap.size w3 (w3.alloc (.cells #[.int .i64 N1, .int .i64 N2, .int .i64 N3] 35)) := (Below.refl _ _).alloc (Nat.le_refl _) _
  generalize (w3.alloc (.cells #[.int .i64 N1, .int .i64 N2, .int .i64 N3] 35)) = w4 at *
  have c4_0 := (bcell gA4 _ _ (block_lt_of_cell c3_0)).trans c3_0
  have c4_1 := (bcell gA4 _ _ (block_lt_of_cell c3_1)).trans c3_1
  have c4_2 := (bcell gA4 _ _ (block_lt_of_cell c3_2)).trans c3_2
  have c4_3 := (bcell gA4 _ _ (block_lt_of_cell c3_3)).trans c3_3
  have c4_4 := (bcell gA4 _ _ (block_lt_of_cell c3_4)).trans c3_4
  have c4_5 := (bcell gA4 _ _ (block_lt_of_cell c3_5)).trans c3_5
  have c4_6 := (bcell gA4 _ _ (block_lt_of_cell c3_6)).trans c3_6
  have c4_7 := (bcell gA4 _ _ (block_lt_of_cell c3_7)).trans c3_7
  have c4_8 := (bcell gA4 _ _ (block_lt_of_cell c3_8)).trans c3_8
  have c4_9 := (bcell gA4 _ _ (block_lt_of_cell c3_9)).trans c3_9
  have c4_10 := (bcell gA4 _ _ (block_lt_of_cell c3_10)).trans c3_10
  have c4_11 := (bcell gA4 _ _ (block_lt_of_cell c3_11)).trans c3_11
  have c4_12 := (bcell gA4 _ _ (block_lt_of_cell c3_12)).trans c3_12
  have c4_13 := (bcell gA4 _ _ (block_lt_of_cell c3_13)).trans c3_13
  have c4_14 := (bcell gA4 _ _ (block_lt_of_cell c3_14)).trans c3_14
  go_wp2_with fail
  refine (Volume_any _ ax ay az bx by_ bz cx cy cz dx dy dz).mono ?_
  rw [HR2.out]
  rintro e w5 ⟨rfl, hb5⟩
  have hL5 : Below w0.heap.size w0 w5 := hL4.trans (hb5.mono hL4.size)
  have c5_0 := (bcell hb5 _ _ (block_lt_of_cell c4_0)).trans c4_0
  have c5_1 := (bcell hb5 _ _ (block_lt_of_cell c4_1)).trans c4_1
  have c5_2 := (bcell hb5 _ _ (block_lt_of_cell c4_2)).trans c4_2
  have c5_3 := (bcell hb5 _ _ (block_lt_of_cell c4_3)).trans c4_3
  have c5_4 := (bcell hb5 _ _ (block_lt_of_cell c4_4)).trans c4_4
  have c5_5 := (bcell hb5 _ _ (block_lt_of_cell c4_5)).trans c4_5
  have c5_6 := (bcell hb5 _ _ (block_lt_of_cell c4_6)).trans c4_6
  have c5_7 := (bcell hb5 _ _ (block_lt_of_cell c4_7)).trans c4_7
  have c5_8 := (bcell hb5 _ _ (block_lt_of_cell c4_8)).trans c4_8
  have c5_9 := (bcell hb5 _ _ (block_lt_of_cell c4_9)).trans c4_9
  have c5_10 := (bcell hb5 _ _ (block_lt_of_cell c4_10)).trans c4_10
  have c5_11 := (bcell hb5 _ _ (block_lt_of_cell c4_11)).trans c4_11
  have c5_12 := (bcell hb5 _ _ (block_lt_of_cell c4_12)).trans c4_12
  have c5_13 := (bcell hb5 _ _ (block_lt_of_cell c4_13)).trans c4_13
  have c5_14 := (bcell hb5 _ _ (block_lt_of_cell c4_14)).trans c4_14
  have c5_15 := (bcell hb5 _ _ (block_lt_of_cell kA4_0)).trans kA4_0
  have c5_16 := (bcell hb5 _ _ (block_lt_of_cell kA4_1)).trans kA4_1
  have c5_17 := (bcell hb5 _ _ (block_lt_of_cell kA4_2)).trans kA4_2
  clear c4_0 c4_1 c4_2 c4_3 c4_4 c4_5 c4_6 c4_7 c4_8 c4_9 c4_10 c4_11 c4_12 c4_13 c4_14 kA4_0 kA4_1 kA4_2
  go_wp2_with fail
  refine (rVolume_any _ ax ay az bx by_ bz cx cy cz dx dy dz).mono ?_
  rw [HR2.out]
  rintro e w6 ⟨rfl, hb6⟩
  have hL6 : Below w0.heap.size w0 w6 := hL5.trans (hb6.mono hL5.size)
  have c6_0 := (bcell hb6 _ _ (block_lt_of_cell c5_0)).trans c5_0
  have c6_1 := (bcell hb6 _ _ (block_lt_of_cell c5_1)).trans c5_1
  have c6_2 := (bcell hb6 _ _ (block_lt_of_cell c5_2)).trans c5_2
  have c6_3 := (bcell hb6 _ _ (block_lt_of_cell c5_3)).trans c5_3
  have c6_4 := (bcell hb6 _ _ (block_lt_of_cell c5_4)).trans c5_4
  have c6_5 := (bcell hb6 _ _ (block_lt_of_cell c5_5)).trans c5_5
  have c6_6 := (bcell hb6 _ _ (block_lt_of_cell c5_6)).trans c5_6
  have c6_7 := (bcell hb6 _ _ (block_lt_of_cell c5_7)).trans c5_7
  have c6_8 := (bcell hb6 _ _ (block_lt_of_cell c5_8)).trans c5_8
  have c6_9 := (bcell hb6 _ _ (block_lt_of_cell c5_9)).trans c5_9
  have c6_10 := (bcell hb6 _ _ (block_lt_of_cell c5_10)).trans c5_10
  have c6_11 := (bcell hb6 _ _ (block_lt_of_cell c5_11)).trans c5_11
  have c6_12 := (bcell hb6 _ _ (block_lt_of_cell c5_12)).trans c5_12
  have c6_13 := (bcell hb6 _ _ (block_lt_of_cell c5_13)).trans c5_13
  have c6_14 := (bcell hb6 _ _ (block_lt_of_cell c5_14)).trans c5_14
  have c6_15 := (bcell hb6 _ _ (block_lt_of_cell c5_15)).trans c5_15
  have c6_16 := (bcell hb6 _ _ (block_lt_of_cell c5_16)).trans c5_16
  have c6_17 := (bcell hb6 _ _ (block_lt_of_cell c5_17)).trans c5_17
  clear c5_0 c5_1 c5_2 c5_3 c5_4 c5_5 c5_6 c5_7 c5_8 c5_9 c5_10 c5_11 c5_12 c5_13 c5_14 c5_15 c5_16 c5_17
  go_wp2_with fail
  refine (SquareSpace_any _ ax ay az bx by_ bz).mono ?_
  rw [HR3.out]
  rintro e w7 ⟨rfl, hb7⟩
  have hL7 : Below w0.heap.size w0 w7 := hL6.trans (hb7.mono hL6.size)
  have c7_0 := (bcell hb7 _ _ (block_lt_of_cell c6_0)).trans c6_0
  have c7_1 := (bcell hb7 _ _ (block_lt_of_cell c6_1)).trans c6_1
  have c7_2 := (bcell hb7 _ _ (block_lt_of_cell c6_2)).trans c6_2
  have c7_3 := (bcell hb7 _ _ (block_lt_of_cell c6_3)).trans c6_3
  have c7_4 := (bcell hb7 _ _ (block_lt_of_cell c6_4)).trans c6_4
  have c7_5 := (bcell hb7 _ _ (block_lt_of_cell c6_5)).trans c6_5
  have c7_6 := (bcell hb7 _ _ (block_lt_of_cell c6_6)).trans c6_6
  have c7_7 := (bcell hb7 _ _ (block_lt_of_cell c6_7)).trans c6_7
  have c7_8 := (bcell hb7 _ _ (block_lt_of_cell c6_8)).trans c6_8
  have c7_9 := (bcell hb7 _ _ (block_lt_of_cell c6_9)).trans c6_9
  have c7_10 := (bcell hb7 _ _ (block_lt_of_cell c6_10)).trans c6_10
  have c7_11 := (bcell hb7 _ _ (block_lt_of_cell c6_11)).trans c6_11
  have c7_12 := (bcell hb7 _ _ (block_lt_of_cell c6_12)).trans c6_12
  have c7_13 := (bcell hb7 _ _ (block_lt_of_cell c6_13)).trans c6_13
  have c7_14 := (bcell hb7 _ _ (block_lt_of_cell c6_14)).trans c6_14
  have c7_15 := (bcell hb7 _ _ (block_lt_of_cell c6_15)).trans c6_15
  have c7_16 := (bcell hb7 _ _ (block_lt_of_cell c6_16)).trans c6_16
  have c7_17 := (bcell hb7 _ _ (block_lt_of_cell c6_17)).trans c6_17
  clear c6_0 c6_1 c6_2 c6_3 c6_4 c6_5 c6_6 c6_7 c6_8 c6_9 c6_10 c6_11 c6_12 c6_13 c6_14 c6_15 c6_16 c6_17
  go_wp2_with fail
  refine (rSquareSpace_any _ ax ay az bx by_ bz).mono ?_
  rw [HF.out, HR3.out]
  rintro e w8 ⟨rfl, hb8⟩
  have hL8 : Below w0.heap.size w0 w8 := hL7.trans (hb8.mono hL7.size)
  have c8_0 := (bcell hb8 _ _ (block_lt_of_cell c7_0)).trans c7_0
  have c8_1 := (bcell hb8 _ _ (block_lt_of_cell c7_1)).trans c7_1
  have c8_2 := (bcell hb8 _ _ (block_lt_of_cell c7_2)).trans c7_2
  have c8_3 := (bcell hb8 _ _ (block_lt_of_cell c7_3)).trans c7_3
  have c8_4 := (bcell hb8 _ _ (block_lt_of_cell c7_4)).trans c7_4
  have c8_5 := (bcell hb8 _ _ (block_lt_of_cell c7_5)).trans c7_5
  have c8_6 := (bcell hb8 _ _ (block_lt_of_cell c7_6)).trans c7_6
  have c8_7 := (bcell hb8 _ _ (block_lt_of_cell c7_7)).trans c7_7
  have c8_8 := (bcell hb8 _ _ (block_lt_of_cell c7_8)).trans c7_8
  have c8_9 := (bcell hb8 _ _ (block_lt_of_cell c7_9)).trans c7_9
  have c8_10 := (bcell hb8 _ _ (block_lt_of_cell c7_10)).trans c7_10
  have c8_11 := (bcell hb8 _ _ (block_lt_of_cell c7_11)).trans c7_11
  have c8_12 := (bcell hb8 _ _ (block_lt_of_cell c7_12)).trans c7_12
  have c8_13 := (bcell hb8 _ _ (block_lt_of_cell c7_13)).trans c7_13
  have c8_14 := (bcell hb8 _ _ (block_lt_of_cell c7_14)).trans c7_14
  have c8_15 := (bcell hb8 _ _ (block_lt_of_cell c7_15)).trans c7_15
  have c8_16 := (bcell hb8 _ _ (block_lt_of_cell c7_16)).trans c7_16
  have c8_17 := (bcell hb8 _ _ (block_lt_of_cell c7_17)).trans c7_17
  clear c7_0 c7_1 c7_2 c7_3 c7_4 c7_5 c7_6 c7_7 c7_8 c7_9 c7_10 c7_11 c7_12 c7_13 c7_14 c7_15 c7_16 c7_17
  have HS4 := hide (HS.out.below (hb0.trans (hL8.mono hb0.size)) (Nat.le_refl _))
  go_wp2_with fail
  refine (ToPlane_any _ dx dy dz ax ay az bx by_ bz cx cy cz HS4.out).mono ?_
  rw [HR4.out]
  rintro e w9 ⟨rfl, hb9⟩
  have hL9 : Below w0.heap.size w0 w9 := hL8.trans (hb9.mono hL8.size)
  have c9_0 := (bcell hb9 _ _ (block_lt_of_cell c8_0)).trans c8_0
  have c9_1 := (bcell hb9 _ _ (block_lt_of_cell c8_1)).trans c8_1
  have c9_2 := (bcell hb9 _ _ (block_lt_of_cell c8_2)).trans c8_2
  have c9_3 := (bcell hb9 _ _ (block_lt_of_cell c8_3)).trans c8_3
  have c9_4 := (bcell hb9 _ _ (block_lt_of_cell c8_4)).trans c8_4
  have c9_5 := (bcell hb9 _ _ (block_lt_of_cell c8_5)).trans c8_5
  have c9_6 := (bcell hb9 _ _ (block_lt_of_cell c8_6)).trans c8_6
  have c9_7 := (bcell hb9 _ _ (block_lt_of_cell c8_7)).trans c8_7
  have c9_8 := (bcell hb9 _ _ (block_lt_of_cell c8_8)).trans c8_8
  have c9_9 := (bcell hb9 _ _ (block_lt_of_cell c8_9)).trans c8_9
  have c9_10 := (bcell hb9 _ _ (block_lt_of_cell c8_10)).trans c8_10
  have c9_11 := (bcell hb9 _ _ (block_lt_of_cell c8_11)).trans c8_11
  have c9_12 := (bcell hb9 _ _ (block_lt_of_cell c8_12)).trans c8_12
  have c9_13 := (bcell hb9 _ _ (block_lt_of_cell c8_13)).trans c8_13
  have c9_14 := (bcell hb9 _ _ (block_lt_of_cell c8_14)).trans c8_14
  have c9_15 := (bcell hb9 _ _ (block_lt_of_cell c8_15)).trans c8_15
  have c9_16 := (bcell hb9 _ _ (block_lt_of_cell c8_16)).trans c8_16
  have c9_17 := (bcell hb9 _ _ (block_lt_of_cell c8_17)).trans c8_17
  clear c8_0 c8_1 c8_2 c8_3 c8_4 c8_5 c8_6 c8_7 c8_8 c8_9 c8_10 c8_11 c8_12 c8_13 c8_14 c8_15 c8_16 c8_17
  go_wp2_with fail
  refine (rToPlane_any _ dx dy dz ax ay az bx by_ bz cx cy cz).mono ?_
  rw [HR4.out]
  rintro e w10 ⟨rfl, hb10⟩
  have hL10 : Below w0.heap.size w0 w10 := hL9.trans (hb10.mono hL9.size)
  have c10_0 := (bcell hb10 _ _ (block_lt_of_cell c9_0)).trans c9_0
  have c10_1 := (bcell hb10 _ _ (block_lt_of_cell c9_1)).trans c9_1
  have c10_2 := (bcell hb10 _ _ (block_lt_of_cell c9_2)).trans c9_2
  have c10_3 := (bcell hb10 _ _ (block_lt_of_cell c9_3)).trans c9_3
  have c10_4 := (bcell hb10 _ _ (block_lt_of_cell c9_4)).trans c9_4
  have c10_5 := (bcell hb10 _ _ (block_lt_of_cell c9_5)).trans c9_5
  have c10_6 := (bcell hb10 _ _ (block_lt_of_cell c9_6)).trans c9_6
  have c10_7 := (bcell hb10 _ _ (block_lt_of_cell c9_7)).trans c9_7
  have c10_8 := (bcell hb10 _ _ (block_lt_of_cell c9_8)).trans c9_8
  have c10_9 := (bcell hb10 _ _ (block_lt_of_cell c9_9)).trans c9_9
  have c10_10 := (bcell hb10 _ _ (block_lt_of_cell c9_10)).trans c9_10
  have c10_11 := (bcell hb10 _ _ (block_lt_of_cell c9_11)).trans c9_11
  have c10_12 := (bcell hb10 _ _ (block_lt_of_cell c9_12)).trans c9_12
  have c10_13 := (bcell hb10 _ _ (block_lt_of_cell c9_13)).trans c9_13
  have c10_14 := (bcell hb10 _ _ (block_lt_of_cell c9_14)).trans c9_14
  have c10_15 := (bcell hb10 _ _ (block_lt_of_cell c9_15)).trans c9_15
  have c10_16 := (bcell hb10 _ _ (block_lt_of_cell c9_16)).trans c9_16
  have c10_17 := (bcell hb10 _ _ (block_lt_of_cell c9_17)).trans c9_17
  clear c9_0 c9_1 c9_2 c9_3 c9_4 c9_5 c9_6 c9_7 c9_8 c9_9 c9_10 c9_11 c9_12 c9_13 c9_14 c9_15 c9_16 c9_17
  go_wp2_with fail
  refine (awake_any _ (HS.out.below (hb0.trans (hL10.mono hb0.size)) (Nat.le_refl _))).mono ?_
  rintro e w11 ⟨rfl, hb11⟩
  have hL11 : Below w0.heap.size w0 w11 := hL10.trans (hb11.mono hL10.size)
  have c11_0 := (bcell hb11 _ _ (block_lt_of_cell c10_0)).trans c10_0
  have c11_1 := (bcell hb11 _ _ (block_lt_of_cell c10_1)).trans c10_1
  have c11_2 := (bcell hb11 _ _ (block_lt_of_cell c10_2)).trans c10_2
  have c11_3 := (bcell hb11 _ _ (block_lt_of_cell c10_3)).trans c10_3
  have c11_4 := (bcell hb11 _ _ (block_lt_of_cell c10_4)).trans c10_4
  have c11_5 := (bcell hb11 _ _ (block_lt_of_cell c10_5)).trans c10_5
  have c11_6 := (bcell hb11 _ _ (block_lt_of_cell c10_6)).trans c10_6
  have c11_7 := (bcell hb11 _ _ (block_lt_of_cell c10_7)).trans c10_7
  have c11_8 := (bcell hb11 _ _ (block_lt_of_cell c10_8)).trans c10_8
  have c11_9 := (bcell hb11 _ _ (block_lt_of_cell c10_9)).trans c10_9
  have c11_10 := (bcell hb11 _ _ (block_lt_of_cell c10_10)).trans c10_10
  have c11_11 := (bcell hb11 _ _ (block_lt_of_cell c10_11)).trans c10_11
  have c11_12 := (bcell hb11 _ _ (block_lt_of_cell c10_12)).trans c10_12
  have c11_13 := (bcell hb11 _ _ (block_lt_of_cell c10_13)).trans c10_13
  have c11_14 := (bcell hb11 _ _ (block_lt_of_cell c10_14)).trans c10_14
  have c11_15 := (bcell hb11 _ _ (block_lt_of_cell c10_15)).trans c10_15
  have c11_16 := (bcell hb11 _ _ (block_lt_of_cell c10_16)).trans c10_16
  have c11_17 := (bcell hb11 _ _ (block_lt_of_cell c10_17)).trans c10_17
  clear c10_0 c10_1 c10_2 c10_3 c10_4 c10_5 c10_6 c10_7 c10_8 c10_9 c10_10 c10_11 c10_12 c10_13 c10_14 c10_15 c10_16 c10_17
  have hE := run_eq3 w11 N1 N2 N3 N1 N2 N3
  go_wp2_with fail
  go_ret
  exact ⟨rfl, hb0.trans (hL11.mono hb0.size)⟩

end Go.Proofs.YtblfinpfcpglcaaGreatDoor
