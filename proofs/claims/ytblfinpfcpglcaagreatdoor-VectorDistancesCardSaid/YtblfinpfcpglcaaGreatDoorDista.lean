/- VectorDistances: the walk. -/
import Derived.Test.YtblfinpfcpglcaaGreatDoorAwake
import Derived.Test.YtblfinpfcpglcaaGreatDoorRdist
namespace Go.Proofs.YtblfinpfcpglcaaGreatDoor
open Go.RowKit MLab

set_option maxRecDepth 100000 in
set_option maxHeartbeats 4000000 in
theorem distances_any (w : World) (px py ax ay bx by_ : Int) (hs : Std w) : Calls Tryz.prog 3 #[.agg #[.int .i64 px, .int .i64 py], .agg #[.int .i64 ax, .int .i64 ay], .agg #[.int .i64 bx, .int .i64 by_]] w fun e w' => e = .returned (.bool true) ∧ Below w.heap.size w w' := by
  have HS := hide hs
  clear hs
  obtain ⟨X1, E1, hR1⟩ : ∃ X E, RR (lineR px py ax ay bx by_) = .tuple #[.string X, .int .i64 E] := ⟨_, _, RR_tuple _⟩
  obtain ⟨X2, E2, hR2⟩ : ∃ X E, RR (segR px py ax ay bx by_) = .tuple #[.string X, .int .i64 E] := ⟨_, _, RR_tuple _⟩
  have hR1 := hide hR1
  have hR2 := hide hR2
  go_enter Tryz.func3, Tryz.ntmps3
  go_upto_region 1 with (fail)
  have hb0 : Below w.heap.size w (((w.alloc (.cells #[.int .i64 px, .int .i64 py] 23)).alloc (.cells #[.int .i64 ax, .int .i64 ay] 23)).alloc (.cells #[.int .i64 bx, .int .i64 by_] 23)) := allocs_below w [(.cells #[.int .i64 px, .int .i64 py] 23), (.cells #[.int .i64 ax, .int .i64 ay] 23), (.cells #[.int .i64 bx, .int .i64 by_] 23)]
  have s0 : w.heap.size + 3 ≤ (((w.alloc (.cells #[.int .i64 px, .int .i64 py] 23)).alloc (.cells #[.int .i64 ax, .int .i64 ay] 23)).alloc (.cells #[.int .i64 bx, .int .i64 by_] 23)).heap.size := Nat.le_of_eq (allocs_size w [(.cells #[.int .i64 px, .int .i64 py] 23), (.cells #[.int .i64 ax, .int .i64 ay] 23), (.cells #[.int .i64 bx, .int .i64 by_] 23)]).symm
  have kb0 : (((w.alloc (.cells #[.int .i64 px, .int .i64 py] 23)).alloc (.cells #[.int .i64 ax, .int .i64 ay] 23)).alloc (.cells #[.int .i64 bx, .int .i64 by_] 23)).heap[w.heap.size + 0]? = some (.cells #[.int .i64 px, .int .i64 py] 23) := allocs_at w [(.cells #[.int .i64 px, .int .i64 py] 23), (.cells #[.int .i64 ax, .int .i64 ay] 23), (.cells #[.int .i64 bx, .int .i64 by_] 23)] 0 rfl
  have kb1 : (((w.alloc (.cells #[.int .i64 px, .int .i64 py] 23)).alloc (.cells #[.int .i64 ax, .int .i64 ay] 23)).alloc (.cells #[.int .i64 bx, .int .i64 by_] 23)).heap[w.heap.size + 1]? = some (.cells #[.int .i64 ax, .int .i64 ay] 23) := allocs_at w [(.cells #[.int .i64 px, .int .i64 py] 23), (.cells #[.int .i64 ax, .int .i64 ay] 23), (.cells #[.int .i64 bx, .int .i64 by_] 23)] 1 rfl
  have kb2 : (((w.alloc (.cells #[.int .i64 px, .int .i64 py] 23)).alloc (.cells #[.int .i64 ax, .int .i64 ay] 23)).alloc (.cells #[.int .i64 bx, .int .i64 by_] 23)).heap[w.heap.size + 2]? = some (.cells #[.int .i64 bx, .int .i64 by_] 23) := allocs_at w [(.cells #[.int .i64 px, .int .i64 py] 23), (.cells #[.int .i64 ax, .int .i64 ay] 23), (.cells #[.int .i64 bx, .int .i64 by_] 23)] 2 rfl
  generalize (((w.alloc (.cells #[.int .i64 px, .int .i64 py] 23)).alloc (.cells #[.int .i64 ax, .int .i64 ay] 23)).alloc (.cells #[.int .i64 bx, .int .i64 by_] 23)) = w0 at *
  have k0_0 : w0.cell? ⟨w.heap.size, 0, none⟩ = some (.int .i64 px) := (Blk.cell kb0 0).trans rfl
  have k0_1 : w0.cell? ⟨w.heap.size, 1, none⟩ = some (.int .i64 py) := (Blk.cell kb0 1).trans rfl
  have k1_0 : w0.cell? ⟨w.heap.size + 1, 0, none⟩ = some (.int .i64 ax) := (Blk.cell kb1 0).trans rfl
  have k1_1 : w0.cell? ⟨w.heap.size + 1, 1, none⟩ = some (.int .i64 ay) := (Blk.cell kb1 1).trans rfl
  have k2_0 : w0.cell? ⟨w.heap.size + 1 + 1, 0, none⟩ = some (.int .i64 bx) := (Blk.cell kb2 0).trans rfl
  have k2_1 : w0.cell? ⟨w.heap.size + 1 + 1, 1, none⟩ = some (.int .i64 by_) := (Blk.cell kb2 1).trans rfl
  clear kb0 kb1 kb2
  have SK : ∀ w', Below w0.heap.size w0 w' → Below w0.heap.size w0 w' ∧ w'.cell? ⟨w.heap.size, 0, none⟩ = some (.int .i64 px) ∧ w'.cell? ⟨w.heap.size, 1, none⟩ = some (.int .i64 py) ∧ w'.cell? ⟨w.heap.size + 1, 0, none⟩ = some (.int .i64 ax) ∧ w'.cell? ⟨w.heap.size + 1, 1, none⟩ = some (.int .i64 ay) ∧ w'.cell? ⟨w.heap.size + 1 + 1, 0, none⟩ = some (.int .i64 bx) ∧ w'.cell? ⟨w.heap.size + 1 + 1, 1, none⟩ = some (.int .i64 by_) := fun w' h => ⟨h, (bcell h _ _ (by omega)).trans k0_0, (bcell h _ _ (by omega)).trans k0_1, (bcell h _ _ (by omega)).trans k1_0, (bcell h _ _ (by omega)).trans k1_1, (bcell h _ _ (by omega)).trans k2_0, (bcell h _ _ (by omega)).trans k2_1⟩
  have HS0 := hide (HS.out.below hb0 (Nat.le_refl _))
  go_wp2_with fail
  refine (ToLine_any _ px py ax ay bx by_ HS0.out).mono ?_
  rw [hR1.out]
  rintro e w1 ⟨rfl, hb1⟩
  have hL1 : Below w0.heap.size w0 w1 := hb1
  obtain ⟨-, c1_0, c1_1, c1_2, c1_3, c1_4, c1_5⟩ := SK _ hL1
  have HS1 := hide (HS.out.below (hb0.trans (hL1.mono hb0.size)) (Nat.le_refl _))
  go_wp2_with fail
  refine (rToLine_any _ px py ax ay bx by_).mono ?_
  rw [hR1.out]
  rintro e w2 ⟨rfl, hb2⟩
  have hL2 : Below w0.heap.size w0 w2 := hL1.trans (hb2.mono hL1.size)
  obtain ⟨-, c2_0, c2_1, c2_2, c2_3, c2_4, c2_5⟩ := SK _ hL2
  have HS2 := hide (HS.out.below (hb0.trans (hL2.mono hb0.size)) (Nat.le_refl _))
  go_wp2_with fail
  refine (ToSegment_any _ px py ax ay bx by_ HS2.out).mono ?_
  rw [hR2.out]
  rintro e w3 ⟨rfl, hb3⟩
  have hL3 : Below w0.heap.size w0 w3 := hL2.trans (hb3.mono hL2.size)
  obtain ⟨-, c3_0, c3_1, c3_2, c3_3, c3_4, c3_5⟩ := SK _ hL3
  have HS3 := hide (HS.out.below (hb0.trans (hL3.mono hb0.size)) (Nat.le_refl _))
  go_wp2_with fail
  refine (rToSegment_any _ px py ax ay bx by_).mono ?_
  rw [hR2.out]
  rintro e w4 ⟨rfl, hb4⟩
  have hL4 : Below w0.heap.size w0 w4 := hL3.trans (hb4.mono hL3.size)
  obtain ⟨-, c4_0, c4_1, c4_2, c4_3, c4_4, c4_5⟩ := SK _ hL4
  go_wp2_with fail
  refine (awake_any _ (HS.out.below (hb0.trans (hL4.mono hb0.size)) (Nat.le_refl _))).mono ?_
  rintro e w9 ⟨rfl, hb9⟩
  have hL5 : Below w0.heap.size w0 w9 := hL4.trans (hb9.mono hL4.size)
  obtain ⟨-, c5_0, c5_1, c5_2, c5_3, c5_4, c5_5⟩ := SK _ hL5
  go_wp2_with fail
  go_ret
  exact ⟨rfl, hb0.trans (hL5.mono hb0.size)⟩

end Go.Proofs.YtblfinpfcpglcaaGreatDoor
