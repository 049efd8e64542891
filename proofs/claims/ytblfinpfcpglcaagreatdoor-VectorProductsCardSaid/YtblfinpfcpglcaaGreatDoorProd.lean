/- VectorProducts: the walk. -/
import Derived.Test.YtblfinpfcpglcaaGreatDoorAwake
namespace Go.Proofs.YtblfinpfcpglcaaGreatDoor
open Go.RowKit MLab

set_option maxRecDepth 100000 in
set_option maxHeartbeats 4000000 in
theorem products_any (w : World) (ax ay bx by_ cx cy : Int) (hs : Std w) : Calls Tryz.prog 7 #[.agg #[.int .i64 ax, .int .i64 ay], .agg #[.int .i64 bx, .int .i64 by_], .agg #[.int .i64 cx, .int .i64 cy]] w fun e w' => e = .returned (.bool true) ∧ Below w.heap.size w w' := by
  have HS := hide hs
  clear hs
  obtain ⟨X1, E1, hR1⟩ : ∃ X E, R2 (ax * bx + ay * by_) (Co ax ∧ Co ay ∧ Co bx ∧ Co by_) = .tuple #[.int .i64 X, .int .i64 E] := ⟨_, _, rfl⟩
  obtain ⟨X2, E2, hR2⟩ : ∃ X E, R2 ((bx - ax) * (cy - ay) - (by_ - ay) * (cx - ax)) (Co ax ∧ Co ay ∧ Co bx ∧ Co by_ ∧ Co cx ∧ Co cy) = .tuple #[.int .i64 X, .int .i64 E] := ⟨_, _, rfl⟩
  obtain ⟨X3, E3, hR3⟩ : ∃ X E, R2 (Int.sign ((bx - ax) * (cy - ay) - (by_ - ay) * (cx - ax))) (Co ax ∧ Co ay ∧ Co bx ∧ Co by_ ∧ Co cx ∧ Co cy) = .tuple #[.int .i64 X, .int .i64 E] := ⟨_, _, rfl⟩
  obtain ⟨X4, E4, hR4⟩ : ∃ X E, R2 ((bx - ax) * (bx - ax) + (by_ - ay) * (by_ - ay)) (Co ax ∧ Co ay ∧ Co bx ∧ Co by_) = .tuple #[.int .i64 X, .int .i64 E] := ⟨_, _, rfl⟩
  have hF : (ax - bx) * (ax - bx) + (ay - by_) * (ay - by_) = (bx - ax) * (bx - ax) + (by_ - ay) * (by_ - ay) := by grind
  go_enter Tryz.func7, Tryz.ntmps7
  go_upto_region 1 with (fail)
  have hb0 : Below w.heap.size w (((w.alloc (.cells #[.int .i64 ax, .int .i64 ay] 23)).alloc (.cells #[.int .i64 bx, .int .i64 by_] 23)).alloc (.cells #[.int .i64 cx, .int .i64 cy] 23)) := allocs_below w [(.cells #[.int .i64 ax, .int .i64 ay] 23), (.cells #[.int .i64 bx, .int .i64 by_] 23), (.cells #[.int .i64 cx, .int .i64 cy] 23)]
  have s0 : w.heap.size + 3 ≤ (((w.alloc (.cells #[.int .i64 ax, .int .i64 ay] 23)).alloc (.cells #[.int .i64 bx, .int .i64 by_] 23)).alloc (.cells #[.int .i64 cx, .int .i64 cy] 23)).heap.size := Nat.le_of_eq (allocs_size w [(.cells #[.int .i64 ax, .int .i64 ay] 23), (.cells #[.int .i64 bx, .int .i64 by_] 23), (.cells #[.int .i64 cx, .int .i64 cy] 23)]).symm
  have kb0 : (((w.alloc (.cells #[.int .i64 ax, .int .i64 ay] 23)).alloc (.cells #[.int .i64 bx, .int .i64 by_] 23)).alloc (.cells #[.int .i64 cx, .int .i64 cy] 23)).heap[w.heap.size + 0]? = some (.cells #[.int .i64 ax, .int .i64 ay] 23) := allocs_at w [(.cells #[.int .i64 ax, .int .i64 ay] 23), (.cells #[.int .i64 bx, .int .i64 by_] 23), (.cells #[.int .i64 cx, .int .i64 cy] 23)] 0 rfl
  have kb1 : (((w.alloc (.cells #[.int .i64 ax, .int .i64 ay] 23)).alloc (.cells #[.int .i64 bx, .int .i64 by_] 23)).alloc (.cells #[.int .i64 cx, .int .i64 cy] 23)).heap[w.heap.size + 1]? = some (.cells #[.int .i64 bx, .int .i64 by_] 23) := allocs_at w [(.cells #[.int .i64 ax, .int .i64 ay] 23), (.cells #[.int .i64 bx, .int .i64 by_] 23), (.cells #[.int .i64 cx, .int .i64 cy] 23)] 1 rfl
  have kb2 : (((w.alloc (.cells #[.int .i64 ax, .int .i64 ay] 23)).alloc (.cells #[.int .i64 bx, .int .i64 by_] 23)).alloc (.cells #[.int .i64 cx, .int .i64 cy] 23)).heap[w.heap.size + 2]? = some (.cells #[.int .i64 cx, .int .i64 cy] 23) := allocs_at w [(.cells #[.int .i64 ax, .int .i64 ay] 23), (.cells #[.int .i64 bx, .int .i64 by_] 23), (.cells #[.int .i64 cx, .int .i64 cy] 23)] 2 rfl
  generalize (((w.alloc (.cells #[.int .i64 ax, .int .i64 ay] 23)).alloc (.cells #[.int .i64 bx, .int .i64 by_] 23)).alloc (.cells #[.int .i64 cx, .int .i64 cy] 23)) = w0 at *
  have k0_0 : w0.cell? ⟨w.heap.size, 0, none⟩ = some (.int .i64 ax) := (Blk.cell kb0 0).trans rfl
  have k0_1 : w0.cell? ⟨w.heap.size, 1, none⟩ = some (.int .i64 ay) := (Blk.cell kb0 1).trans rfl
  have k1_0 : w0.cell? ⟨w.heap.size + 1, 0, none⟩ = some (.int .i64 bx) := (Blk.cell kb1 0).trans rfl
  have k1_1 : w0.cell? ⟨w.heap.size + 1, 1, none⟩ = some (.int .i64 by_) := (Blk.cell kb1 1).trans rfl
  have k2_0 : w0.cell? ⟨w.heap.size + 1 + 1, 0, none⟩ = some (.int .i64 cx) := (Blk.cell kb2 0).trans rfl
  have k2_1 : w0.cell? ⟨w.heap.size + 1 + 1, 1, none⟩ = some (.int .i64 cy) := (Blk.cell kb2 1).trans rfl
  clear kb0 kb1 kb2
  have SK : ∀ w', Below w0.heap.size w0 w' → Below w0.heap.size w0 w' ∧ w'.cell? ⟨w.heap.size, 0, none⟩ = some (.int .i64 ax) ∧ w'.cell? ⟨w.heap.size, 1, none⟩ = some (.int .i64 ay) ∧ w'.cell? ⟨w.heap.size + 1, 0, none⟩ = some (.int .i64 bx) ∧ w'.cell? ⟨w.heap.size + 1, 1, none⟩ = some (.int .i64 by_) ∧ w'.cell? ⟨w.heap.size + 1 + 1, 0, none⟩ = some (.int .i64 cx) ∧ w'.cell? ⟨w.heap.size + 1 + 1, 1, none⟩ = some (.int .i64 cy) := fun w' h => ⟨h, (bcell h _ _ (by omega)).trans k0_0, (bcell h _ _ (by omega)).trans k0_1, (bcell h _ _ (by omega)).trans k1_0, (bcell h _ _ (by omega)).trans k1_1, (bcell h _ _ (by omega)).trans k2_0, (bcell h _ _ (by omega)).trans k2_1⟩
  go_wp2_with fail
  refine (Dot_any _ ax ay bx by_).mono ?_
  rw [hR1]
  rintro e w1 ⟨rfl, hb1⟩
  have hL1 : Below w0.heap.size w0 w1 := hb1
  obtain ⟨-, c1_0, c1_1, c1_2, c1_3, c1_4, c1_5⟩ := SK _ hL1
  go_wp2_with fail
  refine (rDot_any _ ax ay bx by_).mono ?_
  rw [hR1]
  rintro e w2 ⟨rfl, hb2⟩
  have hL2 : Below w0.heap.size w0 w2 := hL1.trans (hb2.mono hL1.size)
  obtain ⟨-, c2_0, c2_1, c2_2, c2_3, c2_4, c2_5⟩ := SK _ hL2
  go_wp2_with fail
  refine (Cross_any _ ax ay bx by_ cx cy).mono ?_
  rw [hR2]
  rintro e w3 ⟨rfl, hb3⟩
  have hL3 : Below w0.heap.size w0 w3 := hL2.trans (hb3.mono hL2.size)
  obtain ⟨-, c3_0, c3_1, c3_2, c3_3, c3_4, c3_5⟩ := SK _ hL3
  go_wp2_with fail
  refine (rCross_any _ ax ay bx by_ cx cy).mono ?_
  rw [hR2]
  rintro e w4 ⟨rfl, hb4⟩
  have hL4 : Below w0.heap.size w0 w4 := hL3.trans (hb4.mono hL3.size)
  obtain ⟨-, c4_0, c4_1, c4_2, c4_3, c4_4, c4_5⟩ := SK _ hL4
  go_wp2_with fail
  refine (Side_any _ ax ay bx by_ cx cy).mono ?_
  rw [hR3]
  rintro e w5 ⟨rfl, hb5⟩
  have hL5 : Below w0.heap.size w0 w5 := hL4.trans (hb5.mono hL4.size)
  obtain ⟨-, c5_0, c5_1, c5_2, c5_3, c5_4, c5_5⟩ := SK _ hL5
  go_wp2_with fail
  refine (rSide_any _ ax ay bx by_ cx cy).mono ?_
  rw [hR3]
  rintro e w6 ⟨rfl, hb6⟩
  have hL6 : Below w0.heap.size w0 w6 := hL5.trans (hb6.mono hL5.size)
  obtain ⟨-, c6_0, c6_1, c6_2, c6_3, c6_4, c6_5⟩ := SK _ hL6
  go_wp2_with fail
  refine (Square_any _ ax ay bx by_).mono ?_
  rw [hR4]
  rintro e w7 ⟨rfl, hb7⟩
  have hL7 : Below w0.heap.size w0 w7 := hL6.trans (hb7.mono hL6.size)
  obtain ⟨-, c7_0, c7_1, c7_2, c7_3, c7_4, c7_5⟩ := SK _ hL7
  go_wp2_with fail
  refine (rSquare_any _ ax ay bx by_).mono ?_
  rw [hF, hR4]
  rintro e w8 ⟨rfl, hb8⟩
  have hL8 : Below w0.heap.size w0 w8 := hL7.trans (hb8.mono hL7.size)
  obtain ⟨-, c8_0, c8_1, c8_2, c8_3, c8_4, c8_5⟩ := SK _ hL8
  go_wp2_with fail
  refine (awake_any _ (HS.out.below (hb0.trans (hL8.mono hb0.size)) (Nat.le_refl _))).mono ?_
  rintro e w9 ⟨rfl, hb9⟩
  have hL9 : Below w0.heap.size w0 w9 := hL8.trans (hb9.mono hL8.size)
  obtain ⟨-, c9_0, c9_1, c9_2, c9_3, c9_4, c9_5⟩ := SK _ hL9
  go_wp2_with fail
  go_ret
  exact ⟨rfl, hb0.trans (hL9.mono hb0.size)⟩

end Go.Proofs.YtblfinpfcpglcaaGreatDoor
