/- VectorTurns: the walk. -/
import Derived.Test.YtblfinpfcpglcaaGreatDoorNear
namespace Go.Proofs.YtblfinpfcpglcaaGreatDoor
open Go.RowKit MLab

theorem Pts4 (w : World) (a b c d : Int × Int) (t : TypeId) (cap : Nat) : Pts (w.alloc (.cells #[.int .i64 a.1, .int .i64 a.2, .int .i64 b.1, .int .i64 b.2, .int .i64 c.1, .int .i64 c.2, .int .i64 d.1, .int .i64 d.2] t)) (.slice (some ⟨w.heap.size, 0, none⟩) 4 cap) [a, b, c, d] :=
  Pts.new w [a, b, c, d] t _ (fun i p hi => match i, hi with | 0, hi => by cases hi; exact ⟨rfl, rfl⟩ | 1, hi => by cases hi; exact ⟨rfl, rfl⟩ | 2, hi => by cases hi; exact ⟨rfl, rfl⟩ | 3, hi => by cases hi; exact ⟨rfl, rfl⟩ | j + 4, hi => by simp at hi) cap
theorem at_eq (w : World) (x y : Int) : Calls Tryz.prog 28 #[.int .i64 x, .int .i64 y] w fun e w' => e = .returned (.agg #[.int .i64 x, .int .i64 y]) ∧ w' = w.alloc (.cells #[.int .i64 x, .int .i64 y] 23) := by
  go_enter Tryz.func28, Tryz.ntmps28
  go_wp2_with fail
  exact bodyPost_ret (v := .agg #[.int .i64 x, .int .i64 y]) (by simp [results, Tryz.results28, go_sem]) rfl ⟨rfl, rfl⟩
theorem nal1 (w : World) (a : Obj) : Below w.heap.size w (w.alloc a) := allocs_below w [a]
theorem nal2 (w : World) (a b : Obj) : Below w.heap.size w ((w.alloc a).alloc b) := allocs_below w [a, b]
theorem nal3 (w : World) (a b c : Obj) : Below w.heap.size w (((w.alloc a).alloc b).alloc c) := allocs_below w [a, b, c]
theorem nal4 (w : World) (a b c d : Obj) : Below w.heap.size w ((((w.alloc a).alloc b).alloc c).alloc d) := allocs_below w [a, b, c, d]

/-- The moved points, as far as the loop has come. -/
def mvA (ax ay bx by_ cx cy ux uy : Int) : Nat → Array Value
  | 0 => #[.int .i64 0, .int .i64 0, .int .i64 0, .int .i64 0, .int .i64 0, .int .i64 0]
  | 1 => #[.int .i64 (ax + ux), .int .i64 (ay + uy), .int .i64 0, .int .i64 0, .int .i64 0, .int .i64 0]
  | 2 => #[.int .i64 (ax + ux), .int .i64 (ay + uy), .int .i64 (bx + ux), .int .i64 (by_ + uy), .int .i64 0, .int .i64 0]
  | _ => #[.int .i64 (ax + ux), .int .i64 (ay + uy), .int .i64 (bx + ux), .int .i64 (by_ + uy), .int .i64 (cx + ux), .int .i64 (cy + uy)]

set_option maxRecDepth 100000 in
set_option maxHeartbeats 2000000 in
theorem turns_far (w : World) (ax ay bx by_ cx cy ux uy : Int) (hall : [(ax, ay), (bx, by_), (cx, cy), (ux, uy)].all smP = false) (hs : Std w) : Calls Tryz.prog 9 #[.agg #[.int .i64 ax, .int .i64 ay, .int .i64 bx, .int .i64 by_, .int .i64 cx, .int .i64 cy], .agg #[.int .i64 ux, .int .i64 uy]] w fun e w' => e = .returned (.bool true) ∧ Below w.heap.size w w' := by
  have HS := hide hs
  clear hs
  go_enter Tryz.func9, Tryz.ntmps9
  go_upto_region 1 with (fail)
  have hb0 : Below w.heap.size w ((w.alloc (.cells #[.int .i64 ax, .int .i64 ay, .int .i64 bx, .int .i64 by_, .int .i64 cx, .int .i64 cy] 68)).alloc (.cells #[.int .i64 ux, .int .i64 uy] 23)) := allocs_below w [(.cells #[.int .i64 ax, .int .i64 ay, .int .i64 bx, .int .i64 by_, .int .i64 cx, .int .i64 cy] 68), (.cells #[.int .i64 ux, .int .i64 uy] 23)]
  have s0 : w.heap.size + 2 ≤ ((w.alloc (.cells #[.int .i64 ax, .int .i64 ay, .int .i64 bx, .int .i64 by_, .int .i64 cx, .int .i64 cy] 68)).alloc (.cells #[.int .i64 ux, .int .i64 uy] 23)).heap.size := Nat.le_of_eq (allocs_size w [(.cells #[.int .i64 ax, .int .i64 ay, .int .i64 bx, .int .i64 by_, .int .i64 cx, .int .i64 cy] 68), (.cells #[.int .i64 ux, .int .i64 uy] 23)]).symm
  have kb0 : ((w.alloc (.cells #[.int .i64 ax, .int .i64 ay, .int .i64 bx, .int .i64 by_, .int .i64 cx, .int .i64 cy] 68)).alloc (.cells #[.int .i64 ux, .int .i64 uy] 23)).heap[w.heap.size + 0]? = some (.cells #[.int .i64 ax, .int .i64 ay, .int .i64 bx, .int .i64 by_, .int .i64 cx, .int .i64 cy] 68) := allocs_at w [(.cells #[.int .i64 ax, .int .i64 ay, .int .i64 bx, .int .i64 by_, .int .i64 cx, .int .i64 cy] 68), (.cells #[.int .i64 ux, .int .i64 uy] 23)] 0 rfl
  have kb1 : ((w.alloc (.cells #[.int .i64 ax, .int .i64 ay, .int .i64 bx, .int .i64 by_, .int .i64 cx, .int .i64 cy] 68)).alloc (.cells #[.int .i64 ux, .int .i64 uy] 23)).heap[w.heap.size + 1]? = some (.cells #[.int .i64 ux, .int .i64 uy] 23) := allocs_at w [(.cells #[.int .i64 ax, .int .i64 ay, .int .i64 bx, .int .i64 by_, .int .i64 cx, .int .i64 cy] 68), (.cells #[.int .i64 ux, .int .i64 uy] 23)] 1 rfl
  generalize ((w.alloc (.cells #[.int .i64 ax, .int .i64 ay, .int .i64 bx, .int .i64 by_, .int .i64 cx, .int .i64 cy] 68)).alloc (.cells #[.int .i64 ux, .int .i64 uy] 23)) = w0 at *
  have k0_0 : w0.cell? ⟨w.heap.size, 0, none⟩ = some (.int .i64 ax) := (Blk.cell kb0 0).trans rfl
  have k0_1 : w0.cell? ⟨w.heap.size, 1, none⟩ = some (.int .i64 ay) := (Blk.cell kb0 1).trans rfl
  have k0_2 : w0.cell? ⟨w.heap.size, 2, none⟩ = some (.int .i64 bx) := (Blk.cell kb0 2).trans rfl
  have k0_3 : w0.cell? ⟨w.heap.size, 3, none⟩ = some (.int .i64 by_) := (Blk.cell kb0 3).trans rfl
  have k0_4 : w0.cell? ⟨w.heap.size, 4, none⟩ = some (.int .i64 cx) := (Blk.cell kb0 4).trans rfl
  have k0_5 : w0.cell? ⟨w.heap.size, 5, none⟩ = some (.int .i64 cy) := (Blk.cell kb0 5).trans rfl
  have k1_0 : w0.cell? ⟨w.heap.size + 1, 0, none⟩ = some (.int .i64 ux) := (Blk.cell kb1 0).trans rfl
  have k1_1 : w0.cell? ⟨w.heap.size + 1, 1, none⟩ = some (.int .i64 uy) := (Blk.cell kb1 1).trans rfl
  clear kb0 kb1
  have SK : ∀ w', Below w0.heap.size w0 w' → Below w0.heap.size w0 w' ∧ w'.cell? ⟨w.heap.size, 0, none⟩ = some (.int .i64 ax) ∧ w'.cell? ⟨w.heap.size, 1, none⟩ = some (.int .i64 ay) ∧ w'.cell? ⟨w.heap.size, 2, none⟩ = some (.int .i64 bx) ∧ w'.cell? ⟨w.heap.size, 3, none⟩ = some (.int .i64 by_) ∧ w'.cell? ⟨w.heap.size, 4, none⟩ = some (.int .i64 cx) ∧ w'.cell? ⟨w.heap.size, 5, none⟩ = some (.int .i64 cy) ∧ w'.cell? ⟨w.heap.size + 1, 0, none⟩ = some (.int .i64 ux) ∧ w'.cell? ⟨w.heap.size + 1, 1, none⟩ = some (.int .i64 uy) := fun w' h => ⟨h, (bcell h _ _ (by omega)).trans k0_0, (bcell h _ _ (by omega)).trans k0_1, (bcell h _ _ (by omega)).trans k0_2, (bcell h _ _ (by omega)).trans k0_3, (bcell h _ _ (by omega)).trans k0_4, (bcell h _ _ (by omega)).trans k0_5, (bcell h _ _ (by omega)).trans k1_0, (bcell h _ _ (by omega)).trans k1_1⟩
  go_wp2_with fail
  refine (near_any _ _ [(ax, ay), (bx, by_), (cx, cy), (ux, uy)] (Pts4 w0 (ax, ay) (bx, by_) (cx, cy) (ux, uy) _ _) (by simp)).mono ?_
  rw [hall]
  rintro e w1 ⟨rfl, hb1⟩
  have hb1' := (allocs_below w0 [_]).trans (hb1.mono (by simp))
  have hL1 : Below w0.heap.size w0 w1 := hb1'
  obtain ⟨-, c1_0, c1_1, c1_2, c1_3, c1_4, c1_5, c1_6, c1_7⟩ := SK _ hL1
  have HSa := hide (HS.out.below (hb0.trans (hL1.mono hb0.size)) (Nat.le_refl _))
  go_wp2_with fail
  refine (awake_any _ HSa.out).mono ?_
  rintro e w2 ⟨rfl, hbw2⟩
  have hL2 : Below w0.heap.size w0 w2 := hL1.trans (hbw2.mono hL1.size)
  obtain ⟨-, c2_0, c2_1, c2_2, c2_3, c2_4, c2_5, c2_6, c2_7⟩ := SK _ hL2
  go_wp2_with fail
  go_ret
  exact ⟨rfl, hb0.trans (hL2.mono hb0.size)⟩

set_option maxRecDepth 100000 in
set_option maxHeartbeats 8000000 in
theorem turns_near (w : World) (ax ay bx by_ cx cy ux uy : Int) (hall : [(ax, ay), (bx, by_), (cx, cy), (ux, uy)].all smP = true) (hsm : Sm ax ay ∧ Sm bx by_ ∧ Sm cx cy ∧ Sm ux uy) (hs : Std w) : Calls Tryz.prog 9 #[.agg #[.int .i64 ax, .int .i64 ay, .int .i64 bx, .int .i64 by_, .int .i64 cx, .int .i64 cy], .agg #[.int .i64 ux, .int .i64 uy]] w fun e w' => e = .returned (.bool true) ∧ Below w.heap.size w w' := by
  have HS := hide hs
  clear hs
  obtain ⟨m0a, m0b⟩ := mulB (x := bx - ax) (y := cy - ay) (M := 18000) (N := 18000) (by omega) (by omega)
  obtain ⟨m1a, m1b⟩ := mulB (x := by_ - ay) (y := cx - ax) (M := 18000) (N := 18000) (by omega) (by omega)
  obtain ⟨m2a, m2b⟩ := mulB (x := bx - ax) (y := cx - ax) (M := 18000) (N := 18000) (by omega) (by omega)
  obtain ⟨m3a, m3b⟩ := mulB (x := by_ - ay) (y := cy - ay) (M := 18000) (N := 18000) (by omega) (by omega)
  obtain ⟨m4a, m4b⟩ := mulB (x := bx - ax) (y := bx - ax) (M := 18000) (N := 18000) (by omega) (by omega)
  obtain ⟨m5a, m5b⟩ := mulB (x := by_ - ay) (y := by_ - ay) (M := 18000) (N := 18000) (by omega) (by omega)
  obtain ⟨m6a, m6b⟩ := mulB (x := cx - ax) (y := cx - ax) (M := 18000) (N := 18000) (by omega) (by omega)
  obtain ⟨m7a, m7b⟩ := mulB (x := cy - ay) (y := cy - ay) (M := 18000) (N := 18000) (by omega) (by omega)
  have gA := sq_nn (bx - ax)
  have gB := sq_nn (by_ - ay)
  have gC := sq_nn (cx - ax)
  have gD := sq_nn (cy - ay)
  obtain ⟨X, hX⟩ : ∃ z : Int, (bx - ax) * (cy - ay) - (by_ - ay) * (cx - ax) = z := ⟨_, rfl⟩
  obtain ⟨D, hD⟩ : ∃ z : Int, (bx - ax) * (cx - ax) + (by_ - ay) * (cy - ay) = z := ⟨_, rfl⟩
  obtain ⟨M, hM⟩ : ∃ z : Int, (bx - ax) * (bx - ax) + (by_ - ay) * (by_ - ay) = z := ⟨_, rfl⟩
  obtain ⟨N, hN⟩ : ∃ z : Int, (cx - ax) * (cx - ax) + (cy - ay) * (cy - ay) = z := ⟨_, rfl⟩
  have hLag : X * X + D * D = M * N := by rw [← hX, ← hD, ← hM, ← hN]; grind
  have r1 : R2 ((bx - ax) * (cy - ay) - (by_ - ay) * (cx - ax)) (Co (ax) ∧ Co (ay) ∧ Co (bx) ∧ Co (by_) ∧ Co (cx) ∧ Co (cy)) = .tuple #[.int .i64 (X), .int .i64 0] := (R2_pos _ (by omega)).trans (by rw [show (bx - ax) * (cy - ay) - (by_ - ay) * (cx - ax) = X by exact hX])
  have r2 : R2 ((bx + ux - (ax + ux)) * (cy + uy - (ay + uy)) - (by_ + uy - (ay + uy)) * (cx + ux - (ax + ux))) (Co (ax + ux) ∧ Co (ay + uy) ∧ Co (bx + ux) ∧ Co (by_ + uy) ∧ Co (cx + ux) ∧ Co (cy + uy)) = .tuple #[.int .i64 (X), .int .i64 0] := (R2_pos _ (by omega)).trans (by rw [show (bx + ux - (ax + ux)) * (cy + uy - (ay + uy)) - (by_ + uy - (ay + uy)) * (cx + ux - (ax + ux)) = X by rw [← hX]; grind])
  have r3 : R2 ((cx - bx) * (ay - by_) - (cy - by_) * (ax - bx)) (Co (bx) ∧ Co (by_) ∧ Co (cx) ∧ Co (cy) ∧ Co (ax) ∧ Co (ay)) = .tuple #[.int .i64 (X), .int .i64 0] := (R2_pos _ (by omega)).trans (by rw [show (cx - bx) * (ay - by_) - (cy - by_) * (ax - bx) = X by rw [← hX]; grind])
  have r4 : R2 ((ax - cx) * (by_ - cy) - (ay - cy) * (bx - cx)) (Co (cx) ∧ Co (cy) ∧ Co (ax) ∧ Co (ay) ∧ Co (bx) ∧ Co (by_)) = .tuple #[.int .i64 (X), .int .i64 0] := (R2_pos _ (by omega)).trans (by rw [show (ax - cx) * (by_ - cy) - (ay - cy) * (bx - cx) = X by rw [← hX]; grind])
  have r5 : R2 ((ax - bx) * (cy - by_) - (ay - by_) * (cx - bx)) (Co (bx) ∧ Co (by_) ∧ Co (ax) ∧ Co (ay) ∧ Co (cx) ∧ Co (cy)) = .tuple #[.int .i64 (-X), .int .i64 0] := (R2_pos _ (by omega)).trans (by rw [show (ax - bx) * (cy - by_) - (ay - by_) * (cx - bx) = -X by rw [← hX]; grind])
  have r7 : R2 ((bx - ax) * (cx - ax) + (by_ - ay) * (cy - ay)) (Co (bx - ax) ∧ Co (by_ - ay) ∧ Co (cx - ax) ∧ Co (cy - ay)) = .tuple #[.int .i64 (D), .int .i64 0] := (R2_pos _ (by omega)).trans (by rw [show (bx - ax) * (cx - ax) + (by_ - ay) * (cy - ay) = D by exact hD])
  have r8 : R2 ((bx - ax) * (bx - ax) + (by_ - ay) * (by_ - ay)) (Co (ax) ∧ Co (ay) ∧ Co (bx) ∧ Co (by_)) = .tuple #[.int .i64 (M), .int .i64 0] := (R2_pos _ (by omega)).trans (by rw [show (bx - ax) * (bx - ax) + (by_ - ay) * (by_ - ay) = M by exact hM])
  have r9 : R2 ((cx - ax) * (cx - ax) + (cy - ay) * (cy - ay)) (Co (ax) ∧ Co (ay) ∧ Co (cx) ∧ Co (cy)) = .tuple #[.int .i64 (N), .int .i64 0] := (R2_pos _ (by omega)).trans (by rw [show (cx - ax) * (cx - ax) + (cy - ay) * (cy - ay) = N by exact hN])
  have r6 : R2 (Int.sign ((bx - ax) * (cy - ay) - (by_ - ay) * (cx - ax))) (Co (ax) ∧ Co (ay) ∧ Co (bx) ∧ Co (by_) ∧ Co (cx) ∧ Co (cy)) = .tuple #[.int .i64 (Int.sign X), .int .i64 0] := (R2_pos _ (by omega)).trans (by rw [hX])
  have b1 : -648000000 ≤ X ∧ X ≤ 648000000 := by omega
  have b2 : -648000000 ≤ D ∧ D ≤ 648000000 := by omega
  have b3 : 0 ≤ M ∧ M ≤ 648000000 := by omega
  have b4 : 0 ≤ N ∧ N ≤ 648000000 := by omega
  have q1 := mulB (M := 648000000) (N := 648000000) b1 b1
  have q2 := mulB (M := 648000000) (N := 648000000) b2 b2
  have q3 := mulB (x := M) (y := N) (M := 648000000) (N := 648000000) (by omega) (by omega)
  clear m0a m0b m1a m1b m2a m2b m3a m3b m4a m4b m5a m5b m6a m6b m7a m7b gA gB gC gD hX hD hM hN
  have r1 := hide r1
  have r2 := hide r2
  have r3 := hide r3
  have r4 := hide r4
  have r5 := hide r5
  have r6 := hide r6
  have r7 := hide r7
  have r8 := hide r8
  have r9 := hide r9
  have HLag := hide hLag
  clear hLag
  go_enter Tryz.func9, Tryz.ntmps9
  go_upto_region 1 with (fail)
  have hb0 : Below w.heap.size w ((w.alloc (.cells #[.int .i64 ax, .int .i64 ay, .int .i64 bx, .int .i64 by_, .int .i64 cx, .int .i64 cy] 68)).alloc (.cells #[.int .i64 ux, .int .i64 uy] 23)) := allocs_below w [(.cells #[.int .i64 ax, .int .i64 ay, .int .i64 bx, .int .i64 by_, .int .i64 cx, .int .i64 cy] 68), (.cells #[.int .i64 ux, .int .i64 uy] 23)]
  have s0 : w.heap.size + 2 ≤ ((w.alloc (.cells #[.int .i64 ax, .int .i64 ay, .int .i64 bx, .int .i64 by_, .int .i64 cx, .int .i64 cy] 68)).alloc (.cells #[.int .i64 ux, .int .i64 uy] 23)).heap.size := Nat.le_of_eq (allocs_size w [(.cells #[.int .i64 ax, .int .i64 ay, .int .i64 bx, .int .i64 by_, .int .i64 cx, .int .i64 cy] 68), (.cells #[.int .i64 ux, .int .i64 uy] 23)]).symm
  have kb0 : ((w.alloc (.cells #[.int .i64 ax, .int .i64 ay, .int .i64 bx, .int .i64 by_, .int .i64 cx, .int .i64 cy] 68)).alloc (.cells #[.int .i64 ux, .int .i64 uy] 23)).heap[w.heap.size + 0]? = some (.cells #[.int .i64 ax, .int .i64 ay, .int .i64 bx, .int .i64 by_, .int .i64 cx, .int .i64 cy] 68) := allocs_at w [(.cells #[.int .i64 ax, .int .i64 ay, .int .i64 bx, .int .i64 by_, .int .i64 cx, .int .i64 cy] 68), (.cells #[.int .i64 ux, .int .i64 uy] 23)] 0 rfl
  have kb1 : ((w.alloc (.cells #[.int .i64 ax, .int .i64 ay, .int .i64 bx, .int .i64 by_, .int .i64 cx, .int .i64 cy] 68)).alloc (.cells #[.int .i64 ux, .int .i64 uy] 23)).heap[w.heap.size + 1]? = some (.cells #[.int .i64 ux, .int .i64 uy] 23) := allocs_at w [(.cells #[.int .i64 ax, .int .i64 ay, .int .i64 bx, .int .i64 by_, .int .i64 cx, .int .i64 cy] 68), (.cells #[.int .i64 ux, .int .i64 uy] 23)] 1 rfl
  generalize ((w.alloc (.cells #[.int .i64 ax, .int .i64 ay, .int .i64 bx, .int .i64 by_, .int .i64 cx, .int .i64 cy] 68)).alloc (.cells #[.int .i64 ux, .int .i64 uy] 23)) = w0 at *
  have k0_0 : w0.cell? ⟨w.heap.size, 0, none⟩ = some (.int .i64 ax) := (Blk.cell kb0 0).trans rfl
  have k0_1 : w0.cell? ⟨w.heap.size, 1, none⟩ = some (.int .i64 ay) := (Blk.cell kb0 1).trans rfl
  have k0_2 : w0.cell? ⟨w.heap.size, 2, none⟩ = some (.int .i64 bx) := (Blk.cell kb0 2).trans rfl
  have k0_3 : w0.cell? ⟨w.heap.size, 3, none⟩ = some (.int .i64 by_) := (Blk.cell kb0 3).trans rfl
  have k0_4 : w0.cell? ⟨w.heap.size, 4, none⟩ = some (.int .i64 cx) := (Blk.cell kb0 4).trans rfl
  have k0_5 : w0.cell? ⟨w.heap.size, 5, none⟩ = some (.int .i64 cy) := (Blk.cell kb0 5).trans rfl
  have k1_0 : w0.cell? ⟨w.heap.size + 1, 0, none⟩ = some (.int .i64 ux) := (Blk.cell kb1 0).trans rfl
  have k1_1 : w0.cell? ⟨w.heap.size + 1, 1, none⟩ = some (.int .i64 uy) := (Blk.cell kb1 1).trans rfl
  clear kb0 kb1
  have SK : ∀ w', Below w0.heap.size w0 w' → Below w0.heap.size w0 w' ∧ w'.cell? ⟨w.heap.size, 0, none⟩ = some (.int .i64 ax) ∧ w'.cell? ⟨w.heap.size, 1, none⟩ = some (.int .i64 ay) ∧ w'.cell? ⟨w.heap.size, 2, none⟩ = some (.int .i64 bx) ∧ w'.cell? ⟨w.heap.size, 3, none⟩ = some (.int .i64 by_) ∧ w'.cell? ⟨w.heap.size, 4, none⟩ = some (.int .i64 cx) ∧ w'.cell? ⟨w.heap.size, 5, none⟩ = some (.int .i64 cy) ∧ w'.cell? ⟨w.heap.size + 1, 0, none⟩ = some (.int .i64 ux) ∧ w'.cell? ⟨w.heap.size + 1, 1, none⟩ = some (.int .i64 uy) := fun w' h => ⟨h, (bcell h _ _ (by omega)).trans k0_0, (bcell h _ _ (by omega)).trans k0_1, (bcell h _ _ (by omega)).trans k0_2, (bcell h _ _ (by omega)).trans k0_3, (bcell h _ _ (by omega)).trans k0_4, (bcell h _ _ (by omega)).trans k0_5, (bcell h _ _ (by omega)).trans k1_0, (bcell h _ _ (by omega)).trans k1_1⟩
  go_wp2_with fail
  refine (near_any _ _ [(ax, ay), (bx, by_), (cx, cy), (ux, uy)] (Pts4 w0 (ax, ay) (bx, by_) (cx, cy) (ux, uy) _ _) (by simp)).mono ?_
  rw [hall]
  rintro e w1 ⟨rfl, hb1⟩
  have hb1' := (allocs_below w0 [_]).trans (hb1.mono (by simp))
  have hL1 : Below w0.heap.size w0 w1 := hb1'
  obtain ⟨-, c1_0, c1_1, c1_2, c1_3, c1_4, c1_5, c1_6, c1_7⟩ := SK _ hL1
  go_upto_region 4 with (fail)
  have hM2 := Blk.new w1 68 #[.int .i64 0, .int .i64 0, .int .i64 0, .int .i64 0, .int .i64 0, .int .i64 0]
  have gA2 : Below w1.heap.size w1 (w1.alloc (.cells #[.int .i64 0, .int .i64 0, .int .i64 0, .int .i64 0, .int .i64 0, .int .i64 0] 68)) := (Below.refl _ _).alloc (Nat.le_refl _) _
  have z2 : w1.heap.size < (w1.alloc (.cells #[.int .i64 0, .int .i64 0, .int .i64 0, .int .i64 0, .int .i64 0, .int .i64 0] 68)).heap.size := by simp
  generalize (w1.alloc (.cells #[.int .i64 0, .int .i64 0, .int .i64 0, .int .i64 0, .int .i64 0, .int .i64 0] 68)) = w2 at *
  have hL2 : Below w0.heap.size w0 w2 := hL1.trans (gA2.mono hL1.size)
  have c2_0 := (bcell gA2 _ _ (block_lt_of_cell c1_0)).trans c1_0
  have c2_1 := (bcell gA2 _ _ (block_lt_of_cell c1_1)).trans c1_1
  have c2_2 := (bcell gA2 _ _ (block_lt_of_cell c1_2)).trans c1_2
  have c2_3 := (bcell gA2 _ _ (block_lt_of_cell c1_3)).trans c1_3
  have c2_4 := (bcell gA2 _ _ (block_lt_of_cell c1_4)).trans c1_4
  have c2_5 := (bcell gA2 _ _ (block_lt_of_cell c1_5)).trans c1_5
  have c2_6 := (bcell gA2 _ _ (block_lt_of_cell c1_6)).trans c1_6
  have c2_7 := (bcell gA2 _ _ (block_lt_of_cell c1_7)).trans c1_7
  clear c1_0 c1_1 c1_2 c1_3 c1_4 c1_5 c1_6 c1_7
  have HM2 := hide hM2
  clear hM2
  go_wp2_with fail
  go_loopg [38] 3 (fun k i wr => ∃ j : Nat, i = .int .i64 (j : Int) ∧ k + j = 3 ∧ Blk wr w1.heap.size 68 (mvA ax ay bx by_ cx cy ux uy j) ∧ Below w1.heap.size w1 wr)
  case atStart => exact ⟨0, rfl, rfl, HM2.out, gA2⟩
  case round =>
    obtain ⟨j, rfl, hk, hM, hbr⟩ := hrel
    have HM := hide hM
    clear hM
    have hj : j = 0 ∨ j = 1 ∨ j = 2 ∨ j = 3 := by omega
    have hzr : w1.heap.size < wr.heap.size := Blk.lt HM.out
    have gw : Below w0.heap.size w0 wr := hb1'.trans (hbr.mono hb1'.size)
    obtain ⟨-, d0, d1, d2, d3, d4, d5, d6, d7⟩ := SK _ gw
    rcases hj with rfl | rfl | rfl | rfl
    · have hix : ∀ W, (Instr.index 68 (.agg #[.int .i64 ax, .int .i64 ay, .int .i64 bx, .int .i64 by_, .int .i64 cx, .int .i64 cy]) (.int .i64 0)).run Tryz.prog W = .ok (.agg #[.int .i64 ax, .int .i64 ay]) W := fun _ => by kernel_rfl
      go_upto_region 7 with (fail)
      have hP := Blk.new wr 23 #[.int .i64 ax, .int .i64 ay]
      have gP : Below wr.heap.size wr (wr.alloc (.cells #[.int .i64 ax, .int .i64 ay] 23)) := (Below.refl _ _).alloc (Nat.le_refl _) _
      generalize (wr.alloc (.cells #[.int .i64 ax, .int .i64 ay] 23)) = w3 at *
      have e0 := (bcell gP _ _ (block_lt_of_cell d6)).trans d6
      have e1 := (bcell gP _ _ (block_lt_of_cell d7)).trans d7
      have p0 : w3.cell? ⟨wr.heap.size, 0, none⟩ = some (.int .i64 ax) := (Blk.cell hP 0).trans rfl
      have p1 : w3.cell? ⟨wr.heap.size, 1, none⟩ = some (.int .i64 ay) := (Blk.cell hP 1).trans rfl
      have HG := hide (hbr.trans (gP.mono (Nat.le_of_lt hzr)))
      have hM3 := HM.out.below gP hzr
      have HM3 := hide hM3
      clear hP hM3 hbr gw d0 d1 d2 d3 d4 d5 d6 d7
      go_wp2_with fail
      refine (at_any _ (ax + ux) (ay + uy)).mono ?_
      rintro e w4 ⟨rfl, hb4⟩
      have HG4 := hide (HG.out.trans (hb4.mono HG.out.size))
      have hM4 := HM3.out.below hb4 (Blk.lt HM3.out)
      have m0 : w4.cell? ⟨w1.heap.size, 0, none⟩ = some (.int .i64 0) := (Blk.cell hM4 0).trans rfl
      have m1 : w4.cell? ⟨w1.heap.size, 1, none⟩ = some (.int .i64 0) := (Blk.cell hM4 1).trans rfl
      have n0 := Blk.frozen hM4 0
      have n1 := Blk.frozen hM4 1
      have HM4 := hide hM4
      clear hM4 hb4 gP
      go_wp2_with fail
      go_roundg 2
      case measure => omega
      case rel =>
        refine ⟨1, rfl, rfl, ?_, (HG4.out.setCell (Nat.le_refl _) _).setCell (Nat.le_refl _) _⟩
        have := (HM4.out.set_ 0 (.int .i64 (ax + ux))).set_ 1 (.int .i64 (ay + uy))
        simpa [mvA] using this
    · have hix : ∀ W, (Instr.index 68 (.agg #[.int .i64 ax, .int .i64 ay, .int .i64 bx, .int .i64 by_, .int .i64 cx, .int .i64 cy]) (.int .i64 1)).run Tryz.prog W = .ok (.agg #[.int .i64 bx, .int .i64 by_]) W := fun _ => by kernel_rfl
      go_upto_region 7 with (fail)
      have hP := Blk.new wr 23 #[.int .i64 bx, .int .i64 by_]
      have gP : Below wr.heap.size wr (wr.alloc (.cells #[.int .i64 bx, .int .i64 by_] 23)) := (Below.refl _ _).alloc (Nat.le_refl _) _
      generalize (wr.alloc (.cells #[.int .i64 bx, .int .i64 by_] 23)) = w3 at *
      have e0 := (bcell gP _ _ (block_lt_of_cell d6)).trans d6
      have e1 := (bcell gP _ _ (block_lt_of_cell d7)).trans d7
      have p0 : w3.cell? ⟨wr.heap.size, 0, none⟩ = some (.int .i64 bx) := (Blk.cell hP 0).trans rfl
      have p1 : w3.cell? ⟨wr.heap.size, 1, none⟩ = some (.int .i64 by_) := (Blk.cell hP 1).trans rfl
      have HG := hide (hbr.trans (gP.mono (Nat.le_of_lt hzr)))
      have hM3 := HM.out.below gP hzr
      have HM3 := hide hM3
      clear hP hM3 hbr gw d0 d1 d2 d3 d4 d5 d6 d7
      go_wp2_with fail
      refine (at_any _ (bx + ux) (by_ + uy)).mono ?_
      rintro e w4 ⟨rfl, hb4⟩
      have HG4 := hide (HG.out.trans (hb4.mono HG.out.size))
      have hM4 := HM3.out.below hb4 (Blk.lt HM3.out)
      have m0 : w4.cell? ⟨w1.heap.size, 2, none⟩ = some (.int .i64 0) := (Blk.cell hM4 2).trans rfl
      have m1 : w4.cell? ⟨w1.heap.size, 3, none⟩ = some (.int .i64 0) := (Blk.cell hM4 3).trans rfl
      have n0 := Blk.frozen hM4 2
      have n1 := Blk.frozen hM4 3
      have HM4 := hide hM4
      clear hM4 hb4 gP
      go_wp2_with fail
      go_roundg 1
      case measure => omega
      case rel =>
        refine ⟨2, rfl, rfl, ?_, (HG4.out.setCell (Nat.le_refl _) _).setCell (Nat.le_refl _) _⟩
        have := (HM4.out.set_ 2 (.int .i64 (bx + ux))).set_ 3 (.int .i64 (by_ + uy))
        simpa [mvA] using this
    · have hix : ∀ W, (Instr.index 68 (.agg #[.int .i64 ax, .int .i64 ay, .int .i64 bx, .int .i64 by_, .int .i64 cx, .int .i64 cy]) (.int .i64 2)).run Tryz.prog W = .ok (.agg #[.int .i64 cx, .int .i64 cy]) W := fun _ => by kernel_rfl
      go_upto_region 7 with (fail)
      have hP := Blk.new wr 23 #[.int .i64 cx, .int .i64 cy]
      have gP : Below wr.heap.size wr (wr.alloc (.cells #[.int .i64 cx, .int .i64 cy] 23)) := (Below.refl _ _).alloc (Nat.le_refl _) _
      generalize (wr.alloc (.cells #[.int .i64 cx, .int .i64 cy] 23)) = w3 at *
      have e0 := (bcell gP _ _ (block_lt_of_cell d6)).trans d6
      have e1 := (bcell gP _ _ (block_lt_of_cell d7)).trans d7
      have p0 : w3.cell? ⟨wr.heap.size, 0, none⟩ = some (.int .i64 cx) := (Blk.cell hP 0).trans rfl
      have p1 : w3.cell? ⟨wr.heap.size, 1, none⟩ = some (.int .i64 cy) := (Blk.cell hP 1).trans rfl
      have HG := hide (hbr.trans (gP.mono (Nat.le_of_lt hzr)))
      have hM3 := HM.out.below gP hzr
      have HM3 := hide hM3
      clear hP hM3 hbr gw d0 d1 d2 d3 d4 d5 d6 d7
      go_wp2_with fail
      refine (at_any _ (cx + ux) (cy + uy)).mono ?_
      rintro e w4 ⟨rfl, hb4⟩
      have HG4 := hide (HG.out.trans (hb4.mono HG.out.size))
      have hM4 := HM3.out.below hb4 (Blk.lt HM3.out)
      have m0 : w4.cell? ⟨w1.heap.size, 4, none⟩ = some (.int .i64 0) := (Blk.cell hM4 4).trans rfl
      have m1 : w4.cell? ⟨w1.heap.size, 5, none⟩ = some (.int .i64 0) := (Blk.cell hM4 5).trans rfl
      have n0 := Blk.frozen hM4 4
      have n1 := Blk.frozen hM4 5
      have HM4 := hide hM4
      clear hM4 hb4 gP
      go_wp2_with fail
      go_roundg 0
      case measure => omega
      case rel =>
        refine ⟨3, rfl, rfl, ?_, (HG4.out.setCell (Nat.le_refl _) _).setCell (Nat.le_refl _) _⟩
        have := (HM4.out.set_ 4 (.int .i64 (cx + ux))).set_ 5 (.int .i64 (cy + uy))
        simpa [mvA] using this
    · have k6_0 : wr.cell? ⟨w1.heap.size, 0, none⟩ = some (.int .i64 (ax + ux)) := (Blk.cell HM.out 0).trans rfl
      have k6_1 : wr.cell? ⟨w1.heap.size, 1, none⟩ = some (.int .i64 (ay + uy)) := (Blk.cell HM.out 1).trans rfl
      have k6_2 : wr.cell? ⟨w1.heap.size, 2, none⟩ = some (.int .i64 (bx + ux)) := (Blk.cell HM.out 2).trans rfl
      have k6_3 : wr.cell? ⟨w1.heap.size, 3, none⟩ = some (.int .i64 (by_ + uy)) := (Blk.cell HM.out 3).trans rfl
      have k6_4 : wr.cell? ⟨w1.heap.size, 4, none⟩ = some (.int .i64 (cx + ux)) := (Blk.cell HM.out 4).trans rfl
      have k6_5 : wr.cell? ⟨w1.heap.size, 5, none⟩ = some (.int .i64 (cy + uy)) := (Blk.cell HM.out 5).trans rfl
      have h33 : ¬ ((3 : Nat) : Int) < 3 := by omega
      go_wp2_with fail
      refine (Cross_any _ ax ay bx by_ cx cy).mono ?_
      rw [r1.out]
      rintro e w5 ⟨rfl, hbw5⟩
      have hL21 : Below w0.heap.size w0 w5 := gw.trans (hbw5.mono gw.size)
      have c21_0 := (bcell hbw5 _ _ (block_lt_of_cell d0)).trans d0
      have c21_1 := (bcell hbw5 _ _ (block_lt_of_cell d1)).trans d1
      have c21_2 := (bcell hbw5 _ _ (block_lt_of_cell d2)).trans d2
      have c21_3 := (bcell hbw5 _ _ (block_lt_of_cell d3)).trans d3
      have c21_4 := (bcell hbw5 _ _ (block_lt_of_cell d4)).trans d4
      have c21_5 := (bcell hbw5 _ _ (block_lt_of_cell d5)).trans d5
      have c21_6 := (bcell hbw5 _ _ (block_lt_of_cell d6)).trans d6
      have c21_7 := (bcell hbw5 _ _ (block_lt_of_cell d7)).trans d7
      have c21_8 := (bcell hbw5 _ _ (block_lt_of_cell k6_0)).trans k6_0
      have c21_9 := (bcell hbw5 _ _ (block_lt_of_cell k6_1)).trans k6_1
      have c21_10 := (bcell hbw5 _ _ (block_lt_of_cell k6_2)).trans k6_2
      have c21_11 := (bcell hbw5 _ _ (block_lt_of_cell k6_3)).trans k6_3
      have c21_12 := (bcell hbw5 _ _ (block_lt_of_cell k6_4)).trans k6_4
      have c21_13 := (bcell hbw5 _ _ (block_lt_of_cell k6_5)).trans k6_5
      clear d0 d1 d2 d3 d4 d5 d6 d7 k6_0 k6_1 k6_2 k6_3 k6_4 k6_5
      go_upto_region 10 with (fail)
      go_wp2_with fail
      have hS := Blk.new w5 68 #[.int .i64 (ax + ux), .int .i64 (ay + uy), .int .i64 (bx + ux), .int .i64 (by_ + uy), .int .i64 (cx + ux), .int .i64 (cy + uy), .int .i64 bx, .int .i64 by_, .int .i64 cx, .int .i64 cy, .int .i64 ax, .int .i64 ay, .int .i64 cx, .int .i64 cy, .int .i64 ax, .int .i64 ay, .int .i64 bx, .int .i64 by_]
      have gS : Below w5.heap.size w5 (w5.alloc (.cells #[.int .i64 (ax + ux), .int .i64 (ay + uy), .int .i64 (bx + ux), .int .i64 (by_ + uy), .int .i64 (cx + ux), .int .i64 (cy + uy), .int .i64 bx, .int .i64 by_, .int .i64 cx, .int .i64 cy, .int .i64 ax, .int .i64 ay, .int .i64 cx, .int .i64 cy, .int .i64 ax, .int .i64 ay, .int .i64 bx, .int .i64 by_] 68)) := (Below.refl _ _).alloc (Nat.le_refl _) _
      generalize (w5.alloc (.cells #[.int .i64 (ax + ux), .int .i64 (ay + uy), .int .i64 (bx + ux), .int .i64 (by_ + uy), .int .i64 (cx + ux), .int .i64 (cy + uy), .int .i64 bx, .int .i64 by_, .int .i64 cx, .int .i64 cy, .int .i64 ax, .int .i64 ay, .int .i64 cx, .int .i64 cy, .int .i64 ax, .int .i64 ay, .int .i64 bx, .int .i64 by_] 68)) = w6 at *
      have hL22 : Below w0.heap.size w0 w6 := hL21.trans (gS.mono hL21.size)
      have c22_0 := (bcell gS _ _ (block_lt_of_cell c21_0)).trans c21_0
      have c22_1 := (bcell gS _ _ (block_lt_of_cell c21_1)).trans c21_1
      have c22_2 := (bcell gS _ _ (block_lt_of_cell c21_2)).trans c21_2
      have c22_3 := (bcell gS _ _ (block_lt_of_cell c21_3)).trans c21_3
      have c22_4 := (bcell gS _ _ (block_lt_of_cell c21_4)).trans c21_4
      have c22_5 := (bcell gS _ _ (block_lt_of_cell c21_5)).trans c21_5
      have c22_6 := (bcell gS _ _ (block_lt_of_cell c21_6)).trans c21_6
      have c22_7 := (bcell gS _ _ (block_lt_of_cell c21_7)).trans c21_7
      have c22_8 := (bcell gS _ _ (block_lt_of_cell c21_8)).trans c21_8
      have c22_9 := (bcell gS _ _ (block_lt_of_cell c21_9)).trans c21_9
      have c22_10 := (bcell gS _ _ (block_lt_of_cell c21_10)).trans c21_10
      have c22_11 := (bcell gS _ _ (block_lt_of_cell c21_11)).trans c21_11
      have c22_12 := (bcell gS _ _ (block_lt_of_cell c21_12)).trans c21_12
      have c22_13 := (bcell gS _ _ (block_lt_of_cell c21_13)).trans c21_13
      clear c21_0 c21_1 c21_2 c21_3 c21_4 c21_5 c21_6 c21_7 c21_8 c21_9 c21_10 c21_11 c21_12 c21_13
      have HS6 := hide hS
      clear hS
      go_loopg [83] 3 (fun k i wr => ∃ j : Nat, i = .int .i64 (j : Int) ∧ k + j = 3 ∧ Below w6.heap.size w6 wr)
      case atStart => exact ⟨0, rfl, rfl, Below.refl _ _⟩
      case round =>
        obtain ⟨j, rfl, hk, hbt⟩ := hrel
        have hj : j = 0 ∨ j = 1 ∨ j = 2 ∨ j = 3 := by omega
        have hS := Blk.below HS6.out hbt (Blk.lt HS6.out)
        have HSt := hide hS
        clear hS
        rcases hj with rfl | rfl | rfl | rfl
        · as_aux_lemma =>
            have s0 : wr.cell? ⟨w5.heap.size, 0, none⟩ = some (.int .i64 (ax + ux)) := (Blk.cell HSt.out 0).trans rfl
            have s1 : wr.cell? ⟨w5.heap.size, 1, none⟩ = some (.int .i64 (ay + uy)) := (Blk.cell HSt.out 1).trans rfl
            have s2 : wr.cell? ⟨w5.heap.size, 2, none⟩ = some (.int .i64 (bx + ux)) := (Blk.cell HSt.out 2).trans rfl
            have s3 : wr.cell? ⟨w5.heap.size, 3, none⟩ = some (.int .i64 (by_ + uy)) := (Blk.cell HSt.out 3).trans rfl
            have s4 : wr.cell? ⟨w5.heap.size, 4, none⟩ = some (.int .i64 (cx + ux)) := (Blk.cell HSt.out 4).trans rfl
            have s5 : wr.cell? ⟨w5.heap.size, 5, none⟩ = some (.int .i64 (cy + uy)) := (Blk.cell HSt.out 5).trans rfl
            go_upto_region 13 with (fail)
            have hR := Blk.new wr 68 #[.int .i64 (ax + ux), .int .i64 (ay + uy), .int .i64 (bx + ux), .int .i64 (by_ + uy), .int .i64 (cx + ux), .int .i64 (cy + uy)]
            have gR : Below wr.heap.size wr (wr.alloc (.cells #[.int .i64 (ax + ux), .int .i64 (ay + uy), .int .i64 (bx + ux), .int .i64 (by_ + uy), .int .i64 (cx + ux), .int .i64 (cy + uy)] 68)) := (Below.refl _ _).alloc (Nat.le_refl _) _
            generalize (wr.alloc (.cells #[.int .i64 (ax + ux), .int .i64 (ay + uy), .int .i64 (bx + ux), .int .i64 (by_ + uy), .int .i64 (cx + ux), .int .i64 (cy + uy)] 68)) = w7 at *
            have t0 : w7.cell? ⟨wr.heap.size, 0, none⟩ = some (.int .i64 (ax + ux)) := (Blk.cell hR 0).trans rfl
            have t1 : w7.cell? ⟨wr.heap.size, 1, none⟩ = some (.int .i64 (ay + uy)) := (Blk.cell hR 1).trans rfl
            have t2 : w7.cell? ⟨wr.heap.size, 2, none⟩ = some (.int .i64 (bx + ux)) := (Blk.cell hR 2).trans rfl
            have t3 : w7.cell? ⟨wr.heap.size, 3, none⟩ = some (.int .i64 (by_ + uy)) := (Blk.cell hR 3).trans rfl
            have t4 : w7.cell? ⟨wr.heap.size, 4, none⟩ = some (.int .i64 (cx + ux)) := (Blk.cell hR 4).trans rfl
            have t5 : w7.cell? ⟨wr.heap.size, 5, none⟩ = some (.int .i64 (cy + uy)) := (Blk.cell hR 5).trans rfl
            have HG := hide (hbt.trans (gR.mono hbt.size))
            clear hR gR s0 s1 s2 s3 s4 s5
            go_wp2_with fail
            refine (Cross_any _ (ax + ux) (ay + uy) (bx + ux) (by_ + uy) (cx + ux) (cy + uy)).mono ?_
            rw [r2.out]
            rintro e w8 ⟨rfl, hb8⟩
            have HG8 := hide (HG.out.trans (hb8.mono HG.out.size))
            clear hb8
            go_wp2_with fail
            go_roundg 2
            case measure => omega
            case rel => exact ⟨1, rfl, rfl, HG8.out⟩
        · as_aux_lemma =>
            have s0 : wr.cell? ⟨w5.heap.size, 6, none⟩ = some (.int .i64 (bx)) := (Blk.cell HSt.out 6).trans rfl
            have s1 : wr.cell? ⟨w5.heap.size, 7, none⟩ = some (.int .i64 (by_)) := (Blk.cell HSt.out 7).trans rfl
            have s2 : wr.cell? ⟨w5.heap.size, 8, none⟩ = some (.int .i64 (cx)) := (Blk.cell HSt.out 8).trans rfl
            have s3 : wr.cell? ⟨w5.heap.size, 9, none⟩ = some (.int .i64 (cy)) := (Blk.cell HSt.out 9).trans rfl
            have s4 : wr.cell? ⟨w5.heap.size, 10, none⟩ = some (.int .i64 (ax)) := (Blk.cell HSt.out 10).trans rfl
            have s5 : wr.cell? ⟨w5.heap.size, 11, none⟩ = some (.int .i64 (ay)) := (Blk.cell HSt.out 11).trans rfl
            go_upto_region 13 with (fail)
            have hR := Blk.new wr 68 #[.int .i64 bx, .int .i64 by_, .int .i64 cx, .int .i64 cy, .int .i64 ax, .int .i64 ay]
            have gR : Below wr.heap.size wr (wr.alloc (.cells #[.int .i64 bx, .int .i64 by_, .int .i64 cx, .int .i64 cy, .int .i64 ax, .int .i64 ay] 68)) := (Below.refl _ _).alloc (Nat.le_refl _) _
            generalize (wr.alloc (.cells #[.int .i64 bx, .int .i64 by_, .int .i64 cx, .int .i64 cy, .int .i64 ax, .int .i64 ay] 68)) = w7 at *
            have t0 : w7.cell? ⟨wr.heap.size, 0, none⟩ = some (.int .i64 (bx)) := (Blk.cell hR 0).trans rfl
            have t1 : w7.cell? ⟨wr.heap.size, 1, none⟩ = some (.int .i64 (by_)) := (Blk.cell hR 1).trans rfl
            have t2 : w7.cell? ⟨wr.heap.size, 2, none⟩ = some (.int .i64 (cx)) := (Blk.cell hR 2).trans rfl
            have t3 : w7.cell? ⟨wr.heap.size, 3, none⟩ = some (.int .i64 (cy)) := (Blk.cell hR 3).trans rfl
            have t4 : w7.cell? ⟨wr.heap.size, 4, none⟩ = some (.int .i64 (ax)) := (Blk.cell hR 4).trans rfl
            have t5 : w7.cell? ⟨wr.heap.size, 5, none⟩ = some (.int .i64 (ay)) := (Blk.cell hR 5).trans rfl
            have HG := hide (hbt.trans (gR.mono hbt.size))
            clear hR gR s0 s1 s2 s3 s4 s5
            go_wp2_with fail
            refine (Cross_any _ bx by_ cx cy ax ay).mono ?_
            rw [r3.out]
            rintro e w8 ⟨rfl, hb8⟩
            have HG8 := hide (HG.out.trans (hb8.mono HG.out.size))
            clear hb8
            go_wp2_with fail
            go_roundg 1
            case measure => omega
            case rel => exact ⟨2, rfl, rfl, HG8.out⟩
        · as_aux_lemma =>
            have s0 : wr.cell? ⟨w5.heap.size, 12, none⟩ = some (.int .i64 (cx)) := (Blk.cell HSt.out 12).trans rfl
            have s1 : wr.cell? ⟨w5.heap.size, 13, none⟩ = some (.int .i64 (cy)) := (Blk.cell HSt.out 13).trans rfl
            have s2 : wr.cell? ⟨w5.heap.size, 14, none⟩ = some (.int .i64 (ax)) := (Blk.cell HSt.out 14).trans rfl
            have s3 : wr.cell? ⟨w5.heap.size, 15, none⟩ = some (.int .i64 (ay)) := (Blk.cell HSt.out 15).trans rfl
            have s4 : wr.cell? ⟨w5.heap.size, 16, none⟩ = some (.int .i64 (bx)) := (Blk.cell HSt.out 16).trans rfl
            have s5 : wr.cell? ⟨w5.heap.size, 17, none⟩ = some (.int .i64 (by_)) := (Blk.cell HSt.out 17).trans rfl
            go_upto_region 13 with (fail)
            have hR := Blk.new wr 68 #[.int .i64 cx, .int .i64 cy, .int .i64 ax, .int .i64 ay, .int .i64 bx, .int .i64 by_]
            have gR : Below wr.heap.size wr (wr.alloc (.cells #[.int .i64 cx, .int .i64 cy, .int .i64 ax, .int .i64 ay, .int .i64 bx, .int .i64 by_] 68)) := (Below.refl _ _).alloc (Nat.le_refl _) _
            generalize (wr.alloc (.cells #[.int .i64 cx, .int .i64 cy, .int .i64 ax, .int .i64 ay, .int .i64 bx, .int .i64 by_] 68)) = w7 at *
            have t0 : w7.cell? ⟨wr.heap.size, 0, none⟩ = some (.int .i64 (cx)) := (Blk.cell hR 0).trans rfl
            have t1 : w7.cell? ⟨wr.heap.size, 1, none⟩ = some (.int .i64 (cy)) := (Blk.cell hR 1).trans rfl
            have t2 : w7.cell? ⟨wr.heap.size, 2, none⟩ = some (.int .i64 (ax)) := (Blk.cell hR 2).trans rfl
            have t3 : w7.cell? ⟨wr.heap.size, 3, none⟩ = some (.int .i64 (ay)) := (Blk.cell hR 3).trans rfl
            have t4 : w7.cell? ⟨wr.heap.size, 4, none⟩ = some (.int .i64 (bx)) := (Blk.cell hR 4).trans rfl
            have t5 : w7.cell? ⟨wr.heap.size, 5, none⟩ = some (.int .i64 (by_)) := (Blk.cell hR 5).trans rfl
            have HG := hide (hbt.trans (gR.mono hbt.size))
            clear hR gR s0 s1 s2 s3 s4 s5
            go_wp2_with fail
            refine (Cross_any _ cx cy ax ay bx by_).mono ?_
            rw [r4.out]
            rintro e w8 ⟨rfl, hb8⟩
            have HG8 := hide (HG.out.trans (hb8.mono HG.out.size))
            clear hb8
            go_wp2_with fail
            go_roundg 0
            case measure => omega
            case rel => exact ⟨3, rfl, rfl, HG8.out⟩
        · have h34 : ¬ ((3 : Nat) : Int) < 3 := by omega
          have hL31 : Below w0.heap.size w0 wr := hL22.trans (hbt.mono hL22.size)
          have c31_0 := (bcell hbt _ _ (block_lt_of_cell c22_0)).trans c22_0
          have c31_1 := (bcell hbt _ _ (block_lt_of_cell c22_1)).trans c22_1
          have c31_2 := (bcell hbt _ _ (block_lt_of_cell c22_2)).trans c22_2
          have c31_3 := (bcell hbt _ _ (block_lt_of_cell c22_3)).trans c22_3
          have c31_4 := (bcell hbt _ _ (block_lt_of_cell c22_4)).trans c22_4
          have c31_5 := (bcell hbt _ _ (block_lt_of_cell c22_5)).trans c22_5
          have c31_6 := (bcell hbt _ _ (block_lt_of_cell c22_6)).trans c22_6
          have c31_7 := (bcell hbt _ _ (block_lt_of_cell c22_7)).trans c22_7
          have c31_8 := (bcell hbt _ _ (block_lt_of_cell c22_8)).trans c22_8
          have c31_9 := (bcell hbt _ _ (block_lt_of_cell c22_9)).trans c22_9
          have c31_10 := (bcell hbt _ _ (block_lt_of_cell c22_10)).trans c22_10
          have c31_11 := (bcell hbt _ _ (block_lt_of_cell c22_11)).trans c22_11
          have c31_12 := (bcell hbt _ _ (block_lt_of_cell c22_12)).trans c22_12
          have c31_13 := (bcell hbt _ _ (block_lt_of_cell c22_13)).trans c22_13
          clear c22_0 c22_1 c22_2 c22_3 c22_4 c22_5 c22_6 c22_7 c22_8 c22_9 c22_10 c22_11 c22_12 c22_13
          go_wp2_with fail
          refine (Cross_any _ bx by_ ax ay cx cy).mono ?_
          rw [r5.out]
          rintro e w9 ⟨rfl, hbw9⟩
          have hL32 : Below w0.heap.size w0 w9 := hL31.trans (hbw9.mono hL31.size)
          have c32_0 := (bcell hbw9 _ _ (block_lt_of_cell c31_0)).trans c31_0
          have c32_1 := (bcell hbw9 _ _ (block_lt_of_cell c31_1)).trans c31_1
          have c32_2 := (bcell hbw9 _ _ (block_lt_of_cell c31_2)).trans c31_2
          have c32_3 := (bcell hbw9 _ _ (block_lt_of_cell c31_3)).trans c31_3
          have c32_4 := (bcell hbw9 _ _ (block_lt_of_cell c31_4)).trans c31_4
          have c32_5 := (bcell hbw9 _ _ (block_lt_of_cell c31_5)).trans c31_5
          have c32_6 := (bcell hbw9 _ _ (block_lt_of_cell c31_6)).trans c31_6
          have c32_7 := (bcell hbw9 _ _ (block_lt_of_cell c31_7)).trans c31_7
          have c32_8 := (bcell hbw9 _ _ (block_lt_of_cell c31_8)).trans c31_8
          have c32_9 := (bcell hbw9 _ _ (block_lt_of_cell c31_9)).trans c31_9
          have c32_10 := (bcell hbw9 _ _ (block_lt_of_cell c31_10)).trans c31_10
          have c32_11 := (bcell hbw9 _ _ (block_lt_of_cell c31_11)).trans c31_11
          have c32_12 := (bcell hbw9 _ _ (block_lt_of_cell c31_12)).trans c31_12
          have c32_13 := (bcell hbw9 _ _ (block_lt_of_cell c31_13)).trans c31_13
          clear c31_0 c31_1 c31_2 c31_3 c31_4 c31_5 c31_6 c31_7 c31_8 c31_9 c31_10 c31_11 c31_12 c31_13
          go_wp2_with fail
          refine (Side_any _ ax ay bx by_ cx cy).mono ?_
          rw [r6.out]
          rintro e w10 ⟨rfl, hbw10⟩
          have hL33 : Below w0.heap.size w0 w10 := hL32.trans (hbw10.mono hL32.size)
          have c33_0 := (bcell hbw10 _ _ (block_lt_of_cell c32_0)).trans c32_0
          have c33_1 := (bcell hbw10 _ _ (block_lt_of_cell c32_1)).trans c32_1
          have c33_2 := (bcell hbw10 _ _ (block_lt_of_cell c32_2)).trans c32_2
          have c33_3 := (bcell hbw10 _ _ (block_lt_of_cell c32_3)).trans c32_3
          have c33_4 := (bcell hbw10 _ _ (block_lt_of_cell c32_4)).trans c32_4
          have c33_5 := (bcell hbw10 _ _ (block_lt_of_cell c32_5)).trans c32_5
          have c33_6 := (bcell hbw10 _ _ (block_lt_of_cell c32_6)).trans c32_6
          have c33_7 := (bcell hbw10 _ _ (block_lt_of_cell c32_7)).trans c32_7
          have c33_8 := (bcell hbw10 _ _ (block_lt_of_cell c32_8)).trans c32_8
          have c33_9 := (bcell hbw10 _ _ (block_lt_of_cell c32_9)).trans c32_9
          have c33_10 := (bcell hbw10 _ _ (block_lt_of_cell c32_10)).trans c32_10
          have c33_11 := (bcell hbw10 _ _ (block_lt_of_cell c32_11)).trans c32_11
          have c33_12 := (bcell hbw10 _ _ (block_lt_of_cell c32_12)).trans c32_12
          have c33_13 := (bcell hbw10 _ _ (block_lt_of_cell c32_13)).trans c32_13
          clear c32_0 c32_1 c32_2 c32_3 c32_4 c32_5 c32_6 c32_7 c32_8 c32_9 c32_10 c32_11 c32_12 c32_13
          go_upto_region 19 with (fail)
          have hz0 : w.heap.size < w10.heap.size := block_lt_of_cell c33_0
          go_cut [18, 19] (fun v18 v19 wc => ∃ b18 b19, v18 = .pointer (some ⟨b18, 0, none⟩) ∧ v19 = .pointer (some ⟨b19, 0, none⟩) ∧ wc.cell? ⟨b18, 0, none⟩ = some (.int .i64 (bx - ax)) ∧ wc.cell? ⟨b18, 1, none⟩ = some (.int .i64 (by_ - ay)) ∧ wc.cell? ⟨b19, 0, none⟩ = some (.int .i64 (cx - ax)) ∧ wc.cell? ⟨b19, 1, none⟩ = some (.int .i64 (cy - ay)) ∧ Below w10.heap.size w10 wc)
          case first =>
            as_aux_lemma =>
              have W0 : IntKind.i64.wrap (bx - ax) = bx - ax := IntWalk.i64_in _ ⟨by omega, by omega⟩
              have W1 : IntKind.i64.wrap (by_ - ay) = by_ - ay := IntWalk.i64_in _ ⟨by omega, by omega⟩
              have W2 : IntKind.i64.wrap (cx - ax) = cx - ax := IntWalk.i64_in _ ⟨by omega, by omega⟩
              have W3 : IntKind.i64.wrap (cy - ay) = cy - ay := IntWalk.i64_in _ ⟨by omega, by omega⟩
              have SQ : ∀ w', Below w10.heap.size w10 w' → Below w10.heap.size w10 w' ∧ w'.cell? ⟨w.heap.size, 0, none⟩ = some (.int .i64 ax) ∧ w'.cell? ⟨w.heap.size, 1, none⟩ = some (.int .i64 ay) ∧ w'.cell? ⟨w.heap.size, 2, none⟩ = some (.int .i64 bx) ∧ w'.cell? ⟨w.heap.size, 3, none⟩ = some (.int .i64 by_) ∧ w'.cell? ⟨w.heap.size, 4, none⟩ = some (.int .i64 cx) ∧ w'.cell? ⟨w.heap.size, 5, none⟩ = some (.int .i64 cy) := fun w' h => ⟨h, (bcell h _ _ (block_lt_of_cell c33_0)).trans c33_0, (bcell h _ _ (block_lt_of_cell c33_1)).trans c33_1, (bcell h _ _ (block_lt_of_cell c33_2)).trans c33_2, (bcell h _ _ (block_lt_of_cell c33_3)).trans c33_3, (bcell h _ _ (block_lt_of_cell c33_4)).trans c33_4, (bcell h _ _ (block_lt_of_cell c33_5)).trans c33_5⟩
              go_region_held3 (fun w' => Below w10.heap.size w10 w' ∧ w'.cell? ⟨w.heap.size, 0, none⟩ = some (.int .i64 ax) ∧ w'.cell? ⟨w.heap.size, 1, none⟩ = some (.int .i64 ay) ∧ w'.cell? ⟨w.heap.size, 2, none⟩ = some (.int .i64 bx) ∧ w'.cell? ⟨w.heap.size, 3, none⟩ = some (.int .i64 by_) ∧ w'.cell? ⟨w.heap.size, 4, none⟩ = some (.int .i64 cx) ∧ w'.cell? ⟨w.heap.size, 5, none⟩ = some (.int .i64 cy)) (first | exact SQ _ (Below.refl _ _).drew | exact SQ _ (Below.refl _ _) | exact SQ _ (nal1 _ _).drew | exact SQ _ (nal1 _ _) | exact SQ _ (nal2 _ _ _).drew | exact SQ _ (nal2 _ _ _) | exact SQ _ (nal3 _ _ _ _).drew | exact SQ _ (nal3 _ _ _ _) | exact SQ _ (nal4 _ _ _ _ _).drew | exact SQ _ (nal4 _ _ _ _ _))
                (first
                  | (go_at_call_of 28 (.int .i64 (bx - ax) : Value); refine (at_eq _ (bx - ax) (by_ - ay)).mono ?_; rintro e w11 ⟨rfl, rfl⟩)
                  | (go_at_call_of 28 (.int .i64 (cx - ax) : Value); refine (at_eq _ (cx - ax) (cy - ay)).mono ?_; rintro e w11 ⟨rfl, rfl⟩))
              all_goals
                go_wp2_with fail
                go_meet
                case rel =>
                  refine ⟨_, _, rfl, rfl, ?_, ?_, ?_, ?_, ?_⟩
                  · first | (go_simp; done) | (simp; done)
                  · first | (go_simp; done) | (simp; done)
                  · first | (go_simp; done) | (simp; done)
                  · first | (go_simp; done) | (simp; done)
                  · first | exact (nal4 _ _ _ _ _).drew | exact nal4 _ _ _ _ _
          case rest =>
            as_aux_lemma =>
              obtain ⟨b18, b19, rfl, rfl, e0, e1, e2, e3, hbc⟩ := hcut
              have hL34 : Below w0.heap.size w0 wc := hL33.trans (hbc.mono hL33.size)
              have c34_0 := (bcell hbc _ _ (block_lt_of_cell c33_0)).trans c33_0
              have c34_1 := (bcell hbc _ _ (block_lt_of_cell c33_1)).trans c33_1
              have c34_2 := (bcell hbc _ _ (block_lt_of_cell c33_2)).trans c33_2
              have c34_3 := (bcell hbc _ _ (block_lt_of_cell c33_3)).trans c33_3
              have c34_4 := (bcell hbc _ _ (block_lt_of_cell c33_4)).trans c33_4
              have c34_5 := (bcell hbc _ _ (block_lt_of_cell c33_5)).trans c33_5
              have c34_6 := (bcell hbc _ _ (block_lt_of_cell c33_6)).trans c33_6
              have c34_7 := (bcell hbc _ _ (block_lt_of_cell c33_7)).trans c33_7
              have c34_8 := (bcell hbc _ _ (block_lt_of_cell c33_8)).trans c33_8
              have c34_9 := (bcell hbc _ _ (block_lt_of_cell c33_9)).trans c33_9
              have c34_10 := (bcell hbc _ _ (block_lt_of_cell c33_10)).trans c33_10
              have c34_11 := (bcell hbc _ _ (block_lt_of_cell c33_11)).trans c33_11
              have c34_12 := (bcell hbc _ _ (block_lt_of_cell c33_12)).trans c33_12
              have c34_13 := (bcell hbc _ _ (block_lt_of_cell c33_13)).trans c33_13
              clear c33_0 c33_1 c33_2 c33_3 c33_4 c33_5 c33_6 c33_7 c33_8 c33_9 c33_10 c33_11 c33_12 c33_13
              go_wp2_with fail
              refine (Dot_any _ (bx - ax) (by_ - ay) (cx - ax) (cy - ay)).mono ?_
              rw [r7.out]
              rintro e w11 ⟨rfl, hbw11⟩
              have hL35 : Below w0.heap.size w0 w11 := hL34.trans (hbw11.mono hL34.size)
              have c35_0 := (bcell hbw11 _ _ (block_lt_of_cell c34_0)).trans c34_0
              have c35_1 := (bcell hbw11 _ _ (block_lt_of_cell c34_1)).trans c34_1
              have c35_2 := (bcell hbw11 _ _ (block_lt_of_cell c34_2)).trans c34_2
              have c35_3 := (bcell hbw11 _ _ (block_lt_of_cell c34_3)).trans c34_3
              have c35_4 := (bcell hbw11 _ _ (block_lt_of_cell c34_4)).trans c34_4
              have c35_5 := (bcell hbw11 _ _ (block_lt_of_cell c34_5)).trans c34_5
              have c35_6 := (bcell hbw11 _ _ (block_lt_of_cell c34_6)).trans c34_6
              have c35_7 := (bcell hbw11 _ _ (block_lt_of_cell c34_7)).trans c34_7
              have c35_8 := (bcell hbw11 _ _ (block_lt_of_cell c34_8)).trans c34_8
              have c35_9 := (bcell hbw11 _ _ (block_lt_of_cell c34_9)).trans c34_9
              have c35_10 := (bcell hbw11 _ _ (block_lt_of_cell c34_10)).trans c34_10
              have c35_11 := (bcell hbw11 _ _ (block_lt_of_cell c34_11)).trans c34_11
              have c35_12 := (bcell hbw11 _ _ (block_lt_of_cell c34_12)).trans c34_12
              have c35_13 := (bcell hbw11 _ _ (block_lt_of_cell c34_13)).trans c34_13
              have c35_14 := (bcell hbw11 _ _ (block_lt_of_cell e0)).trans e0
              have c35_15 := (bcell hbw11 _ _ (block_lt_of_cell e1)).trans e1
              have c35_16 := (bcell hbw11 _ _ (block_lt_of_cell e2)).trans e2
              have c35_17 := (bcell hbw11 _ _ (block_lt_of_cell e3)).trans e3
              clear c34_0 c34_1 c34_2 c34_3 c34_4 c34_5 c34_6 c34_7 c34_8 c34_9 c34_10 c34_11 c34_12 c34_13 e0 e1 e2 e3
              go_wp2_with fail
              refine (Square_any _ ax ay bx by_).mono ?_
              rw [r8.out]
              rintro e w12 ⟨rfl, hbw12⟩
              have hL36 : Below w0.heap.size w0 w12 := hL35.trans (hbw12.mono hL35.size)
              have c36_0 := (bcell hbw12 _ _ (block_lt_of_cell c35_0)).trans c35_0
              have c36_1 := (bcell hbw12 _ _ (block_lt_of_cell c35_1)).trans c35_1
              have c36_2 := (bcell hbw12 _ _ (block_lt_of_cell c35_2)).trans c35_2
              have c36_3 := (bcell hbw12 _ _ (block_lt_of_cell c35_3)).trans c35_3
              have c36_4 := (bcell hbw12 _ _ (block_lt_of_cell c35_4)).trans c35_4
              have c36_5 := (bcell hbw12 _ _ (block_lt_of_cell c35_5)).trans c35_5
              have c36_6 := (bcell hbw12 _ _ (block_lt_of_cell c35_6)).trans c35_6
              have c36_7 := (bcell hbw12 _ _ (block_lt_of_cell c35_7)).trans c35_7
              have c36_8 := (bcell hbw12 _ _ (block_lt_of_cell c35_8)).trans c35_8
              have c36_9 := (bcell hbw12 _ _ (block_lt_of_cell c35_9)).trans c35_9
              have c36_10 := (bcell hbw12 _ _ (block_lt_of_cell c35_10)).trans c35_10
              have c36_11 := (bcell hbw12 _ _ (block_lt_of_cell c35_11)).trans c35_11
              have c36_12 := (bcell hbw12 _ _ (block_lt_of_cell c35_12)).trans c35_12
              have c36_13 := (bcell hbw12 _ _ (block_lt_of_cell c35_13)).trans c35_13
              have c36_14 := (bcell hbw12 _ _ (block_lt_of_cell c35_14)).trans c35_14
              have c36_15 := (bcell hbw12 _ _ (block_lt_of_cell c35_15)).trans c35_15
              have c36_16 := (bcell hbw12 _ _ (block_lt_of_cell c35_16)).trans c35_16
              have c36_17 := (bcell hbw12 _ _ (block_lt_of_cell c35_17)).trans c35_17
              clear c35_0 c35_1 c35_2 c35_3 c35_4 c35_5 c35_6 c35_7 c35_8 c35_9 c35_10 c35_11 c35_12 c35_13 c35_14 c35_15 c35_16 c35_17
              go_wp2_with fail
              refine (Square_any _ ax ay cx cy).mono ?_
              rw [r9.out]
              rintro e w13 ⟨rfl, hbw13⟩
              have hL37 : Below w0.heap.size w0 w13 := hL36.trans (hbw13.mono hL36.size)
              have c37_0 := (bcell hbw13 _ _ (block_lt_of_cell c36_0)).trans c36_0
              have c37_1 := (bcell hbw13 _ _ (block_lt_of_cell c36_1)).trans c36_1
              have c37_2 := (bcell hbw13 _ _ (block_lt_of_cell c36_2)).trans c36_2
              have c37_3 := (bcell hbw13 _ _ (block_lt_of_cell c36_3)).trans c36_3
              have c37_4 := (bcell hbw13 _ _ (block_lt_of_cell c36_4)).trans c36_4
              have c37_5 := (bcell hbw13 _ _ (block_lt_of_cell c36_5)).trans c36_5
              have c37_6 := (bcell hbw13 _ _ (block_lt_of_cell c36_6)).trans c36_6
              have c37_7 := (bcell hbw13 _ _ (block_lt_of_cell c36_7)).trans c36_7
              have c37_8 := (bcell hbw13 _ _ (block_lt_of_cell c36_8)).trans c36_8
              have c37_9 := (bcell hbw13 _ _ (block_lt_of_cell c36_9)).trans c36_9
              have c37_10 := (bcell hbw13 _ _ (block_lt_of_cell c36_10)).trans c36_10
              have c37_11 := (bcell hbw13 _ _ (block_lt_of_cell c36_11)).trans c36_11
              have c37_12 := (bcell hbw13 _ _ (block_lt_of_cell c36_12)).trans c36_12
              have c37_13 := (bcell hbw13 _ _ (block_lt_of_cell c36_13)).trans c36_13
              have c37_14 := (bcell hbw13 _ _ (block_lt_of_cell c36_14)).trans c36_14
              have c37_15 := (bcell hbw13 _ _ (block_lt_of_cell c36_15)).trans c36_15
              have c37_16 := (bcell hbw13 _ _ (block_lt_of_cell c36_16)).trans c36_16
              have c37_17 := (bcell hbw13 _ _ (block_lt_of_cell c36_17)).trans c36_17
              clear c36_0 c36_1 c36_2 c36_3 c36_4 c36_5 c36_6 c36_7 c36_8 c36_9 c36_10 c36_11 c36_12 c36_13 c36_14 c36_15 c36_16 c36_17
              have HSa := hide (HS.out.below (hb0.trans (hL37.mono hb0.size)) (Nat.le_refl _))
              have hfin : (X * X + D * D == M * N) = true := by rw [HLag.out]; simp
              rcases Int.lt_trichotomy X 0 with hx | hx | hx
              · as_aux_lemma =>
                  rw [Int.sign_eq_neg_one_of_neg hx]
                  have hx2 : ¬ 0 < X := by omega
                  have hxx := hx2
                  go_wp2_with fail
                  refine (awake_any _ HSa.out).mono ?_
                  rintro e w14 ⟨rfl, hb14⟩
                  have hL99 := hL37.trans (hb14.mono hL37.size)
                  go_wp2_with fail
                  all_goals go_ret
                  all_goals exact ⟨by first | rfl | exact congrArg (fun b => Ending.returned (Value.bool b)) (by simp [hxx]), hb0.trans (hL99.mono hb0.size)⟩
              · as_aux_lemma =>
                  subst hx
                  have hxx : True := trivial
                  have hf0 : D * D = M * N := by have h := HLag.out; rw [Int.zero_mul, Int.zero_add] at h; exact h
                  go_wp2_with fail
                  refine (awake_any _ HSa.out).mono ?_
                  rintro e w14 ⟨rfl, hb14⟩
                  have hL99 := hL37.trans (hb14.mono hL37.size)
                  go_wp2_with fail
                  all_goals go_ret
                  all_goals exact ⟨by first | rfl | exact congrArg (fun b => Ending.returned (Value.bool b)) (by simp [hxx]), hb0.trans (hL99.mono hb0.size)⟩
              · as_aux_lemma =>
                  rw [Int.sign_eq_one_of_pos hx]
                  have hx2 : ¬ X < 0 := by omega
                  have hxx := hx2
                  go_wp2_with fail
                  refine (awake_any _ HSa.out).mono ?_
                  rintro e w14 ⟨rfl, hb14⟩
                  have hL99 := hL37.trans (hb14.mono hL37.size)
                  go_wp2_with fail
                  all_goals go_ret
                  all_goals exact ⟨by first | rfl | exact congrArg (fun b => Ending.returned (Value.bool b)) (by simp [hxx]), hb0.trans (hL99.mono hb0.size)⟩

end Go.Proofs.YtblfinpfcpglcaaGreatDoor
