/- vector: Dot, Cross, Side, Square, SquareSpace, Normal, Volume; the same of the reference. -/
import Derived.Test.YtblfinpfcpglcaaGreatDoorCross
namespace Go.Proofs.YtblfinpfcpglcaaGreatDoor
open Go.RowKit MLab


/-- A number and an error number, by whether the arguments are right. -/
abbrev R2 (v : Int) (ok : Prop) [Decidable ok] : Value := .tuple #[.int .i64 (if ok then v else 0), .int .i64 (if ok then 0 else 2)]
theorem R2_pos (v : Int) {ok : Prop} [Decidable ok] (h : ok) : R2 v ok = .tuple #[.int .i64 v, .int .i64 0] := by simp [R2, h]
theorem R2_neg (v : Int) {ok : Prop} [Decidable ok] (h : ¬ ok) : R2 v ok = .tuple #[.int .i64 0, .int .i64 2] := by simp [R2, h]

theorem Pts2 (w : World) (a b : Int × Int) (t : TypeId) (cap : Nat) : Pts (w.alloc (.cells #[.int .i64 a.1, .int .i64 a.2, .int .i64 b.1, .int .i64 b.2] t)) (.slice (some ⟨w.heap.size, 0, none⟩) 2 cap) [a, b] :=
  Pts.new w [a, b] t _ (fun i p hi => match i, hi with | 0, hi => by cases hi; exact ⟨rfl, rfl⟩ | 1, hi => by cases hi; exact ⟨rfl, rfl⟩ | j + 2, hi => by simp at hi) cap
theorem Pts3 (w : World) (a b c : Int × Int) (t : TypeId) (cap : Nat) : Pts (w.alloc (.cells #[.int .i64 a.1, .int .i64 a.2, .int .i64 b.1, .int .i64 b.2, .int .i64 c.1, .int .i64 c.2] t)) (.slice (some ⟨w.heap.size, 0, none⟩) 3 cap) [a, b, c] :=
  Pts.new w [a, b, c] t _ (fun i p hi => match i, hi with | 0, hi => by cases hi; exact ⟨rfl, rfl⟩ | 1, hi => by cases hi; exact ⟨rfl, rfl⟩ | 2, hi => by cases hi; exact ⟨rfl, rfl⟩ | j + 3, hi => by simp at hi) cap
theorem Sps2 (w : World) (a b : Int × Int × Int) (t : TypeId) (cap : Nat) : Sps (w.alloc (.cells #[.int .i64 a.1, .int .i64 a.2.1, .int .i64 a.2.2, .int .i64 b.1, .int .i64 b.2.1, .int .i64 b.2.2] t)) (.slice (some ⟨w.heap.size, 0, none⟩) 2 cap) [a, b] :=
  Sps.new w [a, b] t _ (fun i p hi => match i, hi with | 0, hi => by cases hi; exact ⟨rfl, rfl, rfl⟩ | 1, hi => by cases hi; exact ⟨rfl, rfl, rfl⟩ | j + 2, hi => by simp at hi) cap
theorem Sps3 (w : World) (a b c : Int × Int × Int) (t : TypeId) (cap : Nat) : Sps (w.alloc (.cells #[.int .i64 a.1, .int .i64 a.2.1, .int .i64 a.2.2, .int .i64 b.1, .int .i64 b.2.1, .int .i64 b.2.2, .int .i64 c.1, .int .i64 c.2.1, .int .i64 c.2.2] t)) (.slice (some ⟨w.heap.size, 0, none⟩) 3 cap) [a, b, c] :=
  Sps.new w [a, b, c] t _ (fun i p hi => match i, hi with | 0, hi => by cases hi; exact ⟨rfl, rfl, rfl⟩ | 1, hi => by cases hi; exact ⟨rfl, rfl, rfl⟩ | 2, hi => by cases hi; exact ⟨rfl, rfl, rfl⟩ | j + 3, hi => by simp at hi) cap
theorem Sps4 (w : World) (a b c d : Int × Int × Int) (t : TypeId) (cap : Nat) : Sps (w.alloc (.cells #[.int .i64 a.1, .int .i64 a.2.1, .int .i64 a.2.2, .int .i64 b.1, .int .i64 b.2.1, .int .i64 b.2.2, .int .i64 c.1, .int .i64 c.2.1, .int .i64 c.2.2, .int .i64 d.1, .int .i64 d.2.1, .int .i64 d.2.2] t)) (.slice (some ⟨w.heap.size, 0, none⟩) 4 cap) [a, b, c, d] :=
  Sps.new w [a, b, c, d] t _ (fun i p hi => match i, hi with | 0, hi => by cases hi; exact ⟨rfl, rfl, rfl⟩ | 1, hi => by cases hi; exact ⟨rfl, rfl, rfl⟩ | 2, hi => by cases hi; exact ⟨rfl, rfl, rfl⟩ | 3, hi => by cases hi; exact ⟨rfl, rfl, rfl⟩ | j + 4, hi => by simp at hi) cap
set_option maxRecDepth 100000 in
set_option maxHeartbeats 1000000 in
theorem Dot_any (w : World) (ax ay bx by_ : Int) :
    Calls Tryz.prog 34 #[.agg #[.int .i64 ax, .int .i64 ay], .agg #[.int .i64 bx, .int .i64 by_]] w fun e w' => e = .returned (R2 (ax * bx + ay * by_) (Co ax ∧ Co ay ∧ Co bx ∧ Co by_)) ∧ Below w.heap.size w w' := by
  by_cases hok : Co ax ∧ Co ay ∧ Co bx ∧ Co by_
  · have hchk : chkPts [(ax, ay), (bx, by_)] = 0 := by simp [chkPts, okPts, hok]
    obtain ⟨hax, hay, hbx, hby_⟩ := id hok
    rw [R2_pos _ hok]
    go_enter Tryz.func34, Tryz.ntmps34
    go_upto_region 1 with (fail)
    have hb0 : Below w.heap.size w ((w.alloc (.cells #[.int .i64 ax, .int .i64 ay] 23)).alloc (.cells #[.int .i64 bx, .int .i64 by_] 23)) := allocs_below w [(.cells #[.int .i64 ax, .int .i64 ay] 23), (.cells #[.int .i64 bx, .int .i64 by_] 23)]
    have s0 : w.heap.size + 2 ≤ ((w.alloc (.cells #[.int .i64 ax, .int .i64 ay] 23)).alloc (.cells #[.int .i64 bx, .int .i64 by_] 23)).heap.size := Nat.le_of_eq (allocs_size w [(.cells #[.int .i64 ax, .int .i64 ay] 23), (.cells #[.int .i64 bx, .int .i64 by_] 23)]).symm
    have kb0 : ((w.alloc (.cells #[.int .i64 ax, .int .i64 ay] 23)).alloc (.cells #[.int .i64 bx, .int .i64 by_] 23)).heap[w.heap.size + 0]? = some (.cells #[.int .i64 ax, .int .i64 ay] 23) := allocs_at w [(.cells #[.int .i64 ax, .int .i64 ay] 23), (.cells #[.int .i64 bx, .int .i64 by_] 23)] 0 rfl
    have kb1 : ((w.alloc (.cells #[.int .i64 ax, .int .i64 ay] 23)).alloc (.cells #[.int .i64 bx, .int .i64 by_] 23)).heap[w.heap.size + 1]? = some (.cells #[.int .i64 bx, .int .i64 by_] 23) := allocs_at w [(.cells #[.int .i64 ax, .int .i64 ay] 23), (.cells #[.int .i64 bx, .int .i64 by_] 23)] 1 rfl
    generalize ((w.alloc (.cells #[.int .i64 ax, .int .i64 ay] 23)).alloc (.cells #[.int .i64 bx, .int .i64 by_] 23)) = w0 at *
    have k0_0 : w0.cell? ⟨w.heap.size, 0, none⟩ = some (.int .i64 ax) := (Blk.cell kb0 0).trans rfl
    have k0_1 : w0.cell? ⟨w.heap.size, 1, none⟩ = some (.int .i64 ay) := (Blk.cell kb0 1).trans rfl
    have k1_0 : w0.cell? ⟨w.heap.size + 1, 0, none⟩ = some (.int .i64 bx) := (Blk.cell kb1 0).trans rfl
    have k1_1 : w0.cell? ⟨w.heap.size + 1, 1, none⟩ = some (.int .i64 by_) := (Blk.cell kb1 1).trans rfl
    clear kb0 kb1
    have SK : ∀ w', Below w0.heap.size w0 w' → Below w0.heap.size w0 w' ∧ w'.cell? ⟨w.heap.size, 0, none⟩ = some (.int .i64 ax) ∧ w'.cell? ⟨w.heap.size, 1, none⟩ = some (.int .i64 ay) ∧ w'.cell? ⟨w.heap.size + 1, 0, none⟩ = some (.int .i64 bx) ∧ w'.cell? ⟨w.heap.size + 1, 1, none⟩ = some (.int .i64 by_) := fun w' h => ⟨h, (bcell h _ _ (by omega)).trans k0_0, (bcell h _ _ (by omega)).trans k0_1, (bcell h _ _ (by omega)).trans k1_0, (bcell h _ _ (by omega)).trans k1_1⟩
    go_wp2_with fail
    refine (allp_any _ _ [(ax, ay), (bx, by_)] (Pts2 w0 (ax, ay) (bx, by_) _ _) (by simp)).mono ?_
    rintro e w1 ⟨rfl, hb1⟩
    have hb1' := (allocs_below w0 [_]).trans (hb1.mono (by simp))
    rw [hchk]
    have HB1 := hide hb1'
    clear hb1
    have hL1 : Below w0.heap.size w0 w1 := hb1'
    obtain ⟨-, c1_0, c1_1, c1_2, c1_3⟩ := SK _ hL1
    go_upto_region 4 with (fail)
    have q1 : w0.heap.size ≤ w1.heap.size := hL1.size
    have SQ : ∀ w', Below w1.heap.size w1 w' → Below w1.heap.size w1 w' ∧ w'.cell? ⟨w.heap.size, 0, none⟩ = some (.int .i64 ax) ∧ w'.cell? ⟨w.heap.size, 1, none⟩ = some (.int .i64 ay) ∧ w'.cell? ⟨w.heap.size + 1, 0, none⟩ = some (.int .i64 bx) ∧ w'.cell? ⟨w.heap.size + 1, 1, none⟩ = some (.int .i64 by_) := fun w' h => ⟨h, (bcell h _ _ (by omega)).trans c1_0, (bcell h _ _ (by omega)).trans c1_1, (bcell h _ _ (by omega)).trans c1_2, (bcell h _ _ (by omega)).trans c1_3⟩
    go_region_held3 (fun w' => Below w1.heap.size w1 w' ∧ w'.cell? ⟨w.heap.size, 0, none⟩ = some (.int .i64 ax) ∧ w'.cell? ⟨w.heap.size, 1, none⟩ = some (.int .i64 ay) ∧ w'.cell? ⟨w.heap.size + 1, 0, none⟩ = some (.int .i64 bx) ∧ w'.cell? ⟨w.heap.size + 1, 1, none⟩ = some (.int .i64 by_)) (first | exact SQ _ (Below.refl _ _).drew | exact SQ _ (bel_next (by assumption) (by assumption) (Nat.le_refl _)))
      (first
        | (go_at_call_of 83 ((.agg #[.int .i64 ax, .int .i64 ay] : Value)); refine (toward_any _ ax ay hax hay).mono ?_; rintro e wx ⟨rfl, hbW⟩)
        | (go_at_call_of 83 ((.agg #[.int .i64 bx, .int .i64 by_] : Value)); refine (toward_any _ bx by_ hbx hby_).mono ?_; rintro e wx ⟨rfl, hbW⟩)
        | (go_at_call 60; refine (adot_any _ ax ay bx by_ (by omega) (by omega) (by omega) (by omega)).mono ?_; rintro e wx ⟨rfl, hbW⟩))
    go_wp2_with fail
    go_ret2
    exact ⟨rfl, hb0.trans ((hL1.trans (Below.mono (And.left (by assumption)) hL1.size)).mono hb0.size)⟩
  · have hchk : chkPts [(ax, ay), (bx, by_)] = 2 := by rw [chkPts, if_neg]; intro h; exact hok (by simpa [okPts, and_assoc] using h)
    rw [R2_neg _ hok]
    go_enter Tryz.func34, Tryz.ntmps34
    go_upto_region 1 with (fail)
    have hb0 : Below w.heap.size w ((w.alloc (.cells #[.int .i64 ax, .int .i64 ay] 23)).alloc (.cells #[.int .i64 bx, .int .i64 by_] 23)) := allocs_below w [(.cells #[.int .i64 ax, .int .i64 ay] 23), (.cells #[.int .i64 bx, .int .i64 by_] 23)]
    have s0 : w.heap.size + 2 ≤ ((w.alloc (.cells #[.int .i64 ax, .int .i64 ay] 23)).alloc (.cells #[.int .i64 bx, .int .i64 by_] 23)).heap.size := Nat.le_of_eq (allocs_size w [(.cells #[.int .i64 ax, .int .i64 ay] 23), (.cells #[.int .i64 bx, .int .i64 by_] 23)]).symm
    have kb0 : ((w.alloc (.cells #[.int .i64 ax, .int .i64 ay] 23)).alloc (.cells #[.int .i64 bx, .int .i64 by_] 23)).heap[w.heap.size + 0]? = some (.cells #[.int .i64 ax, .int .i64 ay] 23) := allocs_at w [(.cells #[.int .i64 ax, .int .i64 ay] 23), (.cells #[.int .i64 bx, .int .i64 by_] 23)] 0 rfl
    have kb1 : ((w.alloc (.cells #[.int .i64 ax, .int .i64 ay] 23)).alloc (.cells #[.int .i64 bx, .int .i64 by_] 23)).heap[w.heap.size + 1]? = some (.cells #[.int .i64 bx, .int .i64 by_] 23) := allocs_at w [(.cells #[.int .i64 ax, .int .i64 ay] 23), (.cells #[.int .i64 bx, .int .i64 by_] 23)] 1 rfl
    generalize ((w.alloc (.cells #[.int .i64 ax, .int .i64 ay] 23)).alloc (.cells #[.int .i64 bx, .int .i64 by_] 23)) = w0 at *
    have k0_0 : w0.cell? ⟨w.heap.size, 0, none⟩ = some (.int .i64 ax) := (Blk.cell kb0 0).trans rfl
    have k0_1 : w0.cell? ⟨w.heap.size, 1, none⟩ = some (.int .i64 ay) := (Blk.cell kb0 1).trans rfl
    have k1_0 : w0.cell? ⟨w.heap.size + 1, 0, none⟩ = some (.int .i64 bx) := (Blk.cell kb1 0).trans rfl
    have k1_1 : w0.cell? ⟨w.heap.size + 1, 1, none⟩ = some (.int .i64 by_) := (Blk.cell kb1 1).trans rfl
    clear kb0 kb1
    have SK : ∀ w', Below w0.heap.size w0 w' → Below w0.heap.size w0 w' ∧ w'.cell? ⟨w.heap.size, 0, none⟩ = some (.int .i64 ax) ∧ w'.cell? ⟨w.heap.size, 1, none⟩ = some (.int .i64 ay) ∧ w'.cell? ⟨w.heap.size + 1, 0, none⟩ = some (.int .i64 bx) ∧ w'.cell? ⟨w.heap.size + 1, 1, none⟩ = some (.int .i64 by_) := fun w' h => ⟨h, (bcell h _ _ (by omega)).trans k0_0, (bcell h _ _ (by omega)).trans k0_1, (bcell h _ _ (by omega)).trans k1_0, (bcell h _ _ (by omega)).trans k1_1⟩
    go_wp2_with fail
    refine (allp_any _ _ [(ax, ay), (bx, by_)] (Pts2 w0 (ax, ay) (bx, by_) _ _) (by simp)).mono ?_
    rintro e w1 ⟨rfl, hb1⟩
    have hb1' := (allocs_below w0 [_]).trans (hb1.mono (by simp))
    rw [hchk]
    have hL1 : Below w0.heap.size w0 w1 := hb1'
    obtain ⟨-, c1_0, c1_1, c1_2, c1_3⟩ := SK _ hL1
    go_wp2_with fail
    go_ret2
    exact ⟨rfl, hb0.trans (hL1.mono hb0.size)⟩

set_option maxRecDepth 100000 in
set_option maxHeartbeats 1000000 in
theorem Cross_any (w : World) (ax ay bx by_ cx cy : Int) :
    Calls Tryz.prog 36 #[.agg #[.int .i64 ax, .int .i64 ay], .agg #[.int .i64 bx, .int .i64 by_], .agg #[.int .i64 cx, .int .i64 cy]] w fun e w' => e = .returned (R2 ((bx - ax) * (cy - ay) - (by_ - ay) * (cx - ax)) (Co ax ∧ Co ay ∧ Co bx ∧ Co by_ ∧ Co cx ∧ Co cy)) ∧ Below w.heap.size w w' := by
  by_cases hok : Co ax ∧ Co ay ∧ Co bx ∧ Co by_ ∧ Co cx ∧ Co cy
  · have hchk : chkPts [(ax, ay), (bx, by_), (cx, cy)] = 0 := by simp [chkPts, okPts, hok]
    obtain ⟨hax, hay, hbx, hby_, hcx, hcy⟩ := id hok
    rw [R2_pos _ hok]
    go_enter Tryz.func36, Tryz.ntmps36
    go_upto_region 1 with (fail)
    have hb0 : Below w.heap.size w (((w.alloc (.cells #[.int .i64 ax, .int .i64 ay] 23)).alloc (.cells #[.int .i64 bx, .int .i64 by_] 23)).alloc (.cells #[.int .i64 cx, .int .i64 cy] 23)) := allocs_below w [(.cells #[.int .i64 ax, .int .i64 ay] 23), (.cells #[.int .i64 bx, .int .i64 by_] 23), (.cells #[.int .i64 cx, .int .i64 cy] 23)]
    have s0 : w.heap.size + 3 ≤ (((w.alloc (.cells #[.int .i64 ax, .int .i64 ay] 23)).alloc (.cells #[.int .i64 bx, .int .i64 by_] 23)).alloc (.cells #[.int .i64 cx, .int .i64 cy] 23)).heap.size := Nat.le_of_eq (allocs_size w [(.cells #[.int .i64 ax, .int .i64 ay] 23), (.cells #[.int .i64 bx, .int .i64 by_] 23), (.cells #[.int .i64 cx, .int .i64 cy] 23)]).symm
    have kb0 : (((w.alloc (.cells #[.int .i64 ax, .int .i64 ay] 23)).alloc (.cells #[.int .i64 bx, .int .i64 by_] 23)).alloc (.cells #[.int .i64 cx, .int .i64 cy] 23)).heap[w.heap.size + 0]? = some (.cells #[.int .i64 ax, .int .i64 ay] 23) := allocs_at w [(.cells #[.int .i64 ax, .int .i64 ay] 23), (.cells #[.int .i64 bx, .int .i64 by_] 23), (.cells #[.int .i64 cx, .int .i64 cy] 23)] 0 rfl
    have kb1 : (((w.alloc (.cells #[.int .i64 ax, .int .i64 ay] 23)).alloc (.cells #[.int .i64 bx, .int .i64 by_] 23)).alloc (.cells #[.int .i64 cx, .int .i64 cy] 23)).heap[w.heap.size + 1]? = some (.cells #[.int .i64 bx, .int .i64 by_] 23) := allocs_at w [(.cells #[.int .i64 ax, .int .i64 ay] 23), (.cells #[.int .i64 bx, .int .i64 by_] 23), (.cells #[.int .i64 cx, .int .i64 cy] 23)] 1 rfl
    have kb2 : (((w.alloc (.cells #[.int .i64 ax, .int .i64 ay] 23)).alloc (.cells #[.int .i64 bx, .int .i64 by_] 23)).alloc (.cells #[.int .i64 cx, .int .i64 cy] 23)).heap[w.heap.size + 2]? = some (.cells #[.int .i64 cx, .int .i64 cy] 23) := allocs_at w [(.cells #[.int .i64 ax, .int .i64 ay] 23), (.cells #[.int .i64 bx, .int .i64 by_] 23), (.cells #[.int .i64 cx, .int .i64 cy] 23)] 2 rfl
    generalize (((w.alloc (.cells #[.int .i64 ax, .int .i64 ay] 23)).alloc (.cells #[.int .i64 bx, .int .i64 by_] 23)).alloc (.cells #[.int .i64 cx, .int .i64 cy] 23)) = w0 at *
    have k0_0 : w0.cell? ⟨w.heap.size, 0, none⟩ = some (.int .i64 ax) := (Blk.cell kb0 0).trans rfl
    have k0_1 : w0.cell? ⟨w.heap.size, 1, none⟩ = some (.int .i64 ay) := (Blk.cell kb0 1).trans rfl
    have k1_0 : w0.cell? ⟨w.heap.size + 1, 0, none⟩ = some (.int .i64 bx) := (Blk.cell kb1 0).trans rfl
    have k1_1 : w0.cell? ⟨w.heap.size + 1, 1, none⟩ = some (.int .i64 by_) := (Blk.cell kb1 1).trans rfl
    have k2_0 : w0.cell? ⟨w.heap.size + 1 + 1, 0, none⟩ = some (.int .i64 cx) := (Blk.cell kb2 0).trans rfl
    have k2_1 : w0.cell? ⟨w.heap.size + 1 + 1, 1, none⟩ = some (.int .i64 cy) := (Blk.cell kb2 1).trans rfl
    clear kb0 kb1 kb2
    have SK : ∀ w', Below w0.heap.size w0 w' → Below w0.heap.size w0 w' ∧ w'.cell? ⟨w.heap.size, 0, none⟩ = some (.int .i64 ax) ∧ w'.cell? ⟨w.heap.size, 1, none⟩ = some (.int .i64 ay) ∧ w'.cell? ⟨w.heap.size + 1, 0, none⟩ = some (.int .i64 bx) ∧ w'.cell? ⟨w.heap.size + 1, 1, none⟩ = some (.int .i64 by_) ∧ w'.cell? ⟨w.heap.size + 1 + 1, 0, none⟩ = some (.int .i64 cx) ∧ w'.cell? ⟨w.heap.size + 1 + 1, 1, none⟩ = some (.int .i64 cy) := fun w' h => ⟨h, (bcell h _ _ (by omega)).trans k0_0, (bcell h _ _ (by omega)).trans k0_1, (bcell h _ _ (by omega)).trans k1_0, (bcell h _ _ (by omega)).trans k1_1, (bcell h _ _ (by omega)).trans k2_0, (bcell h _ _ (by omega)).trans k2_1⟩
    go_wp2_with fail
    refine (allp_any _ _ [(ax, ay), (bx, by_), (cx, cy)] (Pts3 w0 (ax, ay) (bx, by_) (cx, cy) _ _) (by simp)).mono ?_
    rintro e w1 ⟨rfl, hb1⟩
    have hb1' := (allocs_below w0 [_]).trans (hb1.mono (by simp))
    rw [hchk]
    have HB1 := hide hb1'
    clear hb1
    have hL1 : Below w0.heap.size w0 w1 := hb1'
    obtain ⟨-, c1_0, c1_1, c1_2, c1_3, c1_4, c1_5⟩ := SK _ hL1
    go_wp2_with fail
    refine (cross_any _ ax ay bx by_ cx cy hax hay hbx hby_ hcx hcy).mono ?_
    rintro e w2 ⟨rfl, hb2⟩
    have hL2 : Below w0.heap.size w0 w2 := hL1.trans (hb2.mono hL1.size)
    obtain ⟨-, c2_0, c2_1, c2_2, c2_3, c2_4, c2_5⟩ := SK _ hL2
    go_wp2_with fail
    go_ret2
    exact ⟨rfl, hb0.trans (hL2.mono hb0.size)⟩
  · have hchk : chkPts [(ax, ay), (bx, by_), (cx, cy)] = 2 := by rw [chkPts, if_neg]; intro h; exact hok (by simpa [okPts, and_assoc] using h)
    rw [R2_neg _ hok]
    go_enter Tryz.func36, Tryz.ntmps36
    go_upto_region 1 with (fail)
    have hb0 : Below w.heap.size w (((w.alloc (.cells #[.int .i64 ax, .int .i64 ay] 23)).alloc (.cells #[.int .i64 bx, .int .i64 by_] 23)).alloc (.cells #[.int .i64 cx, .int .i64 cy] 23)) := allocs_below w [(.cells #[.int .i64 ax, .int .i64 ay] 23), (.cells #[.int .i64 bx, .int .i64 by_] 23), (.cells #[.int .i64 cx, .int .i64 cy] 23)]
    have s0 : w.heap.size + 3 ≤ (((w.alloc (.cells #[.int .i64 ax, .int .i64 ay] 23)).alloc (.cells #[.int .i64 bx, .int .i64 by_] 23)).alloc (.cells #[.int .i64 cx, .int .i64 cy] 23)).heap.size := Nat.le_of_eq (allocs_size w [(.cells #[.int .i64 ax, .int .i64 ay] 23), (.cells #[.int .i64 bx, .int .i64 by_] 23), (.cells #[.int .i64 cx, .int .i64 cy] 23)]).symm
    have kb0 : (((w.alloc (.cells #[.int .i64 ax, .int .i64 ay] 23)).alloc (.cells #[.int .i64 bx, .int .i64 by_] 23)).alloc (.cells #[.int .i64 cx, .int .i64 cy] 23)).heap[w.heap.size + 0]? = some (.cells #[.int .i64 ax, .int .i64 ay] 23) := allocs_at w [(.cells #[.int .i64 ax, .int .i64 ay] 23), (.cells #[.int .i64 bx, .int .i64 by_] 23), (.cells #[.int .i64 cx, .int .i64 cy] 23)] 0 rfl
    have kb1 : (((w.alloc (.cells #[.int .i64 ax, .int .i64 ay] 23)).alloc (.cells #[.int .i64 bx, .int .i64 by_] 23)).alloc (.cells #[.int .i64 cx, .int .i64 cy] 23)).heap[w.heap.size + 1]? = some (.cells #[.int .i64 bx, .int .i64 by_] 23) := allocs_at w [(.cells #[.int .i64 ax, .int .i64 ay] 23), (.cells #[.int .i64 bx, .int .i64 by_] 23), (.cells #[.int .i64 cx, .int .i64 cy] 23)] 1 rfl
    have kb2 : (((w.alloc (.cells #[.int .i64 ax, .int .i64 ay] 23)).alloc (.cells #[.int .i64 bx, .int .i64 by_] 23)).alloc (.cells #[.int .i64 cx, .int .i64 cy] 23)).heap[w.heap.size + 2]? = some (.cells #[.int .i64 cx, .int .i64 cy] 23) := allocs_at w [(.cells #[.int .i64 ax, .int .i64 ay] 23), (.cells #[.int .i64 bx, .int .i64 by_] 23), (.cells #[.int .i64 cx, .int .i64 cy] 23)] 2 rfl
    generalize (((w.alloc (.cells #[.int .i64 ax, .int .i64 ay] 23)).alloc (.cells #[.int .i64 bx, .int .i64 by_] 23)).alloc (.cells #[.int .i64 cx, .int .i64 cy] 23)) = w0 at *
    have k0_0 : w0.cell? ⟨w.heap.size, 0, none⟩ = some (.int .i64 ax) := (Blk.cell kb0 0).trans rfl
    have k0_1 : w0.cell? ⟨w.heap.size, 1, none⟩ = some (.int .i64 ay) := (Blk.cell kb0 1).trans rfl
    have k1_0 : w0.cell? ⟨w.heap.size + 1, 0, none⟩ = some (.int .i64 bx) := (Blk.cell kb1 0).trans rfl
    have k1_1 : w0.cell? ⟨w.heap.size + 1, 1, none⟩ = some (.int .i64 by_) := (Blk.cell kb1 1).trans rfl
    have k2_0 : w0.cell? ⟨w.heap.size + 1 + 1, 0, none⟩ = some (.int .i64 cx) := (Blk.cell kb2 0).trans rfl
    have k2_1 : w0.cell? ⟨w.heap.size + 1 + 1, 1, none⟩ = some (.int .i64 cy) := (Blk.cell kb2 1).trans rfl
    clear kb0 kb1 kb2
    have SK : ∀ w', Below w0.heap.size w0 w' → Below w0.heap.size w0 w' ∧ w'.cell? ⟨w.heap.size, 0, none⟩ = some (.int .i64 ax) ∧ w'.cell? ⟨w.heap.size, 1, none⟩ = some (.int .i64 ay) ∧ w'.cell? ⟨w.heap.size + 1, 0, none⟩ = some (.int .i64 bx) ∧ w'.cell? ⟨w.heap.size + 1, 1, none⟩ = some (.int .i64 by_) ∧ w'.cell? ⟨w.heap.size + 1 + 1, 0, none⟩ = some (.int .i64 cx) ∧ w'.cell? ⟨w.heap.size + 1 + 1, 1, none⟩ = some (.int .i64 cy) := fun w' h => ⟨h, (bcell h _ _ (by omega)).trans k0_0, (bcell h _ _ (by omega)).trans k0_1, (bcell h _ _ (by omega)).trans k1_0, (bcell h _ _ (by omega)).trans k1_1, (bcell h _ _ (by omega)).trans k2_0, (bcell h _ _ (by omega)).trans k2_1⟩
    go_wp2_with fail
    refine (allp_any _ _ [(ax, ay), (bx, by_), (cx, cy)] (Pts3 w0 (ax, ay) (bx, by_) (cx, cy) _ _) (by simp)).mono ?_
    rintro e w1 ⟨rfl, hb1⟩
    have hb1' := (allocs_below w0 [_]).trans (hb1.mono (by simp))
    rw [hchk]
    have hL1 : Below w0.heap.size w0 w1 := hb1'
    obtain ⟨-, c1_0, c1_1, c1_2, c1_3, c1_4, c1_5⟩ := SK _ hL1
    go_wp2_with fail
    go_ret2
    exact ⟨rfl, hb0.trans (hL1.mono hb0.size)⟩

set_option maxRecDepth 100000 in
set_option maxHeartbeats 1000000 in
theorem Square_any (w : World) (ax ay bx by_ : Int) :
    Calls Tryz.prog 40 #[.agg #[.int .i64 ax, .int .i64 ay], .agg #[.int .i64 bx, .int .i64 by_]] w fun e w' => e = .returned (R2 ((bx - ax) * (bx - ax) + (by_ - ay) * (by_ - ay)) (Co ax ∧ Co ay ∧ Co bx ∧ Co by_)) ∧ Below w.heap.size w w' := by
  by_cases hok : Co ax ∧ Co ay ∧ Co bx ∧ Co by_
  · have hchk : chkPts [(ax, ay), (bx, by_)] = 0 := by simp [chkPts, okPts, hok]
    obtain ⟨hax, hay, hbx, hby_⟩ := id hok
    rw [R2_pos _ hok]
    go_enter Tryz.func40, Tryz.ntmps40
    go_upto_region 1 with (fail)
    have hb0 : Below w.heap.size w ((w.alloc (.cells #[.int .i64 ax, .int .i64 ay] 23)).alloc (.cells #[.int .i64 bx, .int .i64 by_] 23)) := allocs_below w [(.cells #[.int .i64 ax, .int .i64 ay] 23), (.cells #[.int .i64 bx, .int .i64 by_] 23)]
    have s0 : w.heap.size + 2 ≤ ((w.alloc (.cells #[.int .i64 ax, .int .i64 ay] 23)).alloc (.cells #[.int .i64 bx, .int .i64 by_] 23)).heap.size := Nat.le_of_eq (allocs_size w [(.cells #[.int .i64 ax, .int .i64 ay] 23), (.cells #[.int .i64 bx, .int .i64 by_] 23)]).symm
    have kb0 : ((w.alloc (.cells #[.int .i64 ax, .int .i64 ay] 23)).alloc (.cells #[.int .i64 bx, .int .i64 by_] 23)).heap[w.heap.size + 0]? = some (.cells #[.int .i64 ax, .int .i64 ay] 23) := allocs_at w [(.cells #[.int .i64 ax, .int .i64 ay] 23), (.cells #[.int .i64 bx, .int .i64 by_] 23)] 0 rfl
    have kb1 : ((w.alloc (.cells #[.int .i64 ax, .int .i64 ay] 23)).alloc (.cells #[.int .i64 bx, .int .i64 by_] 23)).heap[w.heap.size + 1]? = some (.cells #[.int .i64 bx, .int .i64 by_] 23) := allocs_at w [(.cells #[.int .i64 ax, .int .i64 ay] 23), (.cells #[.int .i64 bx, .int .i64 by_] 23)] 1 rfl
    generalize ((w.alloc (.cells #[.int .i64 ax, .int .i64 ay] 23)).alloc (.cells #[.int .i64 bx, .int .i64 by_] 23)) = w0 at *
    have k0_0 : w0.cell? ⟨w.heap.size, 0, none⟩ = some (.int .i64 ax) := (Blk.cell kb0 0).trans rfl
    have k0_1 : w0.cell? ⟨w.heap.size, 1, none⟩ = some (.int .i64 ay) := (Blk.cell kb0 1).trans rfl
    have k1_0 : w0.cell? ⟨w.heap.size + 1, 0, none⟩ = some (.int .i64 bx) := (Blk.cell kb1 0).trans rfl
    have k1_1 : w0.cell? ⟨w.heap.size + 1, 1, none⟩ = some (.int .i64 by_) := (Blk.cell kb1 1).trans rfl
    clear kb0 kb1
    have SK : ∀ w', Below w0.heap.size w0 w' → Below w0.heap.size w0 w' ∧ w'.cell? ⟨w.heap.size, 0, none⟩ = some (.int .i64 ax) ∧ w'.cell? ⟨w.heap.size, 1, none⟩ = some (.int .i64 ay) ∧ w'.cell? ⟨w.heap.size + 1, 0, none⟩ = some (.int .i64 bx) ∧ w'.cell? ⟨w.heap.size + 1, 1, none⟩ = some (.int .i64 by_) := fun w' h => ⟨h, (bcell h _ _ (by omega)).trans k0_0, (bcell h _ _ (by omega)).trans k0_1, (bcell h _ _ (by omega)).trans k1_0, (bcell h _ _ (by omega)).trans k1_1⟩
    go_wp2_with fail
    refine (allp_any _ _ [(ax, ay), (bx, by_)] (Pts2 w0 (ax, ay) (bx, by_) _ _) (by simp)).mono ?_
    rintro e w1 ⟨rfl, hb1⟩
    have hb1' := (allocs_below w0 [_]).trans (hb1.mono (by simp))
    rw [hchk]
    have HB1 := hide hb1'
    clear hb1
    have hL1 : Below w0.heap.size w0 w1 := hb1'
    obtain ⟨-, c1_0, c1_1, c1_2, c1_3⟩ := SK _ hL1
    go_wp2_with fail
    refine (to_any _ ax ay bx by_ hax hay hbx hby_).mono ?_
    rintro e w2 ⟨rfl, hb2⟩
    have hL2 : Below w0.heap.size w0 w2 := hL1.trans (hb2.mono hL1.size)
    obtain ⟨-, c2_0, c2_1, c2_2, c2_3⟩ := SK _ hL2
    go_wp2_with fail
    refine (adot_any _ (bx - ax) (by_ - ay) (bx - ax) (by_ - ay) (by omega) (by omega) (by omega) (by omega)).mono ?_
    rintro e w3 ⟨rfl, hb3⟩
    have hb3' := (allocs_below w2 [_]).trans (hb3.mono (by simp))
    have hL3 : Below w0.heap.size w0 w3 := hL2.trans (hb3'.mono hL2.size)
    obtain ⟨-, c3_0, c3_1, c3_2, c3_3⟩ := SK _ hL3
    go_wp2_with fail
    go_ret2
    exact ⟨rfl, hb0.trans (hL3.mono hb0.size)⟩
  · have hchk : chkPts [(ax, ay), (bx, by_)] = 2 := by rw [chkPts, if_neg]; intro h; exact hok (by simpa [okPts, and_assoc] using h)
    rw [R2_neg _ hok]
    go_enter Tryz.func40, Tryz.ntmps40
    go_upto_region 1 with (fail)
    have hb0 : Below w.heap.size w ((w.alloc (.cells #[.int .i64 ax, .int .i64 ay] 23)).alloc (.cells #[.int .i64 bx, .int .i64 by_] 23)) := allocs_below w [(.cells #[.int .i64 ax, .int .i64 ay] 23), (.cells #[.int .i64 bx, .int .i64 by_] 23)]
    have s0 : w.heap.size + 2 ≤ ((w.alloc (.cells #[.int .i64 ax, .int .i64 ay] 23)).alloc (.cells #[.int .i64 bx, .int .i64 by_] 23)).heap.size := Nat.le_of_eq (allocs_size w [(.cells #[.int .i64 ax, .int .i64 ay] 23), (.cells #[.int .i64 bx, .int .i64 by_] 23)]).symm
    have kb0 : ((w.alloc (.cells #[.int .i64 ax, .int .i64 ay] 23)).alloc (.cells #[.int .i64 bx, .int .i64 by_] 23)).heap[w.heap.size + 0]? = some (.cells #[.int .i64 ax, .int .i64 ay] 23) := allocs_at w [(.cells #[.int .i64 ax, .int .i64 ay] 23), (.cells #[.int .i64 bx, .int .i64 by_] 23)] 0 rfl
    have kb1 : ((w.alloc (.cells #[.int .i64 ax, .int .i64 ay] 23)).alloc (.cells #[.int .i64 bx, .int .i64 by_] 23)).heap[w.heap.size + 1]? = some (.cells #[.int .i64 bx, .int .i64 by_] 23) := allocs_at w [(.cells #[.int .i64 ax, .int .i64 ay] 23), (.cells #[.int .i64 bx, .int .i64 by_] 23)] 1 rfl
    generalize ((w.alloc (.cells #[.int .i64 ax, .int .i64 ay] 23)).alloc (.cells #[.int .i64 bx, .int .i64 by_] 23)) = w0 at *
    have k0_0 : w0.cell? ⟨w.heap.size, 0, none⟩ = some (.int .i64 ax) := (Blk.cell kb0 0).trans rfl
    have k0_1 : w0.cell? ⟨w.heap.size, 1, none⟩ = some (.int .i64 ay) := (Blk.cell kb0 1).trans rfl
    have k1_0 : w0.cell? ⟨w.heap.size + 1, 0, none⟩ = some (.int .i64 bx) := (Blk.cell kb1 0).trans rfl
    have k1_1 : w0.cell? ⟨w.heap.size + 1, 1, none⟩ = some (.int .i64 by_) := (Blk.cell kb1 1).trans rfl
    clear kb0 kb1
    have SK : ∀ w', Below w0.heap.size w0 w' → Below w0.heap.size w0 w' ∧ w'.cell? ⟨w.heap.size, 0, none⟩ = some (.int .i64 ax) ∧ w'.cell? ⟨w.heap.size, 1, none⟩ = some (.int .i64 ay) ∧ w'.cell? ⟨w.heap.size + 1, 0, none⟩ = some (.int .i64 bx) ∧ w'.cell? ⟨w.heap.size + 1, 1, none⟩ = some (.int .i64 by_) := fun w' h => ⟨h, (bcell h _ _ (by omega)).trans k0_0, (bcell h _ _ (by omega)).trans k0_1, (bcell h _ _ (by omega)).trans k1_0, (bcell h _ _ (by omega)).trans k1_1⟩
    go_wp2_with fail
    refine (allp_any _ _ [(ax, ay), (bx, by_)] (Pts2 w0 (ax, ay) (bx, by_) _ _) (by simp)).mono ?_
    rintro e w1 ⟨rfl, hb1⟩
    have hb1' := (allocs_below w0 [_]).trans (hb1.mono (by simp))
    rw [hchk]
    have hL1 : Below w0.heap.size w0 w1 := hb1'
    obtain ⟨-, c1_0, c1_1, c1_2, c1_3⟩ := SK _ hL1
    go_wp2_with fail
    go_ret2
    exact ⟨rfl, hb0.trans (hL1.mono hb0.size)⟩

set_option maxRecDepth 100000 in
set_option maxHeartbeats 1000000 in
theorem SquareSpace_any (w : World) (ax ay az bx by_ bz : Int) :
    Calls Tryz.prog 21 #[.agg #[.int .i64 ax, .int .i64 ay, .int .i64 az], .agg #[.int .i64 bx, .int .i64 by_, .int .i64 bz]] w fun e w' => e = .returned (R2 ((bx - ax) * (bx - ax) + (by_ - ay) * (by_ - ay) + (bz - az) * (bz - az)) (Co ax ∧ Co ay ∧ Co az ∧ Co bx ∧ Co by_ ∧ Co bz)) ∧ Below w.heap.size w w' := by
  by_cases hok : Co ax ∧ Co ay ∧ Co az ∧ Co bx ∧ Co by_ ∧ Co bz
  · have hchk : chkSps [(ax, ay, az), (bx, by_, bz)] = 0 := by simp [chkSps, okSps, hok]
    obtain ⟨hax, hay, haz, hbx, hby_, hbz⟩ := id hok
    rw [R2_pos _ hok]
    go_enter Tryz.func21, Tryz.ntmps21
    go_upto_region 1 with (fail)
    have hb0 : Below w.heap.size w ((w.alloc (.cells #[.int .i64 ax, .int .i64 ay, .int .i64 az] 33)).alloc (.cells #[.int .i64 bx, .int .i64 by_, .int .i64 bz] 33)) := allocs_below w [(.cells #[.int .i64 ax, .int .i64 ay, .int .i64 az] 33), (.cells #[.int .i64 bx, .int .i64 by_, .int .i64 bz] 33)]
    have s0 : w.heap.size + 2 ≤ ((w.alloc (.cells #[.int .i64 ax, .int .i64 ay, .int .i64 az] 33)).alloc (.cells #[.int .i64 bx, .int .i64 by_, .int .i64 bz] 33)).heap.size := Nat.le_of_eq (allocs_size w [(.cells #[.int .i64 ax, .int .i64 ay, .int .i64 az] 33), (.cells #[.int .i64 bx, .int .i64 by_, .int .i64 bz] 33)]).symm
    have kb0 : ((w.alloc (.cells #[.int .i64 ax, .int .i64 ay, .int .i64 az] 33)).alloc (.cells #[.int .i64 bx, .int .i64 by_, .int .i64 bz] 33)).heap[w.heap.size + 0]? = some (.cells #[.int .i64 ax, .int .i64 ay, .int .i64 az] 33) := allocs_at w [(.cells #[.int .i64 ax, .int .i64 ay, .int .i64 az] 33), (.cells #[.int .i64 bx, .int .i64 by_, .int .i64 bz] 33)] 0 rfl
    have kb1 : ((w.alloc (.cells #[.int .i64 ax, .int .i64 ay, .int .i64 az] 33)).alloc (.cells #[.int .i64 bx, .int .i64 by_, .int .i64 bz] 33)).heap[w.heap.size + 1]? = some (.cells #[.int .i64 bx, .int .i64 by_, .int .i64 bz] 33) := allocs_at w [(.cells #[.int .i64 ax, .int .i64 ay, .int .i64 az] 33), (.cells #[.int .i64 bx, .int .i64 by_, .int .i64 bz] 33)] 1 rfl
    generalize ((w.alloc (.cells #[.int .i64 ax, .int .i64 ay, .int .i64 az] 33)).alloc (.cells #[.int .i64 bx, .int .i64 by_, .int .i64 bz] 33)) = w0 at *
    have k0_0 : w0.cell? ⟨w.heap.size, 0, none⟩ = some (.int .i64 ax) := (Blk.cell kb0 0).trans rfl
    have k0_1 : w0.cell? ⟨w.heap.size, 1, none⟩ = some (.int .i64 ay) := (Blk.cell kb0 1).trans rfl
    have k0_2 : w0.cell? ⟨w.heap.size, 2, none⟩ = some (.int .i64 az) := (Blk.cell kb0 2).trans rfl
    have k1_0 : w0.cell? ⟨w.heap.size + 1, 0, none⟩ = some (.int .i64 bx) := (Blk.cell kb1 0).trans rfl
    have k1_1 : w0.cell? ⟨w.heap.size + 1, 1, none⟩ = some (.int .i64 by_) := (Blk.cell kb1 1).trans rfl
    have k1_2 : w0.cell? ⟨w.heap.size + 1, 2, none⟩ = some (.int .i64 bz) := (Blk.cell kb1 2).trans rfl
    clear kb0 kb1
    have SK : ∀ w', Below w0.heap.size w0 w' → Below w0.heap.size w0 w' ∧ w'.cell? ⟨w.heap.size, 0, none⟩ = some (.int .i64 ax) ∧ w'.cell? ⟨w.heap.size, 1, none⟩ = some (.int .i64 ay) ∧ w'.cell? ⟨w.heap.size, 2, none⟩ = some (.int .i64 az) ∧ w'.cell? ⟨w.heap.size + 1, 0, none⟩ = some (.int .i64 bx) ∧ w'.cell? ⟨w.heap.size + 1, 1, none⟩ = some (.int .i64 by_) ∧ w'.cell? ⟨w.heap.size + 1, 2, none⟩ = some (.int .i64 bz) := fun w' h => ⟨h, (bcell h _ _ (by omega)).trans k0_0, (bcell h _ _ (by omega)).trans k0_1, (bcell h _ _ (by omega)).trans k0_2, (bcell h _ _ (by omega)).trans k1_0, (bcell h _ _ (by omega)).trans k1_1, (bcell h _ _ (by omega)).trans k1_2⟩
    go_wp2_with fail
    refine (alls_any _ _ [(ax, ay, az), (bx, by_, bz)] (Sps2 w0 (ax, ay, az) (bx, by_, bz) _ _) (by simp)).mono ?_
    rintro e w1 ⟨rfl, hb1⟩
    have hb1' := (allocs_below w0 [_]).trans (hb1.mono (by simp))
    rw [hchk]
    have HB1 := hide hb1'
    clear hb1
    have hL1 : Below w0.heap.size w0 w1 := hb1'
    obtain ⟨-, c1_0, c1_1, c1_2, c1_3, c1_4, c1_5⟩ := SK _ hL1
    go_wp2_with fail
    refine (reach_any _ ax ay az bx by_ bz hax hay haz hbx hby_ hbz).mono ?_
    rintro e w2 ⟨rfl, hb2⟩
    have hL2 : Below w0.heap.size w0 w2 := hL1.trans (hb2.mono hL1.size)
    obtain ⟨-, c2_0, c2_1, c2_2, c2_3, c2_4, c2_5⟩ := SK _ hL2
    go_wp2_with fail
    refine (bdot_any _ (bx - ax) (by_ - ay) (bz - az) (bx - ax) (by_ - ay) (bz - az) (by omega) (by omega) (by omega) (by omega) (by omega) (by omega)).mono ?_
    rintro e w3 ⟨rfl, hb3⟩
    have hb3' := (allocs_below w2 [_]).trans (hb3.mono (by simp))
    have hL3 : Below w0.heap.size w0 w3 := hL2.trans (hb3'.mono hL2.size)
    obtain ⟨-, c3_0, c3_1, c3_2, c3_3, c3_4, c3_5⟩ := SK _ hL3
    go_wp2_with fail
    go_ret2
    exact ⟨rfl, hb0.trans (hL3.mono hb0.size)⟩
  · have hchk : chkSps [(ax, ay, az), (bx, by_, bz)] = 2 := by rw [chkSps, if_neg]; intro h; exact hok (by simpa [okSps, and_assoc] using h)
    rw [R2_neg _ hok]
    go_enter Tryz.func21, Tryz.ntmps21
    go_upto_region 1 with (fail)
    have hb0 : Below w.heap.size w ((w.alloc (.cells #[.int .i64 ax, .int .i64 ay, .int .i64 az] 33)).alloc (.cells #[.int .i64 bx, .int .i64 by_, .int .i64 bz] 33)) := allocs_below w [(.cells #[.int .i64 ax, .int .i64 ay, .int .i64 az] 33), (.cells #[.int .i64 bx, .int .i64 by_, .int .i64 bz] 33)]
    have s0 : w.heap.size + 2 ≤ ((w.alloc (.cells #[.int .i64 ax, .int .i64 ay, .int .i64 az] 33)).alloc (.cells #[.int .i64 bx, .int .i64 by_, .int .i64 bz] 33)).heap.size := Nat.le_of_eq (allocs_size w [(.cells #[.int .i64 ax, .int .i64 ay, .int .i64 az] 33), (.cells #[.int .i64 bx, .int .i64 by_, .int .i64 bz] 33)]).symm
    have kb0 : ((w.alloc (.cells #[.int .i64 ax, .int .i64 ay, .int .i64 az] 33)).alloc (.cells #[.int .i64 bx, .int .i64 by_, .int .i64 bz] 33)).heap[w.heap.size + 0]? = some (.cells #[.int .i64 ax, .int .i64 ay, .int .i64 az] 33) := allocs_at w [(.cells #[.int .i64 ax, .int .i64 ay, .int .i64 az] 33), (.cells #[.int .i64 bx, .int .i64 by_, .int .i64 bz] 33)] 0 rfl
    have kb1 : ((w.alloc (.cells #[.int .i64 ax, .int .i64 ay, .int .i64 az] 33)).alloc (.cells #[.int .i64 bx, .int .i64 by_, .int .i64 bz] 33)).heap[w.heap.size + 1]? = some (.cells #[.int .i64 bx, .int .i64 by_, .int .i64 bz] 33) := allocs_at w [(.cells #[.int .i64 ax, .int .i64 ay, .int .i64 az] 33), (.cells #[.int .i64 bx, .int .i64 by_, .int .i64 bz] 33)] 1 rfl
    generalize ((w.alloc (.cells #[.int .i64 ax, .int .i64 ay, .int .i64 az] 33)).alloc (.cells #[.int .i64 bx, .int .i64 by_, .int .i64 bz] 33)) = w0 at *
    have k0_0 : w0.cell? ⟨w.heap.size, 0, none⟩ = some (.int .i64 ax) := (Blk.cell kb0 0).trans rfl
    have k0_1 : w0.cell? ⟨w.heap.size, 1, none⟩ = some (.int .i64 ay) := (Blk.cell kb0 1).trans rfl
    have k0_2 : w0.cell? ⟨w.heap.size, 2, none⟩ = some (.int .i64 az) := (Blk.cell kb0 2).trans rfl
    have k1_0 : w0.cell? ⟨w.heap.size + 1, 0, none⟩ = some (.int .i64 bx) := (Blk.cell kb1 0).trans rfl
    have k1_1 : w0.cell? ⟨w.heap.size + 1, 1, none⟩ = some (.int .i64 by_) := (Blk.cell kb1 1).trans rfl
    have k1_2 : w0.cell? ⟨w.heap.size + 1, 2, none⟩ = some (.int .i64 bz) := (Blk.cell kb1 2).trans rfl
    clear kb0 kb1
    have SK : ∀ w', Below w0.heap.size w0 w' → Below w0.heap.size w0 w' ∧ w'.cell? ⟨w.heap.size, 0, none⟩ = some (.int .i64 ax) ∧ w'.cell? ⟨w.heap.size, 1, none⟩ = some (.int .i64 ay) ∧ w'.cell? ⟨w.heap.size, 2, none⟩ = some (.int .i64 az) ∧ w'.cell? ⟨w.heap.size + 1, 0, none⟩ = some (.int .i64 bx) ∧ w'.cell? ⟨w.heap.size + 1, 1, none⟩ = some (.int .i64 by_) ∧ w'.cell? ⟨w.heap.size + 1, 2, none⟩ = some (.int .i64 bz) := fun w' h => ⟨h, (bcell h _ _ (by omega)).trans k0_0, (bcell h _ _ (by omega)).trans k0_1, (bcell h _ _ (by omega)).trans k0_2, (bcell h _ _ (by omega)).trans k1_0, (bcell h _ _ (by omega)).trans k1_1, (bcell h _ _ (by omega)).trans k1_2⟩
    go_wp2_with fail
    refine (alls_any _ _ [(ax, ay, az), (bx, by_, bz)] (Sps2 w0 (ax, ay, az) (bx, by_, bz) _ _) (by simp)).mono ?_
    rintro e w1 ⟨rfl, hb1⟩
    have hb1' := (allocs_below w0 [_]).trans (hb1.mono (by simp))
    rw [hchk]
    have hL1 : Below w0.heap.size w0 w1 := hb1'
    obtain ⟨-, c1_0, c1_1, c1_2, c1_3, c1_4, c1_5⟩ := SK _ hL1
    go_wp2_with fail
    go_ret2
    exact ⟨rfl, hb0.trans (hL1.mono hb0.size)⟩

end Go.Proofs.YtblfinpfcpglcaaGreatDoor
