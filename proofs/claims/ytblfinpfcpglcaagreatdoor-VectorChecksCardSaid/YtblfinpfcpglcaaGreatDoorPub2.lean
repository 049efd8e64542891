/- vector: Volume, Side; the same of the reference. -/
import Derived.Test.YtblfinpfcpglcaaGreatDoorPub
import Derived.Test.YtblfinpfcpglcaaGreatDoorShelf
namespace Go.Proofs.YtblfinpfcpglcaaGreatDoor
open Go.RowKit MLab

set_option maxRecDepth 100000 in
set_option maxHeartbeats 1000000 in
theorem Volume_any (w : World) (ax ay az bx by_ bz cx cy cz dx dy dz : Int) :
    Calls Tryz.prog 19 #[.agg #[.int .i64 ax, .int .i64 ay, .int .i64 az], .agg #[.int .i64 bx, .int .i64 by_, .int .i64 bz], .agg #[.int .i64 cx, .int .i64 cy, .int .i64 cz], .agg #[.int .i64 dx, .int .i64 dy, .int .i64 dz]] w fun e w' => e = .returned (R2 (((by_ - ay) * (cz - az) - (bz - az) * (cy - ay)) * (dx - ax) + ((bz - az) * (cx - ax) - (bx - ax) * (cz - az)) * (dy - ay) + ((bx - ax) * (cy - ay) - (by_ - ay) * (cx - ax)) * (dz - az)) (Co ax ∧ Co ay ∧ Co az ∧ Co bx ∧ Co by_ ∧ Co bz ∧ Co cx ∧ Co cy ∧ Co cz ∧ Co dx ∧ Co dy ∧ Co dz)) ∧ Below w.heap.size w w' := by
  by_cases hok : Co ax ∧ Co ay ∧ Co az ∧ Co bx ∧ Co by_ ∧ Co bz ∧ Co cx ∧ Co cy ∧ Co cz ∧ Co dx ∧ Co dy ∧ Co dz
  · have hchk : chkSps [(ax, ay, az), (bx, by_, bz), (cx, cy, cz), (dx, dy, dz)] = 0 := by simp [chkSps, okSps, hok]
    obtain ⟨hax, hay, haz, hbx, hby_, hbz, hcx, hcy, hcz, hdx, hdy, hdz⟩ := id hok
    rw [R2_pos _ hok]
    go_enter Tryz.func19, Tryz.ntmps19
    go_upto_region 1 with (fail)
    have hb0 : Below w.heap.size w ((((w.alloc (.cells #[.int .i64 ax, .int .i64 ay, .int .i64 az] 33)).alloc (.cells #[.int .i64 bx, .int .i64 by_, .int .i64 bz] 33)).alloc (.cells #[.int .i64 cx, .int .i64 cy, .int .i64 cz] 33)).alloc (.cells #[.int .i64 dx, .int .i64 dy, .int .i64 dz] 33)) := allocs_below w [(.cells #[.int .i64 ax, .int .i64 ay, .int .i64 az] 33), (.cells #[.int .i64 bx, .int .i64 by_, .int .i64 bz] 33), (.cells #[.int .i64 cx, .int .i64 cy, .int .i64 cz] 33), (.cells #[.int .i64 dx, .int .i64 dy, .int .i64 dz] 33)]
    have s0 : w.heap.size + 4 ≤ ((((w.alloc (.cells #[.int .i64 ax, .int .i64 ay, .int .i64 az] 33)).alloc (.cells #[.int .i64 bx, .int .i64 by_, .int .i64 bz] 33)).alloc (.cells #[.int .i64 cx, .int .i64 cy, .int .i64 cz] 33)).alloc (.cells #[.int .i64 dx, .int .i64 dy, .int .i64 dz] 33)).heap.size := Nat.le_of_eq (allocs_size w [(.cells #[.int .i64 ax, .int .i64 ay, .int .i64 az] 33), (.cells #[.int .i64 bx, .int .i64 by_, .int .i64 bz] 33), (.cells #[.int .i64 cx, .int .i64 cy, .int .i64 cz] 33), (.cells #[.int .i64 dx, .int .i64 dy, .int .i64 dz] 33)]).symm
    have kb0 : ((((w.alloc (.cells #[.int .i64 ax, .int .i64 ay, .int .i64 az] 33)).alloc (.cells #[.int .i64 bx, .int .i64 by_, .int .i64 bz] 33)).alloc (.cells #[.int .i64 cx, .int .i64 cy, .int .i64 cz] 33)).alloc (.cells #[.int .i64 dx, .int .i64 dy, .int .i64 dz] 33)).heap[w.heap.size + 0]? = some (.cells #[.int .i64 ax, .int .i64 ay, .int .i64 az] 33) := allocs_at w [(.cells #[.int .i64 ax, .int .i64 ay, .int .i64 az] 33), (.cells #[.int .i64 bx, .int .i64 by_, .int .i64 bz] 33), (.cells #[.int .i64 cx, .int .i64 cy, .int .i64 cz] 33), (.cells #[.int .i64 dx, .int .i64 dy, .int .i64 dz] 33)] 0 rfl
    have kb1 : ((((w.alloc (.cells #[.int .i64 ax, .int .i64 ay, .int .i64 az] 33)).alloc (.cells #[.int .i64 bx, .int .i64 by_, .int .i64 bz] 33)).alloc (.cells #[.int .i64 cx, .int .i64 cy, .int .i64 cz] 33)).alloc (.cells #[.int .i64 dx, .int .i64 dy, .int .i64 dz] 33)).heap[w.heap.size + 1]? = some (.cells #[.int .i64 bx, .int .i64 by_, .int .i64 bz] 33) := allocs_at w [(.cells #[.int .i64 ax, .int .i64 ay, .int .i64 az] 33), (.cells #[.int .i64 bx, .int .i64 by_, .int .i64 bz] 33), (.cells #[.int .i64 cx, .int .i64 cy, .int .i64 cz] 33), (.cells #[.int .i64 dx, .int .i64 dy, .int .i64 dz] 33)] 1 rfl
    have kb2 : ((((w.alloc (.cells #[.int .i64 ax, .int .i64 ay, .int .i64 az] 33)).alloc (.cells #[.int .i64 bx, .int .i64 by_, .int .i64 bz] 33)).alloc (.cells #[.int .i64 cx, .int .i64 cy, .int .i64 cz] 33)).alloc (.cells #[.int .i64 dx, .int .i64 dy, .int .i64 dz] 33)).heap[w.heap.size + 2]? = some (.cells #[.int .i64 cx, .int .i64 cy, .int .i64 cz] 33) := allocs_at w [(.cells #[.int .i64 ax, .int .i64 ay, .int .i64 az] 33), (.cells #[.int .i64 bx, .int .i64 by_, .int .i64 bz] 33), (.cells #[.int .i64 cx, .int .i64 cy, .int .i64 cz] 33), (.cells #[.int .i64 dx, .int .i64 dy, .int .i64 dz] 33)] 2 rfl
    have kb3 : ((((w.alloc (.cells #[.int .i64 ax, .int .i64 ay, .int .i64 az] 33)).alloc (.cells #[.int .i64 bx, .int .i64 by_, .int .i64 bz] 33)).alloc (.cells #[.int .i64 cx, .int .i64 cy, .int .i64 cz] 33)).alloc (.cells #[.int .i64 dx, .int .i64 dy, .int .i64 dz] 33)).heap[w.heap.size + 3]? = some (.cells #[.int .i64 dx, .int .i64 dy, .int .i64 dz] 33) := allocs_at w [(.cells #[.int .i64 ax, .int .i64 ay, .int .i64 az] 33), (.cells #[.int .i64 bx, .int .i64 by_, .int .i64 bz] 33), (.cells #[.int .i64 cx, .int .i64 cy, .int .i64 cz] 33), (.cells #[.int .i64 dx, .int .i64 dy, .int .i64 dz] 33)] 3 rfl
    generalize ((((w.alloc (.cells #[.int .i64 ax, .int .i64 ay, .int .i64 az] 33)).alloc (.cells #[.int .i64 bx, .int .i64 by_, .int .i64 bz] 33)).alloc (.cells #[.int .i64 cx, .int .i64 cy, .int .i64 cz] 33)).alloc (.cells #[.int .i64 dx, .int .i64 dy, .int .i64 dz] 33)) = w0 at *
    have k0_0 : w0.cell? ⟨w.heap.size, 0, none⟩ = some (.int .i64 ax) := (Blk.cell kb0 0).trans rfl
    have k0_1 : w0.cell? ⟨w.heap.size, 1, none⟩ = some (.int .i64 ay) := (Blk.cell kb0 1).trans rfl
    have k0_2 : w0.cell? ⟨w.heap.size, 2, none⟩ = some (.int .i64 az) := (Blk.cell kb0 2).trans rfl
    have k1_0 : w0.cell? ⟨w.heap.size + 1, 0, none⟩ = some (.int .i64 bx) := (Blk.cell kb1 0).trans rfl
    have k1_1 : w0.cell? ⟨w.heap.size + 1, 1, none⟩ = some (.int .i64 by_) := (Blk.cell kb1 1).trans rfl
    have k1_2 : w0.cell? ⟨w.heap.size + 1, 2, none⟩ = some (.int .i64 bz) := (Blk.cell kb1 2).trans rfl
    have k2_0 : w0.cell? ⟨w.heap.size + 1 + 1, 0, none⟩ = some (.int .i64 cx) := (Blk.cell kb2 0).trans rfl
    have k2_1 : w0.cell? ⟨w.heap.size + 1 + 1, 1, none⟩ = some (.int .i64 cy) := (Blk.cell kb2 1).trans rfl
    have k2_2 : w0.cell? ⟨w.heap.size + 1 + 1, 2, none⟩ = some (.int .i64 cz) := (Blk.cell kb2 2).trans rfl
    have k3_0 : w0.cell? ⟨w.heap.size + 1 + 1 + 1, 0, none⟩ = some (.int .i64 dx) := (Blk.cell kb3 0).trans rfl
    have k3_1 : w0.cell? ⟨w.heap.size + 1 + 1 + 1, 1, none⟩ = some (.int .i64 dy) := (Blk.cell kb3 1).trans rfl
    have k3_2 : w0.cell? ⟨w.heap.size + 1 + 1 + 1, 2, none⟩ = some (.int .i64 dz) := (Blk.cell kb3 2).trans rfl
    clear kb0 kb1 kb2 kb3
    have SK : ∀ w', Below w0.heap.size w0 w' → Below w0.heap.size w0 w' ∧ w'.cell? ⟨w.heap.size, 0, none⟩ = some (.int .i64 ax) ∧ w'.cell? ⟨w.heap.size, 1, none⟩ = some (.int .i64 ay) ∧ w'.cell? ⟨w.heap.size, 2, none⟩ = some (.int .i64 az) ∧ w'.cell? ⟨w.heap.size + 1, 0, none⟩ = some (.int .i64 bx) ∧ w'.cell? ⟨w.heap.size + 1, 1, none⟩ = some (.int .i64 by_) ∧ w'.cell? ⟨w.heap.size + 1, 2, none⟩ = some (.int .i64 bz) ∧ w'.cell? ⟨w.heap.size + 1 + 1, 0, none⟩ = some (.int .i64 cx) ∧ w'.cell? ⟨w.heap.size + 1 + 1, 1, none⟩ = some (.int .i64 cy) ∧ w'.cell? ⟨w.heap.size + 1 + 1, 2, none⟩ = some (.int .i64 cz) ∧ w'.cell? ⟨w.heap.size + 1 + 1 + 1, 0, none⟩ = some (.int .i64 dx) ∧ w'.cell? ⟨w.heap.size + 1 + 1 + 1, 1, none⟩ = some (.int .i64 dy) ∧ w'.cell? ⟨w.heap.size + 1 + 1 + 1, 2, none⟩ = some (.int .i64 dz) := fun w' h => ⟨h, (bcell h _ _ (by omega)).trans k0_0, (bcell h _ _ (by omega)).trans k0_1, (bcell h _ _ (by omega)).trans k0_2, (bcell h _ _ (by omega)).trans k1_0, (bcell h _ _ (by omega)).trans k1_1, (bcell h _ _ (by omega)).trans k1_2, (bcell h _ _ (by omega)).trans k2_0, (bcell h _ _ (by omega)).trans k2_1, (bcell h _ _ (by omega)).trans k2_2, (bcell h _ _ (by omega)).trans k3_0, (bcell h _ _ (by omega)).trans k3_1, (bcell h _ _ (by omega)).trans k3_2⟩
    go_wp2_with fail
    refine (alls_any _ _ [(ax, ay, az), (bx, by_, bz), (cx, cy, cz), (dx, dy, dz)] (Sps4 w0 (ax, ay, az) (bx, by_, bz) (cx, cy, cz) (dx, dy, dz) _ _) (by simp)).mono ?_
    rintro e w1 ⟨rfl, hb1⟩
    have hb1' := (allocs_below w0 [_]).trans (hb1.mono (by simp))
    rw [hchk]
    have HB1 := hide hb1'
    clear hb1
    have hL1 : Below w0.heap.size w0 w1 := hb1'
    obtain ⟨-, c1_0, c1_1, c1_2, c1_3, c1_4, c1_5, c1_6, c1_7, c1_8, c1_9, c1_10, c1_11⟩ := SK _ hL1
    obtain ⟨m0a, m0b⟩ := mulB (x := (by_ - ay)) (y := (cz - az)) (M := 200000) (N := 200000) (by omega) (by omega)
    obtain ⟨m1a, m1b⟩ := mulB (x := (bz - az)) (y := (cy - ay)) (M := 200000) (N := 200000) (by omega) (by omega)
    obtain ⟨m2a, m2b⟩ := mulB (x := (bz - az)) (y := (cx - ax)) (M := 200000) (N := 200000) (by omega) (by omega)
    obtain ⟨m3a, m3b⟩ := mulB (x := (bx - ax)) (y := (cz - az)) (M := 200000) (N := 200000) (by omega) (by omega)
    obtain ⟨m4a, m4b⟩ := mulB (x := (bx - ax)) (y := (cy - ay)) (M := 200000) (N := 200000) (by omega) (by omega)
    obtain ⟨m5a, m5b⟩ := mulB (x := (by_ - ay)) (y := (cx - ax)) (M := 200000) (N := 200000) (by omega) (by omega)
    have HN1 : Nf ((by_ - ay) * (cz - az) - (bz - az) * (cy - ay)) := by constructor <;> omega
    have HN2 : Nf ((bz - az) * (cx - ax) - (bx - ax) * (cz - az)) := by constructor <;> omega
    have HN3 : Nf ((bx - ax) * (cy - ay) - (by_ - ay) * (cx - ax)) := by constructor <;> omega
    clear m0a m0b m1a m1b m2a m2b m3a m3b m4a m4b m5a m5b
    go_upto_region 4 with (fail)
    have q1 : w0.heap.size ≤ w1.heap.size := hL1.size
    have SQ : ∀ w', Below w1.heap.size w1 w' → Below w1.heap.size w1 w' ∧ w'.cell? ⟨w.heap.size, 0, none⟩ = some (.int .i64 ax) ∧ w'.cell? ⟨w.heap.size, 1, none⟩ = some (.int .i64 ay) ∧ w'.cell? ⟨w.heap.size, 2, none⟩ = some (.int .i64 az) ∧ w'.cell? ⟨w.heap.size + 1, 0, none⟩ = some (.int .i64 bx) ∧ w'.cell? ⟨w.heap.size + 1, 1, none⟩ = some (.int .i64 by_) ∧ w'.cell? ⟨w.heap.size + 1, 2, none⟩ = some (.int .i64 bz) ∧ w'.cell? ⟨w.heap.size + 1 + 1, 0, none⟩ = some (.int .i64 cx) ∧ w'.cell? ⟨w.heap.size + 1 + 1, 1, none⟩ = some (.int .i64 cy) ∧ w'.cell? ⟨w.heap.size + 1 + 1, 2, none⟩ = some (.int .i64 cz) ∧ w'.cell? ⟨w.heap.size + 1 + 1 + 1, 0, none⟩ = some (.int .i64 dx) ∧ w'.cell? ⟨w.heap.size + 1 + 1 + 1, 1, none⟩ = some (.int .i64 dy) ∧ w'.cell? ⟨w.heap.size + 1 + 1 + 1, 2, none⟩ = some (.int .i64 dz) := fun w' h => ⟨h, (bcell h _ _ (by omega)).trans c1_0, (bcell h _ _ (by omega)).trans c1_1, (bcell h _ _ (by omega)).trans c1_2, (bcell h _ _ (by omega)).trans c1_3, (bcell h _ _ (by omega)).trans c1_4, (bcell h _ _ (by omega)).trans c1_5, (bcell h _ _ (by omega)).trans c1_6, (bcell h _ _ (by omega)).trans c1_7, (bcell h _ _ (by omega)).trans c1_8, (bcell h _ _ (by omega)).trans c1_9, (bcell h _ _ (by omega)).trans c1_10, (bcell h _ _ (by omega)).trans c1_11⟩
    go_region_held3 (fun w' => Below w1.heap.size w1 w' ∧ w'.cell? ⟨w.heap.size, 0, none⟩ = some (.int .i64 ax) ∧ w'.cell? ⟨w.heap.size, 1, none⟩ = some (.int .i64 ay) ∧ w'.cell? ⟨w.heap.size, 2, none⟩ = some (.int .i64 az) ∧ w'.cell? ⟨w.heap.size + 1, 0, none⟩ = some (.int .i64 bx) ∧ w'.cell? ⟨w.heap.size + 1, 1, none⟩ = some (.int .i64 by_) ∧ w'.cell? ⟨w.heap.size + 1, 2, none⟩ = some (.int .i64 bz) ∧ w'.cell? ⟨w.heap.size + 1 + 1, 0, none⟩ = some (.int .i64 cx) ∧ w'.cell? ⟨w.heap.size + 1 + 1, 1, none⟩ = some (.int .i64 cy) ∧ w'.cell? ⟨w.heap.size + 1 + 1, 2, none⟩ = some (.int .i64 cz) ∧ w'.cell? ⟨w.heap.size + 1 + 1 + 1, 0, none⟩ = some (.int .i64 dx) ∧ w'.cell? ⟨w.heap.size + 1 + 1 + 1, 1, none⟩ = some (.int .i64 dy) ∧ w'.cell? ⟨w.heap.size + 1 + 1 + 1, 2, none⟩ = some (.int .i64 dz)) (first | exact SQ _ (Below.refl _ _).drew | exact SQ _ (bel_next (by assumption) (by assumption) (Nat.le_refl _)))
      (first
        | (go_at_call_of 68 ((.agg #[.int .i64 bx, .int .i64 by_, .int .i64 bz] : Value)); refine (normal_any _ ax ay az bx by_ bz cx cy cz hax hay haz hbx hby_ hbz hcx hcy hcz).mono ?_; rintro e wx ⟨rfl, hbW⟩)
        | (go_at_call_of 72 ((.agg #[.int .i64 dx, .int .i64 dy, .int .i64 dz] : Value)); refine (reach_any _ ax ay az dx dy dz hax hay haz hdx hdy hdz).mono ?_; rintro e wx ⟨rfl, hbW⟩)
        | (go_at_call 71; refine (bdot_any _ ((by_ - ay) * (cz - az) - (bz - az) * (cy - ay)) ((bz - az) * (cx - ax) - (bx - ax) * (cz - az)) ((bx - ax) * (cy - ay) - (by_ - ay) * (cx - ax)) (dx - ax) (dy - ay) (dz - az) HN1 HN2 HN3 (by omega) (by omega) (by omega)).mono ?_; rintro e wx ⟨rfl, hbW⟩))
    go_wp2_with fail
    go_ret2
    exact ⟨rfl, hb0.trans ((hL1.trans (Below.mono (And.left (by assumption)) hL1.size)).mono hb0.size)⟩
  · have hchk : chkSps [(ax, ay, az), (bx, by_, bz), (cx, cy, cz), (dx, dy, dz)] = 2 := by rw [chkSps, if_neg]; intro h; exact hok (by simpa [okSps, and_assoc] using h)
    rw [R2_neg _ hok]
    go_enter Tryz.func19, Tryz.ntmps19
    go_upto_region 1 with (fail)
    have hb0 : Below w.heap.size w ((((w.alloc (.cells #[.int .i64 ax, .int .i64 ay, .int .i64 az] 33)).alloc (.cells #[.int .i64 bx, .int .i64 by_, .int .i64 bz] 33)).alloc (.cells #[.int .i64 cx, .int .i64 cy, .int .i64 cz] 33)).alloc (.cells #[.int .i64 dx, .int .i64 dy, .int .i64 dz] 33)) := allocs_below w [(.cells #[.int .i64 ax, .int .i64 ay, .int .i64 az] 33), (.cells #[.int .i64 bx, .int .i64 by_, .int .i64 bz] 33), (.cells #[.int .i64 cx, .int .i64 cy, .int .i64 cz] 33), (.cells #[.int .i64 dx, .int .i64 dy, .int .i64 dz] 33)]
    have s0 : w.heap.size + 4 ≤ ((((w.alloc (.cells #[.int .i64 ax, .int .i64 ay, .int .i64 az] 33)).alloc (.cells #[.int .i64 bx, .int .i64 by_, .int .i64 bz] 33)).alloc (.cells #[.int .i64 cx, .int .i64 cy, .int .i64 cz] 33)).alloc (.cells #[.int .i64 dx, .int .i64 dy, .int .i64 dz] 33)).heap.size := Nat.le_of_eq (allocs_size w [(.cells #[.int .i64 ax, .int .i64 ay, .int .i64 az] 33), (.cells #[.int .i64 bx, .int .i64 by_, .int .i64 bz] 33), (.cells #[.int .i64 cx, .int .i64 cy, .int .i64 cz] 33), (.cells #[.int .i64 dx, .int .i64 dy, .int .i64 dz] 33)]).symm
    have kb0 : ((((w.alloc (.cells #[.int .i64 ax, .int .i64 ay, .int .i64 az] 33)).alloc (.cells #[.int .i64 bx, .int .i64 by_, .int .i64 bz] 33)).alloc (.cells #[.int .i64 cx, .int .i64 cy, .int .i64 cz] 33)).alloc (.cells #[.int .i64 dx, .int .i64 dy, .int .i64 dz] 33)).heap[w.heap.size + 0]? = some (.cells #[.int .i64 ax, .int .i64 ay, .int .i64 az] 33) := allocs_at w [(.cells #[.int .i64 ax, .int .i64 ay, .int .i64 az] 33), (.cells #[.int .i64 bx, .int .i64 by_, .int .i64 bz] 33), (.cells #[.int .i64 cx, .int .i64 cy, .int .i64 cz] 33), (.cells #[.int .i64 dx, .int .i64 dy, .int .i64 dz] 33)] 0 rfl
    have kb1 : ((((w.alloc (.cells #[.int .i64 ax, .int .i64 ay, .int .i64 az] 33)).alloc (.cells #[.int .i64 bx, .int .i64 by_, .int .i64 bz] 33)).alloc (.cells #[.int .i64 cx, .int .i64 cy, .int .i64 cz] 33)).alloc (.cells #[.int .i64 dx, .int .i64 dy, .int .i64 dz] 33)).heap[w.heap.size + 1]? = some (.cells #[.int .i64 bx, .int .i64 by_, .int .i64 bz] 33) := allocs_at w [(.cells #[.int .i64 ax, .int .i64 ay, .int .i64 az] 33), (.cells #[.int .i64 bx, .int .i64 by_, .int .i64 bz] 33), (.cells #[.int .i64 cx, .int .i64 cy, .int .i64 cz] 33), (.cells #[.int .i64 dx, .int .i64 dy, .int .i64 dz] 33)] 1 rfl
    have kb2 : ((((w.alloc (.cells #[.int .i64 ax, .int .i64 ay, .int .i64 az] 33)).alloc (.cells #[.int .i64 bx, .int .i64 by_, .int .i64 bz] 33)).alloc (.cells #[.int .i64 cx, .int .i64 cy, .int .i64 cz] 33)).alloc (.cells #[.int .i64 dx, .int .i64 dy, .int .i64 dz] 33)).heap[w.heap.size + 2]? = some (.cells #[.int .i64 cx, .int .i64 cy, .int .i64 cz] 33) := allocs_at w [(.cells #[.int .i64 ax, .int .i64 ay, .int .i64 az] 33), (.cells #[.int .i64 bx, .int .i64 by_, .int .i64 bz] 33), (.cells #[.int .i64 cx, .int .i64 cy, .int .i64 cz] 33), (.cells #[.int .i64 dx, .int .i64 dy, .int .i64 dz] 33)] 2 rfl
    have kb3 : ((((w.alloc (.cells #[.int .i64 ax, .int .i64 ay, .int .i64 az] 33)).alloc (.cells #[.int .i64 bx, .int .i64 by_, .int .i64 bz] 33)).alloc (.cells #[.int .i64 cx, .int .i64 cy, .int .i64 cz] 33)).alloc (.cells #[.int .i64 dx, .int .i64 dy, .int .i64 dz] 33)).heap[w.heap.size + 3]? = some (.cells #[.int .i64 dx, .int .i64 dy, .int .i64 dz] 33) := allocs_at w [(.cells #[.int .i64 ax, .int .i64 ay, .int .i64 az] 33), (.cells #[.int .i64 bx, .int .i64 by_, .int .i64 bz] 33), (.cells #[.int .i64 cx, .int .i64 cy, .int .i64 cz] 33), (.cells #[.int .i64 dx, .int .i64 dy, .int .i64 dz] 33)] 3 rfl
    generalize ((((w.alloc (.cells #[.int .i64 ax, .int .i64 ay, .int .i64 az] 33)).alloc (.cells #[.int .i64 bx, .int .i64 by_, .int .i64 bz] 33)).alloc (.cells #[.int .i64 cx, .int .i64 cy, .int .i64 cz] 33)).alloc (.cells #[.int .i64 dx, .int .i64 dy, .int .i64 dz] 33)) = w0 at *
    have k0_0 : w0.cell? ⟨w.heap.size, 0, none⟩ = some (.int .i64 ax) := (Blk.cell kb0 0).trans rfl
    have k0_1 : w0.cell? ⟨w.heap.size, 1, none⟩ = some (.int .i64 ay) := (Blk.cell kb0 1).trans rfl
    have k0_2 : w0.cell? ⟨w.heap.size, 2, none⟩ = some (.int .i64 az) := (Blk.cell kb0 2).trans rfl
    have k1_0 : w0.cell? ⟨w.heap.size + 1, 0, none⟩ = some (.int .i64 bx) := (Blk.cell kb1 0).trans rfl
    have k1_1 : w0.cell? ⟨w.heap.size + 1, 1, none⟩ = some (.int .i64 by_) := (Blk.cell kb1 1).trans rfl
    have k1_2 : w0.cell? ⟨w.heap.size + 1, 2, none⟩ = some (.int .i64 bz) := (Blk.cell kb1 2).trans rfl
    have k2_0 : w0.cell? ⟨w.heap.size + 1 + 1, 0, none⟩ = some (.int .i64 cx) := (Blk.cell kb2 0).trans rfl
    have k2_1 : w0.cell? ⟨w.heap.size + 1 + 1, 1, none⟩ = some (.int .i64 cy) := (Blk.cell kb2 1).trans rfl
    have k2_2 : w0.cell? ⟨w.heap.size + 1 + 1, 2, none⟩ = some (.int .i64 cz) := (Blk.cell kb2 2).trans rfl
    have k3_0 : w0.cell? ⟨w.heap.size + 1 + 1 + 1, 0, none⟩ = some (.int .i64 dx) := (Blk.cell kb3 0).trans rfl
    have k3_1 : w0.cell? ⟨w.heap.size + 1 + 1 + 1, 1, none⟩ = some (.int .i64 dy) := (Blk.cell kb3 1).trans rfl
    have k3_2 : w0.cell? ⟨w.heap.size + 1 + 1 + 1, 2, none⟩ = some (.int .i64 dz) := (Blk.cell kb3 2).trans rfl
    clear kb0 kb1 kb2 kb3
    have SK : ∀ w', Below w0.heap.size w0 w' → Below w0.heap.size w0 w' ∧ w'.cell? ⟨w.heap.size, 0, none⟩ = some (.int .i64 ax) ∧ w'.cell? ⟨w.heap.size, 1, none⟩ = some (.int .i64 ay) ∧ w'.cell? ⟨w.heap.size, 2, none⟩ = some (.int .i64 az) ∧ w'.cell? ⟨w.heap.size + 1, 0, none⟩ = some (.int .i64 bx) ∧ w'.cell? ⟨w.heap.size + 1, 1, none⟩ = some (.int .i64 by_) ∧ w'.cell? ⟨w.heap.size + 1, 2, none⟩ = some (.int .i64 bz) ∧ w'.cell? ⟨w.heap.size + 1 + 1, 0, none⟩ = some (.int .i64 cx) ∧ w'.cell? ⟨w.heap.size + 1 + 1, 1, none⟩ = some (.int .i64 cy) ∧ w'.cell? ⟨w.heap.size + 1 + 1, 2, none⟩ = some (.int .i64 cz) ∧ w'.cell? ⟨w.heap.size + 1 + 1 + 1, 0, none⟩ = some (.int .i64 dx) ∧ w'.cell? ⟨w.heap.size + 1 + 1 + 1, 1, none⟩ = some (.int .i64 dy) ∧ w'.cell? ⟨w.heap.size + 1 + 1 + 1, 2, none⟩ = some (.int .i64 dz) := fun w' h => ⟨h, (bcell h _ _ (by omega)).trans k0_0, (bcell h _ _ (by omega)).trans k0_1, (bcell h _ _ (by omega)).trans k0_2, (bcell h _ _ (by omega)).trans k1_0, (bcell h _ _ (by omega)).trans k1_1, (bcell h _ _ (by omega)).trans k1_2, (bcell h _ _ (by omega)).trans k2_0, (bcell h _ _ (by omega)).trans k2_1, (bcell h _ _ (by omega)).trans k2_2, (bcell h _ _ (by omega)).trans k3_0, (bcell h _ _ (by omega)).trans k3_1, (bcell h _ _ (by omega)).trans k3_2⟩
    go_wp2_with fail
    refine (alls_any _ _ [(ax, ay, az), (bx, by_, bz), (cx, cy, cz), (dx, dy, dz)] (Sps4 w0 (ax, ay, az) (bx, by_, bz) (cx, cy, cz) (dx, dy, dz) _ _) (by simp)).mono ?_
    rintro e w1 ⟨rfl, hb1⟩
    have hb1' := (allocs_below w0 [_]).trans (hb1.mono (by simp))
    rw [hchk]
    have hL1 : Below w0.heap.size w0 w1 := hb1'
    obtain ⟨-, c1_0, c1_1, c1_2, c1_3, c1_4, c1_5, c1_6, c1_7, c1_8, c1_9, c1_10, c1_11⟩ := SK _ hL1
    go_wp2_with fail
    go_ret2
    exact ⟨rfl, hb0.trans (hL1.mono hb0.size)⟩

theorem cmp_sign (x : Int) : Lib.compareInt x 0 = Int.sign x := by
  unfold Lib.compareInt
  rcases Int.lt_trichotomy x 0 with h | h | h
  · rw [if_pos h, Int.sign_eq_neg_one_of_neg h]
  · subst h; rfl
  · rw [if_neg (by omega), if_pos (by omega), Int.sign_eq_one_of_pos h]

set_option maxRecDepth 100000 in
set_option maxHeartbeats 1000000 in
theorem Side_any (w : World) (ax ay bx by_ cx cy : Int) :
    Calls Tryz.prog 38 #[.agg #[.int .i64 ax, .int .i64 ay], .agg #[.int .i64 bx, .int .i64 by_], .agg #[.int .i64 cx, .int .i64 cy]] w fun e w' => e = .returned (R2 (Int.sign ((bx - ax) * (cy - ay) - (by_ - ay) * (cx - ax))) (Co ax ∧ Co ay ∧ Co bx ∧ Co by_ ∧ Co cx ∧ Co cy)) ∧ Below w.heap.size w w' := by
  generalize hV : (bx - ax) * (cy - ay) - (by_ - ay) * (cx - ax) = V
  by_cases hok : Co ax ∧ Co ay ∧ Co bx ∧ Co by_ ∧ Co cx ∧ Co cy
  · rw [R2_pos _ hok]
    go_enter Tryz.func38, Tryz.ntmps38
    go_upto_region 1 with (fail)
    have hb0 : Below w.heap.size w (((w.alloc (.cells #[.int .i64 ax, .int .i64 ay] 23)).alloc (.cells #[.int .i64 bx, .int .i64 by_] 23)).alloc (.cells #[.int .i64 cx, .int .i64 cy] 23)) := allocs_below w [(.cells #[.int .i64 ax, .int .i64 ay] 23), (.cells #[.int .i64 bx, .int .i64 by_] 23), (.cells #[.int .i64 cx, .int .i64 cy] 23)]
    have s0 : w.heap.size + 3 ≤ (((w.alloc (.cells #[.int .i64 ax, .int .i64 ay] 23)).alloc (.cells #[.int .i64 bx, .int .i64 by_] 23)).alloc (.cells #[.int .i64 cx, .int .i64 cy] 23)).heap.size := Nat.le_of_eq (allocs_size w [(.cells #[.int .i64 ax, .int .i64 ay] 23), (.cells #[.int .i64 bx, .int .i64 by_] 23), (.cells #[.int .i64 cx, .int .i64 cy] 23)]).symm
    have kb0 : (((w.alloc (.cells #[.int .i64 ax, .int .i64 ay] 23)).alloc (.cells #[.int .i64 bx, .int .i64 by_] 23)).alloc (.cells #[.int .i64 cx, .int .i64 cy] 23)).heap[w.heap.size + 0]? = some (.cells #[.int .i64 ax, .int .i64 ay] 23) := allocs_at w [(.cells #[.int .i64 ax, .int .i64 ay] 23), (.cells #[.int .i64 bx, .int .i64 by_] 23), (.cells #[.int .i64 cx, .int .i64 cy] 23)] 0 rfl
    have kb1 : (((w.alloc (.cells #[.int .i64 ax, .int .i64 ay] 23)).alloc (.cells #[.int .i64 bx, .int .i64 by_] 23)).alloc (.cells #[.int .i64 cx, .int .i64 cy] 23)).heap[w.heap.size + 1]? = some (.cells #[.int .i64 bx, .int .i64 by_] 23) := allocs_at w [(.cells #[.int .i64 ax, .int .i64 ay] 23), (.cells #[.int .i64 bx, .int .i64 by_] 23), (.cells #[.int .i64 cx, .int .i64 cy] 23)] 1 rfl
    have kb2 : (((w.alloc (.cells #[.int .i64 ax, .int .i64 ay] 23)).alloc (.cells #[.int .i64 bx, .int .i64 by_] 23)).alloc (.cells #[.int .i64 cx, .int .i64 cy] 23)).heap[w.heap.size + 2]? = some (.cells #[.int .i64 cx, .int .i64 cy] 23) := allocs_at w [(.cells #[.int .i64 ax, .int .i64 ay] 23), (.cells #[.int .i64 bx, .int .i64 by_] 23), (.cells #[.int .i64 cx, .int .i64 cy] 23)] 2 rfl
    generalize (((w.alloc (.cells #[.int .i64 ax, .int .i64 ay] 23)).alloc (.cells #[.int .i64 bx, .int .i64 by_] 23)).alloc (.cells #[.int .i64 cx, .int .i64 cy] 23)) = w0 at *
    have k0_0 : w0.cell? ⟨w.heap.size, 0, none⟩ = some (.int .i64 ax) := (Blk.cell kb0 0).trans rfl
    have k0_1 : w0.cell? ⟨w.heap.size, 1, none⟩ = some (.int .i64 ay) := (Blk.cell kb0 1).trans rfl
    have k1_0 : w0.cell? ⟨w.heap.size + 1, 0, none⟩ = some (.int .i64 bx) := (Blk.cell kb1 0).trans rfl
    have k1_1 : w0.cell? ⟨w.heap.size + 1, 1, none⟩ = some (.int .i64 by_) := (Blk.cell kb1 1).trans rfl
    have k2_0 : w0.cell? ⟨w.heap.size + 1 + 1, 0, none⟩ = some (.int .i64 cx) := (Blk.cell kb2 0).trans rfl
    have k2_1 : w0.cell? ⟨w.heap.size + 1 + 1, 1, none⟩ = some (.int .i64 cy) := (Blk.cell kb2 1).trans rfl
    clear kb0 kb1 kb2
    have SK : ∀ w', Below w0.heap.size w0 w' → Below w0.heap.size w0 w' ∧ w'.cell? ⟨w.heap.size, 0, none⟩ = some (.int .i64 ax) ∧ w'.cell? ⟨w.heap.size, 1, none⟩ = some (.int .i64 ay) ∧ w'.cell? ⟨w.heap.size + 1, 0, none⟩ = some (.int .i64 bx) ∧ w'.cell? ⟨w.heap.size + 1, 1, none⟩ = some (.int .i64 by_) ∧ w'.cell? ⟨w.heap.size + 1 + 1, 0, none⟩ = some (.int .i64 cx) ∧ w'.cell? ⟨w.heap.size + 1 + 1, 1, none⟩ = some (.int .i64 cy) := fun w' h => ⟨h, (bcell h _ _ (by omega)).trans k0_0, (bcell h _ _ (by omega)).trans k0_1, (bcell h _ _ (by omega)).trans k1_0, (bcell h _ _ (by omega)).trans k1_1, (bcell h _ _ (by omega)).trans k2_0, (bcell h _ _ (by omega)).trans k2_1⟩
    go_wp2_with fail
    refine (Cross_any _ ax ay bx by_ cx cy).mono ?_
    rintro e w1 ⟨rfl, hb1⟩
    have hL1 : Below w0.heap.size w0 w1 := hb1
    obtain ⟨-, c1_0, c1_1, c1_2, c1_3, c1_4, c1_5⟩ := SK _ hL1
    rw [hV, R2_pos _ hok]
    go_wp2_with fail
    refine (Tryz.cmp_Compare_int V 0 _).mono ?_
    rintro e w2 ⟨rfl, rfl⟩
    rw [cmp_sign]
    go_wp2_with fail
    go_ret2
    exact ⟨rfl, hb0.trans (hL1.mono hb0.size)⟩
  · rw [R2_neg _ hok]
    go_enter Tryz.func38, Tryz.ntmps38
    go_upto_region 1 with (fail)
    have hb0 : Below w.heap.size w (((w.alloc (.cells #[.int .i64 ax, .int .i64 ay] 23)).alloc (.cells #[.int .i64 bx, .int .i64 by_] 23)).alloc (.cells #[.int .i64 cx, .int .i64 cy] 23)) := allocs_below w [(.cells #[.int .i64 ax, .int .i64 ay] 23), (.cells #[.int .i64 bx, .int .i64 by_] 23), (.cells #[.int .i64 cx, .int .i64 cy] 23)]
    have s0 : w.heap.size + 3 ≤ (((w.alloc (.cells #[.int .i64 ax, .int .i64 ay] 23)).alloc (.cells #[.int .i64 bx, .int .i64 by_] 23)).alloc (.cells #[.int .i64 cx, .int .i64 cy] 23)).heap.size := Nat.le_of_eq (allocs_size w [(.cells #[.int .i64 ax, .int .i64 ay] 23), (.cells #[.int .i64 bx, .int .i64 by_] 23), (.cells #[.int .i64 cx, .int .i64 cy] 23)]).symm
    have kb0 : (((w.alloc (.cells #[.int .i64 ax, .int .i64 ay] 23)).alloc (.cells #[.int .i64 bx, .int .i64 by_] 23)).alloc (.cells #[.int .i64 cx, .int .i64 cy] 23)).heap[w.heap.size + 0]? = some (.cells #[.int .i64 ax, .int .i64 ay] 23) := allocs_at w [(.cells #[.int .i64 ax, .int .i64 ay] 23), (.cells #[.int .i64 bx, .int .i64 by_] 23), (.cells #[.int .i64 cx, .int .i64 cy] 23)] 0 rfl
    have kb1 : (((w.alloc (.cells #[.int .i64 ax, .int .i64 ay] 23)).alloc (.cells #[.int .i64 bx, .int .i64 by_] 23)).alloc (.cells #[.int .i64 cx, .int .i64 cy] 23)).heap[w.heap.size + 1]? = some (.cells #[.int .i64 bx, .int .i64 by_] 23) := allocs_at w [(.cells #[.int .i64 ax, .int .i64 ay] 23), (.cells #[.int .i64 bx, .int .i64 by_] 23), (.cells #[.int .i64 cx, .int .i64 cy] 23)] 1 rfl
    have kb2 : (((w.alloc (.cells #[.int .i64 ax, .int .i64 ay] 23)).alloc (.cells #[.int .i64 bx, .int .i64 by_] 23)).alloc (.cells #[.int .i64 cx, .int .i64 cy] 23)).heap[w.heap.size + 2]? = some (.cells #[.int .i64 cx, .int .i64 cy] 23) := allocs_at w [(.cells #[.int .i64 ax, .int .i64 ay] 23), (.cells #[.int .i64 bx, .int .i64 by_] 23), (.cells #[.int .i64 cx, .int .i64 cy] 23)] 2 rfl
    generalize (((w.alloc (.cells #[.int .i64 ax, .int .i64 ay] 23)).alloc (.cells #[.int .i64 bx, .int .i64 by_] 23)).alloc (.cells #[.int .i64 cx, .int .i64 cy] 23)) = w0 at *
    have k0_0 : w0.cell? ⟨w.heap.size, 0, none⟩ = some (.int .i64 ax) := (Blk.cell kb0 0).trans rfl
    have k0_1 : w0.cell? ⟨w.heap.size, 1, none⟩ = some (.int .i64 ay) := (Blk.cell kb0 1).trans rfl
    have k1_0 : w0.cell? ⟨w.heap.size + 1, 0, none⟩ = some (.int .i64 bx) := (Blk.cell kb1 0).trans rfl
    have k1_1 : w0.cell? ⟨w.heap.size + 1, 1, none⟩ = some (.int .i64 by_) := (Blk.cell kb1 1).trans rfl
    have k2_0 : w0.cell? ⟨w.heap.size + 1 + 1, 0, none⟩ = some (.int .i64 cx) := (Blk.cell kb2 0).trans rfl
    have k2_1 : w0.cell? ⟨w.heap.size + 1 + 1, 1, none⟩ = some (.int .i64 cy) := (Blk.cell kb2 1).trans rfl
    clear kb0 kb1 kb2
    have SK : ∀ w', Below w0.heap.size w0 w' → Below w0.heap.size w0 w' ∧ w'.cell? ⟨w.heap.size, 0, none⟩ = some (.int .i64 ax) ∧ w'.cell? ⟨w.heap.size, 1, none⟩ = some (.int .i64 ay) ∧ w'.cell? ⟨w.heap.size + 1, 0, none⟩ = some (.int .i64 bx) ∧ w'.cell? ⟨w.heap.size + 1, 1, none⟩ = some (.int .i64 by_) ∧ w'.cell? ⟨w.heap.size + 1 + 1, 0, none⟩ = some (.int .i64 cx) ∧ w'.cell? ⟨w.heap.size + 1 + 1, 1, none⟩ = some (.int .i64 cy) := fun w' h => ⟨h, (bcell h _ _ (by omega)).trans k0_0, (bcell h _ _ (by omega)).trans k0_1, (bcell h _ _ (by omega)).trans k1_0, (bcell h _ _ (by omega)).trans k1_1, (bcell h _ _ (by omega)).trans k2_0, (bcell h _ _ (by omega)).trans k2_1⟩
    go_wp2_with fail
    refine (Cross_any _ ax ay bx by_ cx cy).mono ?_
    rintro e w1 ⟨rfl, hb1⟩
    have hL1 : Below w0.heap.size w0 w1 := hb1
    obtain ⟨-, c1_0, c1_1, c1_2, c1_3, c1_4, c1_5⟩ := SK _ hL1
    rw [hV, R2_neg _ hok]
    go_wp2_with fail
    refine (Tryz.cmp_Compare_int 0 0 _).mono ?_
    rintro e w2 ⟨rfl, rfl⟩
    rw [cmp_sign]
    go_wp2_with fail
    go_ret2
    exact ⟨rfl, hb0.trans (hL1.mono hb0.size)⟩

set_option maxRecDepth 100000 in
theorem rsignum_any (w : World) (x : Int) : Calls Tryz.prog 88 #[.int .i64 x] w fun e w' => e = .returned (.int .i64 (Int.sign x)) ∧ w = w' := by
  go_enter Tryz.func88, Tryz.ntmps88
  rcases Int.lt_trichotomy x 0 with h | h | h
  · rw [Int.sign_eq_neg_one_of_neg h]
    go_wp2_with fail
    go_ret
    exact ⟨rfl, rfl⟩
  · subst h
    go_wp2_with fail
    go_ret
    exact ⟨rfl, rfl⟩
  · rw [Int.sign_eq_one_of_pos h]
    have h2 : ¬ x < 0 := by omega
    go_wp2_with fail
    go_ret
    exact ⟨rfl, rfl⟩

set_option maxRecDepth 100000 in
set_option maxHeartbeats 1000000 in
theorem rpair_any (w : World) (ax ay bx by_ : Int) :
    Calls Tryz.prog 84 #[.agg #[.int .i64 ax, .int .i64 ay], .agg #[.int .i64 bx, .int .i64 by_]] w fun e w' => e = .returned (.int .i64 (if Co ax ∧ Co ay ∧ Co bx ∧ Co by_ then 0 else 2)) ∧ Below w.heap.size w w' := by
  by_cases g0 : Co ax ∧ Co ay
  · have e0 := decide_eq_true g0
    by_cases g1 : Co bx ∧ Co by_
    · have e1 := decide_eq_true g1
      have hok : Co ax ∧ Co ay ∧ Co bx ∧ Co by_ := ⟨g0.1, g0.2, g1.1, g1.2⟩
      rw [if_pos hok]
      go_enter Tryz.func84, Tryz.ntmps84
      go_upto_region 1 with (fail)
      have hb0 : Below w.heap.size w ((w.alloc (.cells #[.int .i64 ax, .int .i64 ay] 23)).alloc (.cells #[.int .i64 bx, .int .i64 by_] 23)) := allocs_below w [(.cells #[.int .i64 ax, .int .i64 ay] 23), (.cells #[.int .i64 bx, .int .i64 by_] 23)]
      have s0 : w.heap.size + 2 ≤ ((w.alloc (.cells #[.int .i64 ax, .int .i64 ay] 23)).alloc (.cells #[.int .i64 bx, .int .i64 by_] 23)).heap.size := Nat.le_of_eq (allocs_size w [(.cells #[.int .i64 ax, .int .i64 ay] 23), (.cells #[.int .i64 bx, .int .i64 by_] 23)]).symm
      have kb0 : ((w.alloc (.cells #[.int .i64 ax, .int .i64 ay] 23)).alloc (.cells #[.int .i64 bx, .int .i64 by_] 23)).heap[w.heap.size + 0]? = some (.cells #[.int .i64 ax, .int .i64 ay] 23) := allocs_at w [(.cells #[.int .i64 ax, .int .i64 ay] 23), (.cells #[.int .i64 bx, .int .i64 by_] 23)] 0 rfl
      have kb1 : ((w.alloc (.cells #[.int .i64 ax, .int .i64 ay] 23)).alloc (.cells #[.int .i64 bx, .int .i64 by_] 23)).heap[w.heap.size + 1]? = some (.cells #[.int .i64 bx, .int .i64 by_] 23) := allocs_at w [(.cells #[.int .i64 ax, .int .i64 ay] 23), (.cells #[.int .i64 bx, .int .i64 by_] 23)] 1 rfl
      generalize ((w.alloc (.cells #[.int .i64 ax, .int .i64 ay] 23)).alloc (.cells #[.int .i64 bx, .int .i64 by_] 23)) = w0 at *
      have k0_0 : w0.cell? ⟨w.heap.size, 0, none⟩ = some (.int .i64 ax) := (Blk.cell kb0 0).trans rfl
      have k0_1 : w0.cell? ⟨w.heap.size, 1, none⟩ = some (.int .i64 ay) := (Blk.cell kb0 1).trans rfl
      have k1_0 : w0.cell? ⟨w.heap.size + 1, 0, none⟩ = some (.int .i64 bx) := (Blk.cell kb1 0).trans rfl
      have k1_1 : w0.cell? ⟨w.heap.size + 1, 1, none⟩ = some (.int .i64 by_) := (Blk.cell kb1 1).trans rfl
      clear kb0 kb1
      have SK : ∀ w', Below w0.heap.size w0 w' → Below w0.heap.size w0 w' ∧ w'.cell? ⟨w.heap.size, 0, none⟩ = some (.int .i64 ax) ∧ w'.cell? ⟨w.heap.size, 1, none⟩ = some (.int .i64 ay) ∧ w'.cell? ⟨w.heap.size + 1, 0, none⟩ = some (.int .i64 bx) ∧ w'.cell? ⟨w.heap.size + 1, 1, none⟩ = some (.int .i64 by_) := fun w' h => ⟨h, (bcell h _ _ (by omega)).trans k0_0, (bcell h _ _ (by omega)).trans k0_1, (bcell h _ _ (by omega)).trans k1_0, (bcell h _ _ (by omega)).trans k1_1⟩
      go_wp2_with fail
      refine (rright_any _ ax ay).mono ?_
      rintro e w1 ⟨rfl, hb1⟩
      have hL1 : Below w0.heap.size w0 w1 := hb1
      obtain ⟨-, c1_0, c1_1, c1_2, c1_3⟩ := SK _ hL1
      go_wp2_with fail
      refine (rright_any _ bx by_).mono ?_
      rintro e w2 ⟨rfl, hb2⟩
      have hL2 : Below w0.heap.size w0 w2 := hL1.trans (hb2.mono hL1.size)
      obtain ⟨-, c2_0, c2_1, c2_2, c2_3⟩ := SK _ hL2
      go_wp2_with fail
      go_ret
      exact ⟨rfl, hb0.trans (hL2.mono hb0.size)⟩
    · have e1 := decide_eq_false g1
      have hok : ¬ (Co ax ∧ Co ay ∧ Co bx ∧ Co by_) := fun h => g1 ⟨h.2.2.1, h.2.2.2⟩
      rw [if_neg hok]
      go_enter Tryz.func84, Tryz.ntmps84
      go_upto_region 1 with (fail)
      have hb0 : Below w.heap.size w ((w.alloc (.cells #[.int .i64 ax, .int .i64 ay] 23)).alloc (.cells #[.int .i64 bx, .int .i64 by_] 23)) := allocs_below w [(.cells #[.int .i64 ax, .int .i64 ay] 23), (.cells #[.int .i64 bx, .int .i64 by_] 23)]
      have s0 : w.heap.size + 2 ≤ ((w.alloc (.cells #[.int .i64 ax, .int .i64 ay] 23)).alloc (.cells #[.int .i64 bx, .int .i64 by_] 23)).heap.size := Nat.le_of_eq (allocs_size w [(.cells #[.int .i64 ax, .int .i64 ay] 23), (.cells #[.int .i64 bx, .int .i64 by_] 23)]).symm
      have kb0 : ((w.alloc (.cells #[.int .i64 ax, .int .i64 ay] 23)).alloc (.cells #[.int .i64 bx, .int .i64 by_] 23)).heap[w.heap.size + 0]? = some (.cells #[.int .i64 ax, .int .i64 ay] 23) := allocs_at w [(.cells #[.int .i64 ax, .int .i64 ay] 23), (.cells #[.int .i64 bx, .int .i64 by_] 23)] 0 rfl
      have kb1 : ((w.alloc (.cells #[.int .i64 ax, .int .i64 ay] 23)).alloc (.cells #[.int .i64 bx, .int .i64 by_] 23)).heap[w.heap.size + 1]? = some (.cells #[.int .i64 bx, .int .i64 by_] 23) := allocs_at w [(.cells #[.int .i64 ax, .int .i64 ay] 23), (.cells #[.int .i64 bx, .int .i64 by_] 23)] 1 rfl
      generalize ((w.alloc (.cells #[.int .i64 ax, .int .i64 ay] 23)).alloc (.cells #[.int .i64 bx, .int .i64 by_] 23)) = w0 at *
      have k0_0 : w0.cell? ⟨w.heap.size, 0, none⟩ = some (.int .i64 ax) := (Blk.cell kb0 0).trans rfl
      have k0_1 : w0.cell? ⟨w.heap.size, 1, none⟩ = some (.int .i64 ay) := (Blk.cell kb0 1).trans rfl
      have k1_0 : w0.cell? ⟨w.heap.size + 1, 0, none⟩ = some (.int .i64 bx) := (Blk.cell kb1 0).trans rfl
      have k1_1 : w0.cell? ⟨w.heap.size + 1, 1, none⟩ = some (.int .i64 by_) := (Blk.cell kb1 1).trans rfl
      clear kb0 kb1
      have SK : ∀ w', Below w0.heap.size w0 w' → Below w0.heap.size w0 w' ∧ w'.cell? ⟨w.heap.size, 0, none⟩ = some (.int .i64 ax) ∧ w'.cell? ⟨w.heap.size, 1, none⟩ = some (.int .i64 ay) ∧ w'.cell? ⟨w.heap.size + 1, 0, none⟩ = some (.int .i64 bx) ∧ w'.cell? ⟨w.heap.size + 1, 1, none⟩ = some (.int .i64 by_) := fun w' h => ⟨h, (bcell h _ _ (by omega)).trans k0_0, (bcell h _ _ (by omega)).trans k0_1, (bcell h _ _ (by omega)).trans k1_0, (bcell h _ _ (by omega)).trans k1_1⟩
      go_wp2_with fail
      refine (rright_any _ ax ay).mono ?_
      rintro e w1 ⟨rfl, hb1⟩
      have hL1 : Below w0.heap.size w0 w1 := hb1
      obtain ⟨-, c1_0, c1_1, c1_2, c1_3⟩ := SK _ hL1
      go_wp2_with fail
      refine (rright_any _ bx by_).mono ?_
      rintro e w2 ⟨rfl, hb2⟩
      have hL2 : Below w0.heap.size w0 w2 := hL1.trans (hb2.mono hL1.size)
      obtain ⟨-, c2_0, c2_1, c2_2, c2_3⟩ := SK _ hL2
      go_wp2_with fail
      go_ret
      exact ⟨rfl, hb0.trans (hL2.mono hb0.size)⟩
  · have e0 := decide_eq_false g0
    have hok : ¬ (Co ax ∧ Co ay ∧ Co bx ∧ Co by_) := fun h => g0 ⟨h.1, h.2.1⟩
    rw [if_neg hok]
    go_enter Tryz.func84, Tryz.ntmps84
    go_upto_region 1 with (fail)
    have hb0 : Below w.heap.size w ((w.alloc (.cells #[.int .i64 ax, .int .i64 ay] 23)).alloc (.cells #[.int .i64 bx, .int .i64 by_] 23)) := allocs_below w [(.cells #[.int .i64 ax, .int .i64 ay] 23), (.cells #[.int .i64 bx, .int .i64 by_] 23)]
    have s0 : w.heap.size + 2 ≤ ((w.alloc (.cells #[.int .i64 ax, .int .i64 ay] 23)).alloc (.cells #[.int .i64 bx, .int .i64 by_] 23)).heap.size := Nat.le_of_eq (allocs_size w [(.cells #[.int .i64 ax, .int .i64 ay] 23), (.cells #[.int .i64 bx, .int .i64 by_] 23)]).symm
    have kb0 : ((w.alloc (.cells #[.int .i64 ax, .int .i64 ay] 23)).alloc (.cells #[.int .i64 bx, .int .i64 by_] 23)).heap[w.heap.size + 0]? = some (.cells #[.int .i64 ax, .int .i64 ay] 23) := allocs_at w [(.cells #[.int .i64 ax, .int .i64 ay] 23), (.cells #[.int .i64 bx, .int .i64 by_] 23)] 0 rfl
    have kb1 : ((w.alloc (.cells #[.int .i64 ax, .int .i64 ay] 23)).alloc (.cells #[.int .i64 bx, .int .i64 by_] 23)).heap[w.heap.size + 1]? = some (.cells #[.int .i64 bx, .int .i64 by_] 23) := allocs_at w [(.cells #[.int .i64 ax, .int .i64 ay] 23), (.cells #[.int .i64 bx, .int .i64 by_] 23)] 1 rfl
    generalize ((w.alloc (.cells #[.int .i64 ax, .int .i64 ay] 23)).alloc (.cells #[.int .i64 bx, .int .i64 by_] 23)) = w0 at *
    have k0_0 : w0.cell? ⟨w.heap.size, 0, none⟩ = some (.int .i64 ax) := (Blk.cell kb0 0).trans rfl
    have k0_1 : w0.cell? ⟨w.heap.size, 1, none⟩ = some (.int .i64 ay) := (Blk.cell kb0 1).trans rfl
    have k1_0 : w0.cell? ⟨w.heap.size + 1, 0, none⟩ = some (.int .i64 bx) := (Blk.cell kb1 0).trans rfl
    have k1_1 : w0.cell? ⟨w.heap.size + 1, 1, none⟩ = some (.int .i64 by_) := (Blk.cell kb1 1).trans rfl
    clear kb0 kb1
    have SK : ∀ w', Below w0.heap.size w0 w' → Below w0.heap.size w0 w' ∧ w'.cell? ⟨w.heap.size, 0, none⟩ = some (.int .i64 ax) ∧ w'.cell? ⟨w.heap.size, 1, none⟩ = some (.int .i64 ay) ∧ w'.cell? ⟨w.heap.size + 1, 0, none⟩ = some (.int .i64 bx) ∧ w'.cell? ⟨w.heap.size + 1, 1, none⟩ = some (.int .i64 by_) := fun w' h => ⟨h, (bcell h _ _ (by omega)).trans k0_0, (bcell h _ _ (by omega)).trans k0_1, (bcell h _ _ (by omega)).trans k1_0, (bcell h _ _ (by omega)).trans k1_1⟩
    go_wp2_with fail
    refine (rright_any _ ax ay).mono ?_
    rintro e w1 ⟨rfl, hb1⟩
    have hL1 : Below w0.heap.size w0 w1 := hb1
    obtain ⟨-, c1_0, c1_1, c1_2, c1_3⟩ := SK _ hL1
    go_wp2_with fail
    go_ret
    exact ⟨rfl, hb0.trans (hL1.mono hb0.size)⟩

set_option maxRecDepth 100000 in
set_option maxHeartbeats 1000000 in
theorem rthree_any (w : World) (ax ay bx by_ cx cy : Int) :
    Calls Tryz.prog 61 #[.agg #[.int .i64 ax, .int .i64 ay], .agg #[.int .i64 bx, .int .i64 by_], .agg #[.int .i64 cx, .int .i64 cy]] w fun e w' => e = .returned (.int .i64 (if Co ax ∧ Co ay ∧ Co bx ∧ Co by_ ∧ Co cx ∧ Co cy then 0 else 2)) ∧ Below w.heap.size w w' := by
  by_cases g0 : Co ax ∧ Co ay
  · have e0 := decide_eq_true g0
    by_cases g1 : Co bx ∧ Co by_
    · have e1 := decide_eq_true g1
      by_cases g2 : Co cx ∧ Co cy
      · have e2 := decide_eq_true g2
        have hok : Co ax ∧ Co ay ∧ Co bx ∧ Co by_ ∧ Co cx ∧ Co cy := ⟨g0.1, g0.2, g1.1, g1.2, g2.1, g2.2⟩
        rw [if_pos hok]
        go_enter Tryz.func61, Tryz.ntmps61
        go_upto_region 1 with (fail)
        have hb0 : Below w.heap.size w (((w.alloc (.cells #[.int .i64 ax, .int .i64 ay] 23)).alloc (.cells #[.int .i64 bx, .int .i64 by_] 23)).alloc (.cells #[.int .i64 cx, .int .i64 cy] 23)) := allocs_below w [(.cells #[.int .i64 ax, .int .i64 ay] 23), (.cells #[.int .i64 bx, .int .i64 by_] 23), (.cells #[.int .i64 cx, .int .i64 cy] 23)]
        have s0 : w.heap.size + 3 ≤ (((w.alloc (.cells #[.int .i64 ax, .int .i64 ay] 23)).alloc (.cells #[.int .i64 bx, .int .i64 by_] 23)).alloc (.cells #[.int .i64 cx, .int .i64 cy] 23)).heap.size := Nat.le_of_eq (allocs_size w [(.cells #[.int .i64 ax, .int .i64 ay] 23), (.cells #[.int .i64 bx, .int .i64 by_] 23), (.cells #[.int .i64 cx, .int .i64 cy] 23)]).symm
        have kb0 : (((w.alloc (.cells #[.int .i64 ax, .int .i64 ay] 23)).alloc (.cells #[.int .i64 bx, .int .i64 by_] 23)).alloc (.cells #[.int .i64 cx, .int .i64 cy] 23)).heap[w.heap.size + 0]? = some (.cells #[.int .i64 ax, .int .i64 ay] 23) := allocs_at w [(.cells #[.int .i64 ax, .int .i64 ay] 23), (.cells #[.int .i64 bx, .int .i64 by_] 23), (.cells #[.int .i64 cx, .int .i64 cy] 23)] 0 rfl
        have kb1 : (((w.alloc (.cells #[.int .i64 ax, .int .i64 ay] 23)).alloc (.cells #[.int .i64 bx, .int .i64 by_] 23)).alloc (.cells #[.int .i64 cx, .int .i64 cy] 23)).heap[w.heap.size + 1]? = some (.cells #[.int .i64 bx, .int .i64 by_] 23) := allocs_at w [(.cells #[.int .i64 ax, .int .i64 ay] 23), (.cells #[.int .i64 bx, .int .i64 by_] 23), (.cells #[.int .i64 cx, .int .i64 cy] 23)] 1 rfl
        have kb2 : (((w.alloc (.cells #[.int .i64 ax, .int .i64 ay] 23)).alloc (.cells #[.int .i64 bx, .int .i64 by_] 23)).alloc (.cells #[.int .i64 cx, .int .i64 cy] 23)).heap[w.heap.size + 2]? = some (.cells #[.int .i64 cx, .int .i64 cy] 23) := allocs_at w [(.cells #[.int .i64 ax, .int .i64 ay] 23), (.cells #[.int .i64 bx, .int .i64 by_] 23), (.cells #[.int .i64 cx, .int .i64 cy] 23)] 2 rfl
        generalize (((w.alloc (.cells #[.int .i64 ax, .int .i64 ay] 23)).alloc (.cells #[.int .i64 bx, .int .i64 by_] 23)).alloc (.cells #[.int .i64 cx, .int .i64 cy] 23)) = w0 at *
        have k0_0 : w0.cell? ⟨w.heap.size, 0, none⟩ = some (.int .i64 ax) := (Blk.cell kb0 0).trans rfl
        have k0_1 : w0.cell? ⟨w.heap.size, 1, none⟩ = some (.int .i64 ay) := (Blk.cell kb0 1).trans rfl
        have k1_0 : w0.cell? ⟨w.heap.size + 1, 0, none⟩ = some (.int .i64 bx) := (Blk.cell kb1 0).trans rfl
        have k1_1 : w0.cell? ⟨w.heap.size + 1, 1, none⟩ = some (.int .i64 by_) := (Blk.cell kb1 1).trans rfl
        have k2_0 : w0.cell? ⟨w.heap.size + 1 + 1, 0, none⟩ = some (.int .i64 cx) := (Blk.cell kb2 0).trans rfl
        have k2_1 : w0.cell? ⟨w.heap.size + 1 + 1, 1, none⟩ = some (.int .i64 cy) := (Blk.cell kb2 1).trans rfl
        clear kb0 kb1 kb2
        have SK : ∀ w', Below w0.heap.size w0 w' → Below w0.heap.size w0 w' ∧ w'.cell? ⟨w.heap.size, 0, none⟩ = some (.int .i64 ax) ∧ w'.cell? ⟨w.heap.size, 1, none⟩ = some (.int .i64 ay) ∧ w'.cell? ⟨w.heap.size + 1, 0, none⟩ = some (.int .i64 bx) ∧ w'.cell? ⟨w.heap.size + 1, 1, none⟩ = some (.int .i64 by_) ∧ w'.cell? ⟨w.heap.size + 1 + 1, 0, none⟩ = some (.int .i64 cx) ∧ w'.cell? ⟨w.heap.size + 1 + 1, 1, none⟩ = some (.int .i64 cy) := fun w' h => ⟨h, (bcell h _ _ (by omega)).trans k0_0, (bcell h _ _ (by omega)).trans k0_1, (bcell h _ _ (by omega)).trans k1_0, (bcell h _ _ (by omega)).trans k1_1, (bcell h _ _ (by omega)).trans k2_0, (bcell h _ _ (by omega)).trans k2_1⟩
        go_wp2_with fail
        refine (rright_any _ ax ay).mono ?_
        rintro e w1 ⟨rfl, hb1⟩
        have hL1 : Below w0.heap.size w0 w1 := hb1
        obtain ⟨-, c1_0, c1_1, c1_2, c1_3, c1_4, c1_5⟩ := SK _ hL1
        go_wp2_with fail
        refine (rright_any _ bx by_).mono ?_
        rintro e w2 ⟨rfl, hb2⟩
        have hL2 : Below w0.heap.size w0 w2 := hL1.trans (hb2.mono hL1.size)
        obtain ⟨-, c2_0, c2_1, c2_2, c2_3, c2_4, c2_5⟩ := SK _ hL2
        go_wp2_with fail
        refine (rright_any _ cx cy).mono ?_
        rintro e w3 ⟨rfl, hb3⟩
        have hL3 : Below w0.heap.size w0 w3 := hL2.trans (hb3.mono hL2.size)
        obtain ⟨-, c3_0, c3_1, c3_2, c3_3, c3_4, c3_5⟩ := SK _ hL3
        go_wp2_with fail
        go_ret
        exact ⟨rfl, hb0.trans (hL3.mono hb0.size)⟩
      · have e2 := decide_eq_false g2
        have hok : ¬ (Co ax ∧ Co ay ∧ Co bx ∧ Co by_ ∧ Co cx ∧ Co cy) := fun h => g2 ⟨h.2.2.2.2.1, h.2.2.2.2.2⟩
        rw [if_neg hok]
        go_enter Tryz.func61, Tryz.ntmps61
        go_upto_region 1 with (fail)
        have hb0 : Below w.heap.size w (((w.alloc (.cells #[.int .i64 ax, .int .i64 ay] 23)).alloc (.cells #[.int .i64 bx, .int .i64 by_] 23)).alloc (.cells #[.int .i64 cx, .int .i64 cy] 23)) := allocs_below w [(.cells #[.int .i64 ax, .int .i64 ay] 23), (.cells #[.int .i64 bx, .int .i64 by_] 23), (.cells #[.int .i64 cx, .int .i64 cy] 23)]
        have s0 : w.heap.size + 3 ≤ (((w.alloc (.cells #[.int .i64 ax, .int .i64 ay] 23)).alloc (.cells #[.int .i64 bx, .int .i64 by_] 23)).alloc (.cells #[.int .i64 cx, .int .i64 cy] 23)).heap.size := Nat.le_of_eq (allocs_size w [(.cells #[.int .i64 ax, .int .i64 ay] 23), (.cells #[.int .i64 bx, .int .i64 by_] 23), (.cells #[.int .i64 cx, .int .i64 cy] 23)]).symm
        have kb0 : (((w.alloc (.cells #[.int .i64 ax, .int .i64 ay] 23)).alloc (.cells #[.int .i64 bx, .int .i64 by_] 23)).alloc (.cells #[.int .i64 cx, .int .i64 cy] 23)).heap[w.heap.size + 0]? = some (.cells #[.int .i64 ax, .int .i64 ay] 23) := allocs_at w [(.cells #[.int .i64 ax, .int .i64 ay] 23), (.cells #[.int .i64 bx, .int .i64 by_] 23), (.cells #[.int .i64 cx, .int .i64 cy] 23)] 0 rfl
        have kb1 : (((w.alloc (.cells #[.int .i64 ax, .int .i64 ay] 23)).alloc (.cells #[.int .i64 bx, .int .i64 by_] 23)).alloc (.cells #[.int .i64 cx, .int .i64 cy] 23)).heap[w.heap.size + 1]? = some (.cells #[.int .i64 bx, .int .i64 by_] 23) := allocs_at w [(.cells #[.int .i64 ax, .int .i64 ay] 23), (.cells #[.int .i64 bx, .int .i64 by_] 23), (.cells #[.int .i64 cx, .int .i64 cy] 23)] 1 rfl
        have kb2 : (((w.alloc (.cells #[.int .i64 ax, .int .i64 ay] 23)).alloc (.cells #[.int .i64 bx, .int .i64 by_] 23)).alloc (.cells #[.int .i64 cx, .int .i64 cy] 23)).heap[w.heap.size + 2]? = some (.cells #[.int .i64 cx, .int .i64 cy] 23) := allocs_at w [(.cells #[.int .i64 ax, .int .i64 ay] 23), (.cells #[.int .i64 bx, .int .i64 by_] 23), (.cells #[.int .i64 cx, .int .i64 cy] 23)] 2 rfl
        generalize (((w.alloc (.cells #[.int .i64 ax, .int .i64 ay] 23)).alloc (.cells #[.int .i64 bx, .int .i64 by_] 23)).alloc (.cells #[.int .i64 cx, .int .i64 cy] 23)) = w0 at *
        have k0_0 : w0.cell? ⟨w.heap.size, 0, none⟩ = some (.int .i64 ax) := (Blk.cell kb0 0).trans rfl
        have k0_1 : w0.cell? ⟨w.heap.size, 1, none⟩ = some (.int .i64 ay) := (Blk.cell kb0 1).trans rfl
        have k1_0 : w0.cell? ⟨w.heap.size + 1, 0, none⟩ = some (.int .i64 bx) := (Blk.cell kb1 0).trans rfl
        have k1_1 : w0.cell? ⟨w.heap.size + 1, 1, none⟩ = some (.int .i64 by_) := (Blk.cell kb1 1).trans rfl
        have k2_0 : w0.cell? ⟨w.heap.size + 1 + 1, 0, none⟩ = some (.int .i64 cx) := (Blk.cell kb2 0).trans rfl
        have k2_1 : w0.cell? ⟨w.heap.size + 1 + 1, 1, none⟩ = some (.int .i64 cy) := (Blk.cell kb2 1).trans rfl
        clear kb0 kb1 kb2
        have SK : ∀ w', Below w0.heap.size w0 w' → Below w0.heap.size w0 w' ∧ w'.cell? ⟨w.heap.size, 0, none⟩ = some (.int .i64 ax) ∧ w'.cell? ⟨w.heap.size, 1, none⟩ = some (.int .i64 ay) ∧ w'.cell? ⟨w.heap.size + 1, 0, none⟩ = some (.int .i64 bx) ∧ w'.cell? ⟨w.heap.size + 1, 1, none⟩ = some (.int .i64 by_) ∧ w'.cell? ⟨w.heap.size + 1 + 1, 0, none⟩ = some (.int .i64 cx) ∧ w'.cell? ⟨w.heap.size + 1 + 1, 1, none⟩ = some (.int .i64 cy) := fun w' h => ⟨h, (bcell h _ _ (by omega)).trans k0_0, (bcell h _ _ (by omega)).trans k0_1, (bcell h _ _ (by omega)).trans k1_0, (bcell h _ _ (by omega)).trans k1_1, (bcell h _ _ (by omega)).trans k2_0, (bcell h _ _ (by omega)).trans k2_1⟩
        go_wp2_with fail
        refine (rright_any _ ax ay).mono ?_
        rintro e w1 ⟨rfl, hb1⟩
        have hL1 : Below w0.heap.size w0 w1 := hb1
        obtain ⟨-, c1_0, c1_1, c1_2, c1_3, c1_4, c1_5⟩ := SK _ hL1
        go_wp2_with fail
        refine (rright_any _ bx by_).mono ?_
        rintro e w2 ⟨rfl, hb2⟩
        have hL2 : Below w0.heap.size w0 w2 := hL1.trans (hb2.mono hL1.size)
        obtain ⟨-, c2_0, c2_1, c2_2, c2_3, c2_4, c2_5⟩ := SK _ hL2
        go_wp2_with fail
        refine (rright_any _ cx cy).mono ?_
        rintro e w3 ⟨rfl, hb3⟩
        have hL3 : Below w0.heap.size w0 w3 := hL2.trans (hb3.mono hL2.size)
        obtain ⟨-, c3_0, c3_1, c3_2, c3_3, c3_4, c3_5⟩ := SK _ hL3
        go_wp2_with fail
        go_ret
        exact ⟨rfl, hb0.trans (hL3.mono hb0.size)⟩
    · have e1 := decide_eq_false g1
      have hok : ¬ (Co ax ∧ Co ay ∧ Co bx ∧ Co by_ ∧ Co cx ∧ Co cy) := fun h => g1 ⟨h.2.2.1, h.2.2.2.1⟩
      rw [if_neg hok]
      go_enter Tryz.func61, Tryz.ntmps61
      go_upto_region 1 with (fail)
      have hb0 : Below w.heap.size w (((w.alloc (.cells #[.int .i64 ax, .int .i64 ay] 23)).alloc (.cells #[.int .i64 bx, .int .i64 by_] 23)).alloc (.cells #[.int .i64 cx, .int .i64 cy] 23)) := allocs_below w [(.cells #[.int .i64 ax, .int .i64 ay] 23), (.cells #[.int .i64 bx, .int .i64 by_] 23), (.cells #[.int .i64 cx, .int .i64 cy] 23)]
      have s0 : w.heap.size + 3 ≤ (((w.alloc (.cells #[.int .i64 ax, .int .i64 ay] 23)).alloc (.cells #[.int .i64 bx, .int .i64 by_] 23)).alloc (.cells #[.int .i64 cx, .int .i64 cy] 23)).heap.size := Nat.le_of_eq (allocs_size w [(.cells #[.int .i64 ax, .int .i64 ay] 23), (.cells #[.int .i64 bx, .int .i64 by_] 23), (.cells #[.int .i64 cx, .int .i64 cy] 23)]).symm
      have kb0 : (((w.alloc (.cells #[.int .i64 ax, .int .i64 ay] 23)).alloc (.cells #[.int .i64 bx, .int .i64 by_] 23)).alloc (.cells #[.int .i64 cx, .int .i64 cy] 23)).heap[w.heap.size + 0]? = some (.cells #[.int .i64 ax, .int .i64 ay] 23) := allocs_at w [(.cells #[.int .i64 ax, .int .i64 ay] 23), (.cells #[.int .i64 bx, .int .i64 by_] 23), (.cells #[.int .i64 cx, .int .i64 cy] 23)] 0 rfl
      have kb1 : (((w.alloc (.cells #[.int .i64 ax, .int .i64 ay] 23)).alloc (.cells #[.int .i64 bx, .int .i64 by_] 23)).alloc (.cells #[.int .i64 cx, .int .i64 cy] 23)).heap[w.heap.size + 1]? = some (.cells #[.int .i64 bx, .int .i64 by_] 23) := allocs_at w [(.cells #[.int .i64 ax, .int .i64 ay] 23), (.cells #[.int .i64 bx, .int .i64 by_] 23), (.cells #[.int .i64 cx, .int .i64 cy] 23)] 1 rfl
      have kb2 : (((w.alloc (.cells #[.int .i64 ax, .int .i64 ay] 23)).alloc (.cells #[.int .i64 bx, .int .i64 by_] 23)).alloc (.cells #[.int .i64 cx, .int .i64 cy] 23)).heap[w.heap.size + 2]? = some (.cells #[.int .i64 cx, .int .i64 cy] 23) := allocs_at w [(.cells #[.int .i64 ax, .int .i64 ay] 23), (.cells #[.int .i64 bx, .int .i64 by_] 23), (.cells #[.int .i64 cx, .int .i64 cy] 23)] 2 rfl
      generalize (((w.alloc (.cells #[.int .i64 ax, .int .i64 ay] 23)).alloc (.cells #[.int .i64 bx, .int .i64 by_] 23)).alloc (.cells #[.int .i64 cx, .int .i64 cy] 23)) = w0 at *
      have k0_0 : w0.cell? ⟨w.heap.size, 0, none⟩ = some (.int .i64 ax) := (Blk.cell kb0 0).trans rfl
      have k0_1 : w0.cell? ⟨w.heap.size, 1, none⟩ = some (.int .i64 ay) := (Blk.cell kb0 1).trans rfl
      have k1_0 : w0.cell? ⟨w.heap.size + 1, 0, none⟩ = some (.int .i64 bx) := (Blk.cell kb1 0).trans rfl
      have k1_1 : w0.cell? ⟨w.heap.size + 1, 1, none⟩ = some (.int .i64 by_) := (Blk.cell kb1 1).trans rfl
      have k2_0 : w0.cell? ⟨w.heap.size + 1 + 1, 0, none⟩ = some (.int .i64 cx) := (Blk.cell kb2 0).trans rfl
      have k2_1 : w0.cell? ⟨w.heap.size + 1 + 1, 1, none⟩ = some (.int .i64 cy) := (Blk.cell kb2 1).trans rfl
      clear kb0 kb1 kb2
      have SK : ∀ w', Below w0.heap.size w0 w' → Below w0.heap.size w0 w' ∧ w'.cell? ⟨w.heap.size, 0, none⟩ = some (.int .i64 ax) ∧ w'.cell? ⟨w.heap.size, 1, none⟩ = some (.int .i64 ay) ∧ w'.cell? ⟨w.heap.size + 1, 0, none⟩ = some (.int .i64 bx) ∧ w'.cell? ⟨w.heap.size + 1, 1, none⟩ = some (.int .i64 by_) ∧ w'.cell? ⟨w.heap.size + 1 + 1, 0, none⟩ = some (.int .i64 cx) ∧ w'.cell? ⟨w.heap.size + 1 + 1, 1, none⟩ = some (.int .i64 cy) := fun w' h => ⟨h, (bcell h _ _ (by omega)).trans k0_0, (bcell h _ _ (by omega)).trans k0_1, (bcell h _ _ (by omega)).trans k1_0, (bcell h _ _ (by omega)).trans k1_1, (bcell h _ _ (by omega)).trans k2_0, (bcell h _ _ (by omega)).trans k2_1⟩
      go_wp2_with fail
      refine (rright_any _ ax ay).mono ?_
      rintro e w1 ⟨rfl, hb1⟩
      have hL1 : Below w0.heap.size w0 w1 := hb1
      obtain ⟨-, c1_0, c1_1, c1_2, c1_3, c1_4, c1_5⟩ := SK _ hL1
      go_wp2_with fail
      refine (rright_any _ bx by_).mono ?_
      rintro e w2 ⟨rfl, hb2⟩
      have hL2 : Below w0.heap.size w0 w2 := hL1.trans (hb2.mono hL1.size)
      obtain ⟨-, c2_0, c2_1, c2_2, c2_3, c2_4, c2_5⟩ := SK _ hL2
      go_wp2_with fail
      go_ret
      exact ⟨rfl, hb0.trans (hL2.mono hb0.size)⟩
  · have e0 := decide_eq_false g0
    have hok : ¬ (Co ax ∧ Co ay ∧ Co bx ∧ Co by_ ∧ Co cx ∧ Co cy) := fun h => g0 ⟨h.1, h.2.1⟩
    rw [if_neg hok]
    go_enter Tryz.func61, Tryz.ntmps61
    go_upto_region 1 with (fail)
    have hb0 : Below w.heap.size w (((w.alloc (.cells #[.int .i64 ax, .int .i64 ay] 23)).alloc (.cells #[.int .i64 bx, .int .i64 by_] 23)).alloc (.cells #[.int .i64 cx, .int .i64 cy] 23)) := allocs_below w [(.cells #[.int .i64 ax, .int .i64 ay] 23), (.cells #[.int .i64 bx, .int .i64 by_] 23), (.cells #[.int .i64 cx, .int .i64 cy] 23)]
    have s0 : w.heap.size + 3 ≤ (((w.alloc (.cells #[.int .i64 ax, .int .i64 ay] 23)).alloc (.cells #[.int .i64 bx, .int .i64 by_] 23)).alloc (.cells #[.int .i64 cx, .int .i64 cy] 23)).heap.size := Nat.le_of_eq (allocs_size w [(.cells #[.int .i64 ax, .int .i64 ay] 23), (.cells #[.int .i64 bx, .int .i64 by_] 23), (.cells #[.int .i64 cx, .int .i64 cy] 23)]).symm
    have kb0 : (((w.alloc (.cells #[.int .i64 ax, .int .i64 ay] 23)).alloc (.cells #[.int .i64 bx, .int .i64 by_] 23)).alloc (.cells #[.int .i64 cx, .int .i64 cy] 23)).heap[w.heap.size + 0]? = some (.cells #[.int .i64 ax, .int .i64 ay] 23) := allocs_at w [(.cells #[.int .i64 ax, .int .i64 ay] 23), (.cells #[.int .i64 bx, .int .i64 by_] 23), (.cells #[.int .i64 cx, .int .i64 cy] 23)] 0 rfl
    have kb1 : (((w.alloc (.cells #[.int .i64 ax, .int .i64 ay] 23)).alloc (.cells #[.int .i64 bx, .int .i64 by_] 23)).alloc (.cells #[.int .i64 cx, .int .i64 cy] 23)).heap[w.heap.size + 1]? = some (.cells #[.int .i64 bx, .int .i64 by_] 23) := allocs_at w [(.cells #[.int .i64 ax, .int .i64 ay] 23), (.cells #[.int .i64 bx, .int .i64 by_] 23), (.cells #[.int .i64 cx, .int .i64 cy] 23)] 1 rfl
    have kb2 : (((w.alloc (.cells #[.int .i64 ax, .int .i64 ay] 23)).alloc (.cells #[.int .i64 bx, .int .i64 by_] 23)).alloc (.cells #[.int .i64 cx, .int .i64 cy] 23)).heap[w.heap.size + 2]? = some (.cells #[.int .i64 cx, .int .i64 cy] 23) := allocs_at w [(.cells #[.int .i64 ax, .int .i64 ay] 23), (.cells #[.int .i64 bx, .int .i64 by_] 23), (.cells #[.int .i64 cx, .int .i64 cy] 23)] 2 rfl
    generalize (((w.alloc (.cells #[.int .i64 ax, .int .i64 ay] 23)).alloc (.cells #[.int .i64 bx, .int .i64 by_] 23)).alloc (.cells #[.int .i64 cx, .int .i64 cy] 23)) = w0 at *
    have k0_0 : w0.cell? ⟨w.heap.size, 0, none⟩ = some (.int .i64 ax) := (Blk.cell kb0 0).trans rfl
    have k0_1 : w0.cell? ⟨w.heap.size, 1, none⟩ = some (.int .i64 ay) := (Blk.cell kb0 1).trans rfl
    have k1_0 : w0.cell? ⟨w.heap.size + 1, 0, none⟩ = some (.int .i64 bx) := (Blk.cell kb1 0).trans rfl
    have k1_1 : w0.cell? ⟨w.heap.size + 1, 1, none⟩ = some (.int .i64 by_) := (Blk.cell kb1 1).trans rfl
    have k2_0 : w0.cell? ⟨w.heap.size + 1 + 1, 0, none⟩ = some (.int .i64 cx) := (Blk.cell kb2 0).trans rfl
    have k2_1 : w0.cell? ⟨w.heap.size + 1 + 1, 1, none⟩ = some (.int .i64 cy) := (Blk.cell kb2 1).trans rfl
    clear kb0 kb1 kb2
    have SK : ∀ w', Below w0.heap.size w0 w' → Below w0.heap.size w0 w' ∧ w'.cell? ⟨w.heap.size, 0, none⟩ = some (.int .i64 ax) ∧ w'.cell? ⟨w.heap.size, 1, none⟩ = some (.int .i64 ay) ∧ w'.cell? ⟨w.heap.size + 1, 0, none⟩ = some (.int .i64 bx) ∧ w'.cell? ⟨w.heap.size + 1, 1, none⟩ = some (.int .i64 by_) ∧ w'.cell? ⟨w.heap.size + 1 + 1, 0, none⟩ = some (.int .i64 cx) ∧ w'.cell? ⟨w.heap.size + 1 + 1, 1, none⟩ = some (.int .i64 cy) := fun w' h => ⟨h, (bcell h _ _ (by omega)).trans k0_0, (bcell h _ _ (by omega)).trans k0_1, (bcell h _ _ (by omega)).trans k1_0, (bcell h _ _ (by omega)).trans k1_1, (bcell h _ _ (by omega)).trans k2_0, (bcell h _ _ (by omega)).trans k2_1⟩
    go_wp2_with fail
    refine (rright_any _ ax ay).mono ?_
    rintro e w1 ⟨rfl, hb1⟩
    have hL1 : Below w0.heap.size w0 w1 := hb1
    obtain ⟨-, c1_0, c1_1, c1_2, c1_3, c1_4, c1_5⟩ := SK _ hL1
    go_wp2_with fail
    go_ret
    exact ⟨rfl, hb0.trans (hL1.mono hb0.size)⟩

set_option maxRecDepth 100000 in
set_option maxHeartbeats 1000000 in
theorem rleft_any (w : World) (ax ay bx by_ cx cy : Int) (hax : Co ax) (hay : Co ay) (hbx : Co bx) (hby_ : Co by_) (hcx : Co cx) (hcy : Co cy) :
    Calls Tryz.prog 86 #[.agg #[.int .i64 ax, .int .i64 ay], .agg #[.int .i64 bx, .int .i64 by_], .agg #[.int .i64 cx, .int .i64 cy]] w fun e w' => e = .returned (.int .i64 ((bx - ax) * (cy - ay) - (by_ - ay) * (cx - ax))) ∧ Below w.heap.size w w' := by
  go_enter Tryz.func86, Tryz.ntmps86
  go_upto_region 1 with (fail)
  have hb0 : Below w.heap.size w (((w.alloc (.cells #[.int .i64 ax, .int .i64 ay] 23)).alloc (.cells #[.int .i64 bx, .int .i64 by_] 23)).alloc (.cells #[.int .i64 cx, .int .i64 cy] 23)) := allocs_below w [(.cells #[.int .i64 ax, .int .i64 ay] 23), (.cells #[.int .i64 bx, .int .i64 by_] 23), (.cells #[.int .i64 cx, .int .i64 cy] 23)]
  have s0 : w.heap.size + 3 ≤ (((w.alloc (.cells #[.int .i64 ax, .int .i64 ay] 23)).alloc (.cells #[.int .i64 bx, .int .i64 by_] 23)).alloc (.cells #[.int .i64 cx, .int .i64 cy] 23)).heap.size := Nat.le_of_eq (allocs_size w [(.cells #[.int .i64 ax, .int .i64 ay] 23), (.cells #[.int .i64 bx, .int .i64 by_] 23), (.cells #[.int .i64 cx, .int .i64 cy] 23)]).symm
  have kb0 : (((w.alloc (.cells #[.int .i64 ax, .int .i64 ay] 23)).alloc (.cells #[.int .i64 bx, .int .i64 by_] 23)).alloc (.cells #[.int .i64 cx, .int .i64 cy] 23)).heap[w.heap.size + 0]? = some (.cells #[.int .i64 ax, .int .i64 ay] 23) := allocs_at w [(.cells #[.int .i64 ax, .int .i64 ay] 23), (.cells #[.int .i64 bx, .int .i64 by_] 23), (.cells #[.int .i64 cx, .int .i64 cy] 23)] 0 rfl
  have kb1 : (((w.alloc (.cells #[.int .i64 ax, .int .i64 ay] 23)).alloc (.cells #[.int .i64 bx, .int .i64 by_] 23)).alloc (.cells #[.int .i64 cx, .int .i64 cy] 23)).heap[w.heap.size + 1]? = some (.cells #[.int .i64 bx, .int .i64 by_] 23) := allocs_at w [(.cells #[.int .i64 ax, .int .i64 ay] 23), (.cells #[.int .i64 bx, .int .i64 by_] 23), (.cells #[.int .i64 cx, .int .i64 cy] 23)] 1 rfl
  have kb2 : (((w.alloc (.cells #[.int .i64 ax, .int .i64 ay] 23)).alloc (.cells #[.int .i64 bx, .int .i64 by_] 23)).alloc (.cells #[.int .i64 cx, .int .i64 cy] 23)).heap[w.heap.size + 2]? = some (.cells #[.int .i64 cx, .int .i64 cy] 23) := allocs_at w [(.cells #[.int .i64 ax, .int .i64 ay] 23), (.cells #[.int .i64 bx, .int .i64 by_] 23), (.cells #[.int .i64 cx, .int .i64 cy] 23)] 2 rfl
  generalize (((w.alloc (.cells #[.int .i64 ax, .int .i64 ay] 23)).alloc (.cells #[.int .i64 bx, .int .i64 by_] 23)).alloc (.cells #[.int .i64 cx, .int .i64 cy] 23)) = w0 at *
  have k0_0 : w0.cell? ⟨w.heap.size, 0, none⟩ = some (.int .i64 ax) := (Blk.cell kb0 0).trans rfl
  have k0_1 : w0.cell? ⟨w.heap.size, 1, none⟩ = some (.int .i64 ay) := (Blk.cell kb0 1).trans rfl
  have k1_0 : w0.cell? ⟨w.heap.size + 1, 0, none⟩ = some (.int .i64 bx) := (Blk.cell kb1 0).trans rfl
  have k1_1 : w0.cell? ⟨w.heap.size + 1, 1, none⟩ = some (.int .i64 by_) := (Blk.cell kb1 1).trans rfl
  have k2_0 : w0.cell? ⟨w.heap.size + 1 + 1, 0, none⟩ = some (.int .i64 cx) := (Blk.cell kb2 0).trans rfl
  have k2_1 : w0.cell? ⟨w.heap.size + 1 + 1, 1, none⟩ = some (.int .i64 cy) := (Blk.cell kb2 1).trans rfl
  clear kb0 kb1 kb2
  have SK : ∀ w', Below w0.heap.size w0 w' → Below w0.heap.size w0 w' ∧ w'.cell? ⟨w.heap.size, 0, none⟩ = some (.int .i64 ax) ∧ w'.cell? ⟨w.heap.size, 1, none⟩ = some (.int .i64 ay) ∧ w'.cell? ⟨w.heap.size + 1, 0, none⟩ = some (.int .i64 bx) ∧ w'.cell? ⟨w.heap.size + 1, 1, none⟩ = some (.int .i64 by_) ∧ w'.cell? ⟨w.heap.size + 1 + 1, 0, none⟩ = some (.int .i64 cx) ∧ w'.cell? ⟨w.heap.size + 1 + 1, 1, none⟩ = some (.int .i64 cy) := fun w' h => ⟨h, (bcell h _ _ (by omega)).trans k0_0, (bcell h _ _ (by omega)).trans k0_1, (bcell h _ _ (by omega)).trans k1_0, (bcell h _ _ (by omega)).trans k1_1, (bcell h _ _ (by omega)).trans k2_0, (bcell h _ _ (by omega)).trans k2_1⟩
  go_region_held3 (fun w' => Below w0.heap.size w0 w' ∧ w'.cell? ⟨w.heap.size, 0, none⟩ = some (.int .i64 ax) ∧ w'.cell? ⟨w.heap.size, 1, none⟩ = some (.int .i64 ay) ∧ w'.cell? ⟨w.heap.size + 1, 0, none⟩ = some (.int .i64 bx) ∧ w'.cell? ⟨w.heap.size + 1, 1, none⟩ = some (.int .i64 by_) ∧ w'.cell? ⟨w.heap.size + 1 + 1, 0, none⟩ = some (.int .i64 cx) ∧ w'.cell? ⟨w.heap.size + 1 + 1, 1, none⟩ = some (.int .i64 cy)) (first | exact SK _ (Below.refl _ _).drew | exact SK _ (bel_next (by assumption) (by assumption) (Nat.le_refl _)))
    (first
      | (go_at_call_of 111 ((.agg #[.int .i64 bx, .int .i64 by_] : Value)); refine (rminus_any _ bx by_ ax ay hbx hby_ hax hay).mono ?_; rintro e wx ⟨rfl, hbW⟩)
      | (go_at_call_of 111 ((.agg #[.int .i64 cx, .int .i64 cy] : Value)); refine (rminus_any _ cx cy ax ay hcx hcy hax hay).mono ?_; rintro e wx ⟨rfl, hbW⟩)
      | (go_at_call 127; refine (rturn_any _ (bx - ax) (by_ - ay) (cx - ax) (cy - ay) (by omega) (by omega) (by omega) (by omega)).mono ?_; rintro e wx ⟨rfl, hbW⟩))
  go_wp2_with fail
  go_ret
  exact ⟨rfl, hb0.trans (Below.mono (And.left (by assumption)) hb0.size)⟩

set_option maxRecDepth 100000 in
set_option maxHeartbeats 1000000 in
theorem rfar_any (w : World) (ax ay bx by_ : Int) (hax : Co ax) (hay : Co ay) (hbx : Co bx) (hby_ : Co by_) :
    Calls Tryz.prog 89 #[.agg #[.int .i64 ax, .int .i64 ay], .agg #[.int .i64 bx, .int .i64 by_]] w fun e w' => e = .returned (.int .i64 ((ax - bx) * (ax - bx) + (ay - by_) * (ay - by_))) ∧ Below w.heap.size w w' := by
  go_enter Tryz.func89, Tryz.ntmps89
  go_upto_region 1 with (fail)
  have hb0 : Below w.heap.size w ((w.alloc (.cells #[.int .i64 ax, .int .i64 ay] 23)).alloc (.cells #[.int .i64 bx, .int .i64 by_] 23)) := allocs_below w [(.cells #[.int .i64 ax, .int .i64 ay] 23), (.cells #[.int .i64 bx, .int .i64 by_] 23)]
  have s0 : w.heap.size + 2 ≤ ((w.alloc (.cells #[.int .i64 ax, .int .i64 ay] 23)).alloc (.cells #[.int .i64 bx, .int .i64 by_] 23)).heap.size := Nat.le_of_eq (allocs_size w [(.cells #[.int .i64 ax, .int .i64 ay] 23), (.cells #[.int .i64 bx, .int .i64 by_] 23)]).symm
  have kb0 : ((w.alloc (.cells #[.int .i64 ax, .int .i64 ay] 23)).alloc (.cells #[.int .i64 bx, .int .i64 by_] 23)).heap[w.heap.size + 0]? = some (.cells #[.int .i64 ax, .int .i64 ay] 23) := allocs_at w [(.cells #[.int .i64 ax, .int .i64 ay] 23), (.cells #[.int .i64 bx, .int .i64 by_] 23)] 0 rfl
  have kb1 : ((w.alloc (.cells #[.int .i64 ax, .int .i64 ay] 23)).alloc (.cells #[.int .i64 bx, .int .i64 by_] 23)).heap[w.heap.size + 1]? = some (.cells #[.int .i64 bx, .int .i64 by_] 23) := allocs_at w [(.cells #[.int .i64 ax, .int .i64 ay] 23), (.cells #[.int .i64 bx, .int .i64 by_] 23)] 1 rfl
  generalize ((w.alloc (.cells #[.int .i64 ax, .int .i64 ay] 23)).alloc (.cells #[.int .i64 bx, .int .i64 by_] 23)) = w0 at *
  have k0_0 : w0.cell? ⟨w.heap.size, 0, none⟩ = some (.int .i64 ax) := (Blk.cell kb0 0).trans rfl
  have k0_1 : w0.cell? ⟨w.heap.size, 1, none⟩ = some (.int .i64 ay) := (Blk.cell kb0 1).trans rfl
  have k1_0 : w0.cell? ⟨w.heap.size + 1, 0, none⟩ = some (.int .i64 bx) := (Blk.cell kb1 0).trans rfl
  have k1_1 : w0.cell? ⟨w.heap.size + 1, 1, none⟩ = some (.int .i64 by_) := (Blk.cell kb1 1).trans rfl
  clear kb0 kb1
  have SK : ∀ w', Below w0.heap.size w0 w' → Below w0.heap.size w0 w' ∧ w'.cell? ⟨w.heap.size, 0, none⟩ = some (.int .i64 ax) ∧ w'.cell? ⟨w.heap.size, 1, none⟩ = some (.int .i64 ay) ∧ w'.cell? ⟨w.heap.size + 1, 0, none⟩ = some (.int .i64 bx) ∧ w'.cell? ⟨w.heap.size + 1, 1, none⟩ = some (.int .i64 by_) := fun w' h => ⟨h, (bcell h _ _ (by omega)).trans k0_0, (bcell h _ _ (by omega)).trans k0_1, (bcell h _ _ (by omega)).trans k1_0, (bcell h _ _ (by omega)).trans k1_1⟩
  go_region_held3 (fun w' => Below w0.heap.size w0 w' ∧ w'.cell? ⟨w.heap.size, 0, none⟩ = some (.int .i64 ax) ∧ w'.cell? ⟨w.heap.size, 1, none⟩ = some (.int .i64 ay) ∧ w'.cell? ⟨w.heap.size + 1, 0, none⟩ = some (.int .i64 bx) ∧ w'.cell? ⟨w.heap.size + 1, 1, none⟩ = some (.int .i64 by_)) (first | exact SK _ (Below.refl _ _).drew | exact SK _ (bel_next (by assumption) (by assumption) (Nat.le_refl _)))
    (first
      | (go_at_call 111; refine (rminus_any _ ax ay bx by_ hax hay hbx hby_).mono ?_; rintro e wx ⟨rfl, hbW⟩)
      | (go_at_call 85; refine (rtimes_any _ (ax - bx) (ay - by_) (ax - bx) (ay - by_) (by omega) (by omega) (by omega) (by omega)).mono ?_; rintro e wx ⟨rfl, hbW⟩))
  go_wp2_with fail
  go_ret
  exact ⟨rfl, hb0.trans (Below.mono (And.left (by assumption)) hb0.size)⟩

set_option maxRecDepth 100000 in
set_option maxHeartbeats 1000000 in
theorem rfars_any (w : World) (ax ay az bx by_ bz : Int) (hax : Co ax) (hay : Co ay) (haz : Co az) (hbx : Co bx) (hby_ : Co by_) (hbz : Co bz) :
    Calls Tryz.prog 74 #[.agg #[.int .i64 ax, .int .i64 ay, .int .i64 az], .agg #[.int .i64 bx, .int .i64 by_, .int .i64 bz]] w fun e w' => e = .returned (.int .i64 ((ax - bx) * (ax - bx) + (ay - by_) * (ay - by_) + (az - bz) * (az - bz))) ∧ Below w.heap.size w w' := by
  go_enter Tryz.func74, Tryz.ntmps74
  go_upto_region 1 with (fail)
  have hb0 : Below w.heap.size w ((w.alloc (.cells #[.int .i64 ax, .int .i64 ay, .int .i64 az] 33)).alloc (.cells #[.int .i64 bx, .int .i64 by_, .int .i64 bz] 33)) := allocs_below w [(.cells #[.int .i64 ax, .int .i64 ay, .int .i64 az] 33), (.cells #[.int .i64 bx, .int .i64 by_, .int .i64 bz] 33)]
  have s0 : w.heap.size + 2 ≤ ((w.alloc (.cells #[.int .i64 ax, .int .i64 ay, .int .i64 az] 33)).alloc (.cells #[.int .i64 bx, .int .i64 by_, .int .i64 bz] 33)).heap.size := Nat.le_of_eq (allocs_size w [(.cells #[.int .i64 ax, .int .i64 ay, .int .i64 az] 33), (.cells #[.int .i64 bx, .int .i64 by_, .int .i64 bz] 33)]).symm
  have kb0 : ((w.alloc (.cells #[.int .i64 ax, .int .i64 ay, .int .i64 az] 33)).alloc (.cells #[.int .i64 bx, .int .i64 by_, .int .i64 bz] 33)).heap[w.heap.size + 0]? = some (.cells #[.int .i64 ax, .int .i64 ay, .int .i64 az] 33) := allocs_at w [(.cells #[.int .i64 ax, .int .i64 ay, .int .i64 az] 33), (.cells #[.int .i64 bx, .int .i64 by_, .int .i64 bz] 33)] 0 rfl
  have kb1 : ((w.alloc (.cells #[.int .i64 ax, .int .i64 ay, .int .i64 az] 33)).alloc (.cells #[.int .i64 bx, .int .i64 by_, .int .i64 bz] 33)).heap[w.heap.size + 1]? = some (.cells #[.int .i64 bx, .int .i64 by_, .int .i64 bz] 33) := allocs_at w [(.cells #[.int .i64 ax, .int .i64 ay, .int .i64 az] 33), (.cells #[.int .i64 bx, .int .i64 by_, .int .i64 bz] 33)] 1 rfl
  generalize ((w.alloc (.cells #[.int .i64 ax, .int .i64 ay, .int .i64 az] 33)).alloc (.cells #[.int .i64 bx, .int .i64 by_, .int .i64 bz] 33)) = w0 at *
  have k0_0 : w0.cell? ⟨w.heap.size, 0, none⟩ = some (.int .i64 ax) := (Blk.cell kb0 0).trans rfl
  have k0_1 : w0.cell? ⟨w.heap.size, 1, none⟩ = some (.int .i64 ay) := (Blk.cell kb0 1).trans rfl
  have k0_2 : w0.cell? ⟨w.heap.size, 2, none⟩ = some (.int .i64 az) := (Blk.cell kb0 2).trans rfl
  have k1_0 : w0.cell? ⟨w.heap.size + 1, 0, none⟩ = some (.int .i64 bx) := (Blk.cell kb1 0).trans rfl
  have k1_1 : w0.cell? ⟨w.heap.size + 1, 1, none⟩ = some (.int .i64 by_) := (Blk.cell kb1 1).trans rfl
  have k1_2 : w0.cell? ⟨w.heap.size + 1, 2, none⟩ = some (.int .i64 bz) := (Blk.cell kb1 2).trans rfl
  clear kb0 kb1
  have SK : ∀ w', Below w0.heap.size w0 w' → Below w0.heap.size w0 w' ∧ w'.cell? ⟨w.heap.size, 0, none⟩ = some (.int .i64 ax) ∧ w'.cell? ⟨w.heap.size, 1, none⟩ = some (.int .i64 ay) ∧ w'.cell? ⟨w.heap.size, 2, none⟩ = some (.int .i64 az) ∧ w'.cell? ⟨w.heap.size + 1, 0, none⟩ = some (.int .i64 bx) ∧ w'.cell? ⟨w.heap.size + 1, 1, none⟩ = some (.int .i64 by_) ∧ w'.cell? ⟨w.heap.size + 1, 2, none⟩ = some (.int .i64 bz) := fun w' h => ⟨h, (bcell h _ _ (by omega)).trans k0_0, (bcell h _ _ (by omega)).trans k0_1, (bcell h _ _ (by omega)).trans k0_2, (bcell h _ _ (by omega)).trans k1_0, (bcell h _ _ (by omega)).trans k1_1, (bcell h _ _ (by omega)).trans k1_2⟩
  go_region_held3 (fun w' => Below w0.heap.size w0 w' ∧ w'.cell? ⟨w.heap.size, 0, none⟩ = some (.int .i64 ax) ∧ w'.cell? ⟨w.heap.size, 1, none⟩ = some (.int .i64 ay) ∧ w'.cell? ⟨w.heap.size, 2, none⟩ = some (.int .i64 az) ∧ w'.cell? ⟨w.heap.size + 1, 0, none⟩ = some (.int .i64 bx) ∧ w'.cell? ⟨w.heap.size + 1, 1, none⟩ = some (.int .i64 by_) ∧ w'.cell? ⟨w.heap.size + 1, 2, none⟩ = some (.int .i64 bz)) (first | exact SK _ (Below.refl _ _).drew | exact SK _ (bel_next (by assumption) (by assumption) (Nat.le_refl _)))
    (first
      | (go_at_call 115; refine (rless_any _ ax ay az bx by_ bz hax hay haz hbx hby_ hbz).mono ?_; rintro e wx ⟨rfl, hbW⟩)
      | (go_at_call 116; refine (rtimess_any _ (ax - bx) (ay - by_) (az - bz) (ax - bx) (ay - by_) (az - bz) (by omega) (by omega) (by omega) (by omega) (by omega) (by omega)).mono ?_; rintro e wx ⟨rfl, hbW⟩))
  go_wp2_with fail
  go_ret
  exact ⟨rfl, hb0.trans (Below.mono (And.left (by assumption)) hb0.size)⟩

set_option maxRecDepth 100000 in
set_option maxHeartbeats 1000000 in
theorem rsix_any (w : World) (ax ay az bx by_ bz cx cy cz dx dy dz : Int) (hax : Co ax) (hay : Co ay) (haz : Co az) (hbx : Co bx) (hby_ : Co by_) (hbz : Co bz) (hcx : Co cx) (hcy : Co cy) (hcz : Co cz) (hdx : Co dx) (hdy : Co dy) (hdz : Co dz) :
    Calls Tryz.prog 73 #[.agg #[.int .i64 ax, .int .i64 ay, .int .i64 az], .agg #[.int .i64 bx, .int .i64 by_, .int .i64 bz], .agg #[.int .i64 cx, .int .i64 cy, .int .i64 cz], .agg #[.int .i64 dx, .int .i64 dy, .int .i64 dz]] w fun e w' => e = .returned (.int .i64 (((by_ - ay) * (cz - az) - (bz - az) * (cy - ay)) * (dx - ax) + ((bz - az) * (cx - ax) - (bx - ax) * (cz - az)) * (dy - ay) + ((bx - ax) * (cy - ay) - (by_ - ay) * (cx - ax)) * (dz - az))) ∧ Below w.heap.size w w' := by
  obtain ⟨m0a, m0b⟩ := mulB (x := (by_ - ay)) (y := (cz - az)) (M := 200000) (N := 200000) (by omega) (by omega)
  obtain ⟨m1a, m1b⟩ := mulB (x := (bz - az)) (y := (cy - ay)) (M := 200000) (N := 200000) (by omega) (by omega)
  obtain ⟨m2a, m2b⟩ := mulB (x := (bz - az)) (y := (cx - ax)) (M := 200000) (N := 200000) (by omega) (by omega)
  obtain ⟨m3a, m3b⟩ := mulB (x := (bx - ax)) (y := (cz - az)) (M := 200000) (N := 200000) (by omega) (by omega)
  obtain ⟨m4a, m4b⟩ := mulB (x := (bx - ax)) (y := (cy - ay)) (M := 200000) (N := 200000) (by omega) (by omega)
  obtain ⟨m5a, m5b⟩ := mulB (x := (by_ - ay)) (y := (cx - ax)) (M := 200000) (N := 200000) (by omega) (by omega)
  have HN1 : Nf ((by_ - ay) * (cz - az) - (bz - az) * (cy - ay)) := by constructor <;> omega
  have HN2 : Nf ((bz - az) * (cx - ax) - (bx - ax) * (cz - az)) := by constructor <;> omega
  have HN3 : Nf ((bx - ax) * (cy - ay) - (by_ - ay) * (cx - ax)) := by constructor <;> omega
  clear m0a m0b m1a m1b m2a m2b m3a m3b m4a m4b m5a m5b
  go_enter Tryz.func73, Tryz.ntmps73
  go_upto_region 1 with (fail)
  have hb0 : Below w.heap.size w ((((w.alloc (.cells #[.int .i64 ax, .int .i64 ay, .int .i64 az] 33)).alloc (.cells #[.int .i64 bx, .int .i64 by_, .int .i64 bz] 33)).alloc (.cells #[.int .i64 cx, .int .i64 cy, .int .i64 cz] 33)).alloc (.cells #[.int .i64 dx, .int .i64 dy, .int .i64 dz] 33)) := allocs_below w [(.cells #[.int .i64 ax, .int .i64 ay, .int .i64 az] 33), (.cells #[.int .i64 bx, .int .i64 by_, .int .i64 bz] 33), (.cells #[.int .i64 cx, .int .i64 cy, .int .i64 cz] 33), (.cells #[.int .i64 dx, .int .i64 dy, .int .i64 dz] 33)]
  have s0 : w.heap.size + 4 ≤ ((((w.alloc (.cells #[.int .i64 ax, .int .i64 ay, .int .i64 az] 33)).alloc (.cells #[.int .i64 bx, .int .i64 by_, .int .i64 bz] 33)).alloc (.cells #[.int .i64 cx, .int .i64 cy, .int .i64 cz] 33)).alloc (.cells #[.int .i64 dx, .int .i64 dy, .int .i64 dz] 33)).heap.size := Nat.le_of_eq (allocs_size w [(.cells #[.int .i64 ax, .int .i64 ay, .int .i64 az] 33), (.cells #[.int .i64 bx, .int .i64 by_, .int .i64 bz] 33), (.cells #[.int .i64 cx, .int .i64 cy, .int .i64 cz] 33), (.cells #[.int .i64 dx, .int .i64 dy, .int .i64 dz] 33)]).symm
  have kb0 : ((((w.alloc (.cells #[.int .i64 ax, .int .i64 ay, .int .i64 az] 33)).alloc (.cells #[.int .i64 bx, .int .i64 by_, .int .i64 bz] 33)).alloc (.cells #[.int .i64 cx, .int .i64 cy, .int .i64 cz] 33)).alloc (.cells #[.int .i64 dx, .int .i64 dy, .int .i64 dz] 33)).heap[w.heap.size + 0]? = some (.cells #[.int .i64 ax, .int .i64 ay, .int .i64 az] 33) := allocs_at w [(.cells #[.int .i64 ax, .int .i64 ay, .int .i64 az] 33), (.cells #[.int .i64 bx, .int .i64 by_, .int .i64 bz] 33), (.cells #[.int .i64 cx, .int .i64 cy, .int .i64 cz] 33), (.cells #[.int .i64 dx, .int .i64 dy, .int .i64 dz] 33)] 0 rfl
  have kb1 : ((((w.alloc (.cells #[.int .i64 ax, .int .i64 ay, .int .i64 az] 33)).alloc (.cells #[.int .i64 bx, .int .i64 by_, .int .i64 bz] 33)).alloc (.cells #[.int .i64 cx, .int .i64 cy, .int .i64 cz] 33)).alloc (.cells #[.int .i64 dx, .int .i64 dy, .int .i64 dz] 33)).heap[w.heap.size + 1]? = some (.cells #[.int .i64 bx, .int .i64 by_, .int .i64 bz] 33) := allocs_at w [(.cells #[.int .i64 ax, .int .i64 ay, .int .i64 az] 33), (.cells #[.int .i64 bx, .int .i64 by_, .int .i64 bz] 33), (.cells #[.int .i64 cx, .int .i64 cy, .int .i64 cz] 33), (.cells #[.int .i64 dx, .int .i64 dy, .int .i64 dz] 33)] 1 rfl
  have kb2 : ((((w.alloc (.cells #[.int .i64 ax, .int .i64 ay, .int .i64 az] 33)).alloc (.cells #[.int .i64 bx, .int .i64 by_, .int .i64 bz] 33)).alloc (.cells #[.int .i64 cx, .int .i64 cy, .int .i64 cz] 33)).alloc (.cells #[.int .i64 dx, .int .i64 dy, .int .i64 dz] 33)).heap[w.heap.size + 2]? = some (.cells #[.int .i64 cx, .int .i64 cy, .int .i64 cz] 33) := allocs_at w [(.cells #[.int .i64 ax, .int .i64 ay, .int .i64 az] 33), (.cells #[.int .i64 bx, .int .i64 by_, .int .i64 bz] 33), (.cells #[.int .i64 cx, .int .i64 cy, .int .i64 cz] 33), (.cells #[.int .i64 dx, .int .i64 dy, .int .i64 dz] 33)] 2 rfl
  have kb3 : ((((w.alloc (.cells #[.int .i64 ax, .int .i64 ay, .int .i64 az] 33)).alloc (.cells #[.int .i64 bx, .int .i64 by_, .int .i64 bz] 33)).alloc (.cells #[.int .i64 cx, .int .i64 cy, .int .i64 cz] 33)).alloc (.cells #[.int .i64 dx, .int .i64 dy, .int .i64 dz] 33)).heap[w.heap.size + 3]? = some (.cells #[.int .i64 dx, .int .i64 dy, .int .i64 dz] 33) := allocs_at w [(.cells #[.int .i64 ax, .int .i64 ay, .int .i64 az] 33), (.cells #[.int .i64 bx, .int .i64 by_, .int .i64 bz] 33), (.cells #[.int .i64 cx, .int .i64 cy, .int .i64 cz] 33), (.cells #[.int .i64 dx, .int .i64 dy, .int .i64 dz] 33)] 3 rfl
  generalize ((((w.alloc (.cells #[.int .i64 ax, .int .i64 ay, .int .i64 az] 33)).alloc (.cells #[.int .i64 bx, .int .i64 by_, .int .i64 bz] 33)).alloc (.cells #[.int .i64 cx, .int .i64 cy, .int .i64 cz] 33)).alloc (.cells #[.int .i64 dx, .int .i64 dy, .int .i64 dz] 33)) = w0 at *
  have k0_0 : w0.cell? ⟨w.heap.size, 0, none⟩ = some (.int .i64 ax) := (Blk.cell kb0 0).trans rfl
  have k0_1 : w0.cell? ⟨w.heap.size, 1, none⟩ = some (.int .i64 ay) := (Blk.cell kb0 1).trans rfl
  have k0_2 : w0.cell? ⟨w.heap.size, 2, none⟩ = some (.int .i64 az) := (Blk.cell kb0 2).trans rfl
  have k1_0 : w0.cell? ⟨w.heap.size + 1, 0, none⟩ = some (.int .i64 bx) := (Blk.cell kb1 0).trans rfl
  have k1_1 : w0.cell? ⟨w.heap.size + 1, 1, none⟩ = some (.int .i64 by_) := (Blk.cell kb1 1).trans rfl
  have k1_2 : w0.cell? ⟨w.heap.size + 1, 2, none⟩ = some (.int .i64 bz) := (Blk.cell kb1 2).trans rfl
  have k2_0 : w0.cell? ⟨w.heap.size + 1 + 1, 0, none⟩ = some (.int .i64 cx) := (Blk.cell kb2 0).trans rfl
  have k2_1 : w0.cell? ⟨w.heap.size + 1 + 1, 1, none⟩ = some (.int .i64 cy) := (Blk.cell kb2 1).trans rfl
  have k2_2 : w0.cell? ⟨w.heap.size + 1 + 1, 2, none⟩ = some (.int .i64 cz) := (Blk.cell kb2 2).trans rfl
  have k3_0 : w0.cell? ⟨w.heap.size + 1 + 1 + 1, 0, none⟩ = some (.int .i64 dx) := (Blk.cell kb3 0).trans rfl
  have k3_1 : w0.cell? ⟨w.heap.size + 1 + 1 + 1, 1, none⟩ = some (.int .i64 dy) := (Blk.cell kb3 1).trans rfl
  have k3_2 : w0.cell? ⟨w.heap.size + 1 + 1 + 1, 2, none⟩ = some (.int .i64 dz) := (Blk.cell kb3 2).trans rfl
  clear kb0 kb1 kb2 kb3
  have SK : ∀ w', Below w0.heap.size w0 w' → Below w0.heap.size w0 w' ∧ w'.cell? ⟨w.heap.size, 0, none⟩ = some (.int .i64 ax) ∧ w'.cell? ⟨w.heap.size, 1, none⟩ = some (.int .i64 ay) ∧ w'.cell? ⟨w.heap.size, 2, none⟩ = some (.int .i64 az) ∧ w'.cell? ⟨w.heap.size + 1, 0, none⟩ = some (.int .i64 bx) ∧ w'.cell? ⟨w.heap.size + 1, 1, none⟩ = some (.int .i64 by_) ∧ w'.cell? ⟨w.heap.size + 1, 2, none⟩ = some (.int .i64 bz) ∧ w'.cell? ⟨w.heap.size + 1 + 1, 0, none⟩ = some (.int .i64 cx) ∧ w'.cell? ⟨w.heap.size + 1 + 1, 1, none⟩ = some (.int .i64 cy) ∧ w'.cell? ⟨w.heap.size + 1 + 1, 2, none⟩ = some (.int .i64 cz) ∧ w'.cell? ⟨w.heap.size + 1 + 1 + 1, 0, none⟩ = some (.int .i64 dx) ∧ w'.cell? ⟨w.heap.size + 1 + 1 + 1, 1, none⟩ = some (.int .i64 dy) ∧ w'.cell? ⟨w.heap.size + 1 + 1 + 1, 2, none⟩ = some (.int .i64 dz) := fun w' h => ⟨h, (bcell h _ _ (by omega)).trans k0_0, (bcell h _ _ (by omega)).trans k0_1, (bcell h _ _ (by omega)).trans k0_2, (bcell h _ _ (by omega)).trans k1_0, (bcell h _ _ (by omega)).trans k1_1, (bcell h _ _ (by omega)).trans k1_2, (bcell h _ _ (by omega)).trans k2_0, (bcell h _ _ (by omega)).trans k2_1, (bcell h _ _ (by omega)).trans k2_2, (bcell h _ _ (by omega)).trans k3_0, (bcell h _ _ (by omega)).trans k3_1, (bcell h _ _ (by omega)).trans k3_2⟩
  go_region_held3 (fun w' => Below w0.heap.size w0 w' ∧ w'.cell? ⟨w.heap.size, 0, none⟩ = some (.int .i64 ax) ∧ w'.cell? ⟨w.heap.size, 1, none⟩ = some (.int .i64 ay) ∧ w'.cell? ⟨w.heap.size, 2, none⟩ = some (.int .i64 az) ∧ w'.cell? ⟨w.heap.size + 1, 0, none⟩ = some (.int .i64 bx) ∧ w'.cell? ⟨w.heap.size + 1, 1, none⟩ = some (.int .i64 by_) ∧ w'.cell? ⟨w.heap.size + 1, 2, none⟩ = some (.int .i64 bz) ∧ w'.cell? ⟨w.heap.size + 1 + 1, 0, none⟩ = some (.int .i64 cx) ∧ w'.cell? ⟨w.heap.size + 1 + 1, 1, none⟩ = some (.int .i64 cy) ∧ w'.cell? ⟨w.heap.size + 1 + 1, 2, none⟩ = some (.int .i64 cz) ∧ w'.cell? ⟨w.heap.size + 1 + 1 + 1, 0, none⟩ = some (.int .i64 dx) ∧ w'.cell? ⟨w.heap.size + 1 + 1 + 1, 1, none⟩ = some (.int .i64 dy) ∧ w'.cell? ⟨w.heap.size + 1 + 1 + 1, 2, none⟩ = some (.int .i64 dz)) (first | exact SK _ (Below.refl _ _).drew | exact SK _ (bel_next (by assumption) (by assumption) (Nat.le_refl _)))
    (first
      | (go_at_call_of 70 ((.agg #[.int .i64 bx, .int .i64 by_, .int .i64 bz] : Value)); refine (racross_any _ ax ay az bx by_ bz cx cy cz hax hay haz hbx hby_ hbz hcx hcy hcz).mono ?_; rintro e wx ⟨rfl, hbW⟩)
      | (go_at_call_of 115 ((.agg #[.int .i64 dx, .int .i64 dy, .int .i64 dz] : Value)); refine (rless_any _ dx dy dz ax ay az hdx hdy hdz hax hay haz).mono ?_; rintro e wx ⟨rfl, hbW⟩)
      | (go_at_call 116; refine (rtimess_any _ ((by_ - ay) * (cz - az) - (bz - az) * (cy - ay)) ((bz - az) * (cx - ax) - (bx - ax) * (cz - az)) ((bx - ax) * (cy - ay) - (by_ - ay) * (cx - ax)) (dx - ax) (dy - ay) (dz - az) HN1 HN2 HN3 (by omega) (by omega) (by omega)).mono ?_; rintro e wx ⟨rfl, hbW⟩))
  go_wp2_with fail
  go_ret
  exact ⟨rfl, hb0.trans (Below.mono (And.left (by assumption)) hb0.size)⟩

set_option maxRecDepth 100000 in
set_option maxHeartbeats 1000000 in
theorem rDot_any (w : World) (ax ay bx by_ : Int) :
    Calls Tryz.prog 35 #[.agg #[.int .i64 ax, .int .i64 ay], .agg #[.int .i64 bx, .int .i64 by_]] w fun e w' => e = .returned (R2 (ax * bx + ay * by_) (Co ax ∧ Co ay ∧ Co bx ∧ Co by_)) ∧ Below w.heap.size w w' := by
  by_cases hok : Co ax ∧ Co ay ∧ Co bx ∧ Co by_
  · rw [R2_pos _ hok]
    obtain ⟨hax, hay, hbx, hby_⟩ := id hok
    go_enter Tryz.func35, Tryz.ntmps35
    go_upto_region 1 with (fail)
    have hb0 : Below w.heap.size w ((w.alloc (.cells #[.int .i64 ax, .int .i64 ay] 23)).alloc (.cells #[.int .i64 bx, .int .i64 by_] 23)) := allocs_below w [(.cells #[.int .i64 ax, .int .i64 ay] 23), (.cells #[.int .i64 bx, .int .i64 by_] 23)]
    have s0 : w.heap.size + 2 ≤ ((w.alloc (.cells #[.int .i64 ax, .int .i64 ay] 23)).alloc (.cells #[.int .i64 bx, .int .i64 by_] 23)).heap.size := Nat.le_of_eq (allocs_size w [(.cells #[.int .i64 ax, .int .i64 ay] 23), (.cells #[.int .i64 bx, .int .i64 by_] 23)]).symm
    have kb0 : ((w.alloc (.cells #[.int .i64 ax, .int .i64 ay] 23)).alloc (.cells #[.int .i64 bx, .int .i64 by_] 23)).heap[w.heap.size + 0]? = some (.cells #[.int .i64 ax, .int .i64 ay] 23) := allocs_at w [(.cells #[.int .i64 ax, .int .i64 ay] 23), (.cells #[.int .i64 bx, .int .i64 by_] 23)] 0 rfl
    have kb1 : ((w.alloc (.cells #[.int .i64 ax, .int .i64 ay] 23)).alloc (.cells #[.int .i64 bx, .int .i64 by_] 23)).heap[w.heap.size + 1]? = some (.cells #[.int .i64 bx, .int .i64 by_] 23) := allocs_at w [(.cells #[.int .i64 ax, .int .i64 ay] 23), (.cells #[.int .i64 bx, .int .i64 by_] 23)] 1 rfl
    generalize ((w.alloc (.cells #[.int .i64 ax, .int .i64 ay] 23)).alloc (.cells #[.int .i64 bx, .int .i64 by_] 23)) = w0 at *
    have k0_0 : w0.cell? ⟨w.heap.size, 0, none⟩ = some (.int .i64 ax) := (Blk.cell kb0 0).trans rfl
    have k0_1 : w0.cell? ⟨w.heap.size, 1, none⟩ = some (.int .i64 ay) := (Blk.cell kb0 1).trans rfl
    have k1_0 : w0.cell? ⟨w.heap.size + 1, 0, none⟩ = some (.int .i64 bx) := (Blk.cell kb1 0).trans rfl
    have k1_1 : w0.cell? ⟨w.heap.size + 1, 1, none⟩ = some (.int .i64 by_) := (Blk.cell kb1 1).trans rfl
    clear kb0 kb1
    have SK : ∀ w', Below w0.heap.size w0 w' → Below w0.heap.size w0 w' ∧ w'.cell? ⟨w.heap.size, 0, none⟩ = some (.int .i64 ax) ∧ w'.cell? ⟨w.heap.size, 1, none⟩ = some (.int .i64 ay) ∧ w'.cell? ⟨w.heap.size + 1, 0, none⟩ = some (.int .i64 bx) ∧ w'.cell? ⟨w.heap.size + 1, 1, none⟩ = some (.int .i64 by_) := fun w' h => ⟨h, (bcell h _ _ (by omega)).trans k0_0, (bcell h _ _ (by omega)).trans k0_1, (bcell h _ _ (by omega)).trans k1_0, (bcell h _ _ (by omega)).trans k1_1⟩
    go_wp2_with fail
    refine (rpair_any _ ax ay bx by_).mono ?_
    rintro e w1 ⟨rfl, hb1⟩
    have hL1 : Below w0.heap.size w0 w1 := hb1
    obtain ⟨-, c1_0, c1_1, c1_2, c1_3⟩ := SK _ hL1
    rw [if_pos hok]
    go_wp2_with fail
    refine (rtimes_any _ ax ay bx by_ (by omega) (by omega) (by omega) (by omega)).mono ?_
    rintro e w2 ⟨rfl, hb2⟩
    have hL2 : Below w0.heap.size w0 w2 := hL1.trans (hb2.mono hL1.size)
    obtain ⟨-, c2_0, c2_1, c2_2, c2_3⟩ := SK _ hL2
    go_wp2_with fail
    go_ret2
    exact ⟨rfl, hb0.trans (hL2.mono hb0.size)⟩
  · rw [R2_neg _ hok]
    go_enter Tryz.func35, Tryz.ntmps35
    go_upto_region 1 with (fail)
    have hb0 : Below w.heap.size w ((w.alloc (.cells #[.int .i64 ax, .int .i64 ay] 23)).alloc (.cells #[.int .i64 bx, .int .i64 by_] 23)) := allocs_below w [(.cells #[.int .i64 ax, .int .i64 ay] 23), (.cells #[.int .i64 bx, .int .i64 by_] 23)]
    have s0 : w.heap.size + 2 ≤ ((w.alloc (.cells #[.int .i64 ax, .int .i64 ay] 23)).alloc (.cells #[.int .i64 bx, .int .i64 by_] 23)).heap.size := Nat.le_of_eq (allocs_size w [(.cells #[.int .i64 ax, .int .i64 ay] 23), (.cells #[.int .i64 bx, .int .i64 by_] 23)]).symm
    have kb0 : ((w.alloc (.cells #[.int .i64 ax, .int .i64 ay] 23)).alloc (.cells #[.int .i64 bx, .int .i64 by_] 23)).heap[w.heap.size + 0]? = some (.cells #[.int .i64 ax, .int .i64 ay] 23) := allocs_at w [(.cells #[.int .i64 ax, .int .i64 ay] 23), (.cells #[.int .i64 bx, .int .i64 by_] 23)] 0 rfl
    have kb1 : ((w.alloc (.cells #[.int .i64 ax, .int .i64 ay] 23)).alloc (.cells #[.int .i64 bx, .int .i64 by_] 23)).heap[w.heap.size + 1]? = some (.cells #[.int .i64 bx, .int .i64 by_] 23) := allocs_at w [(.cells #[.int .i64 ax, .int .i64 ay] 23), (.cells #[.int .i64 bx, .int .i64 by_] 23)] 1 rfl
    generalize ((w.alloc (.cells #[.int .i64 ax, .int .i64 ay] 23)).alloc (.cells #[.int .i64 bx, .int .i64 by_] 23)) = w0 at *
    have k0_0 : w0.cell? ⟨w.heap.size, 0, none⟩ = some (.int .i64 ax) := (Blk.cell kb0 0).trans rfl
    have k0_1 : w0.cell? ⟨w.heap.size, 1, none⟩ = some (.int .i64 ay) := (Blk.cell kb0 1).trans rfl
    have k1_0 : w0.cell? ⟨w.heap.size + 1, 0, none⟩ = some (.int .i64 bx) := (Blk.cell kb1 0).trans rfl
    have k1_1 : w0.cell? ⟨w.heap.size + 1, 1, none⟩ = some (.int .i64 by_) := (Blk.cell kb1 1).trans rfl
    clear kb0 kb1
    have SK : ∀ w', Below w0.heap.size w0 w' → Below w0.heap.size w0 w' ∧ w'.cell? ⟨w.heap.size, 0, none⟩ = some (.int .i64 ax) ∧ w'.cell? ⟨w.heap.size, 1, none⟩ = some (.int .i64 ay) ∧ w'.cell? ⟨w.heap.size + 1, 0, none⟩ = some (.int .i64 bx) ∧ w'.cell? ⟨w.heap.size + 1, 1, none⟩ = some (.int .i64 by_) := fun w' h => ⟨h, (bcell h _ _ (by omega)).trans k0_0, (bcell h _ _ (by omega)).trans k0_1, (bcell h _ _ (by omega)).trans k1_0, (bcell h _ _ (by omega)).trans k1_1⟩
    go_wp2_with fail
    refine (rpair_any _ ax ay bx by_).mono ?_
    rintro e w1 ⟨rfl, hb1⟩
    have hL1 : Below w0.heap.size w0 w1 := hb1
    obtain ⟨-, c1_0, c1_1, c1_2, c1_3⟩ := SK _ hL1
    rw [if_neg hok]
    go_wp2_with fail
    go_ret2
    exact ⟨rfl, hb0.trans (hL1.mono hb0.size)⟩

set_option maxRecDepth 100000 in
set_option maxHeartbeats 1000000 in
theorem rCross_any (w : World) (ax ay bx by_ cx cy : Int) :
    Calls Tryz.prog 37 #[.agg #[.int .i64 ax, .int .i64 ay], .agg #[.int .i64 bx, .int .i64 by_], .agg #[.int .i64 cx, .int .i64 cy]] w fun e w' => e = .returned (R2 ((bx - ax) * (cy - ay) - (by_ - ay) * (cx - ax)) (Co ax ∧ Co ay ∧ Co bx ∧ Co by_ ∧ Co cx ∧ Co cy)) ∧ Below w.heap.size w w' := by
  by_cases hok : Co ax ∧ Co ay ∧ Co bx ∧ Co by_ ∧ Co cx ∧ Co cy
  · rw [R2_pos _ hok]
    obtain ⟨hax, hay, hbx, hby_, hcx, hcy⟩ := id hok
    go_enter Tryz.func37, Tryz.ntmps37
    go_upto_region 1 with (fail)
    have hb0 : Below w.heap.size w (((w.alloc (.cells #[.int .i64 ax, .int .i64 ay] 23)).alloc (.cells #[.int .i64 bx, .int .i64 by_] 23)).alloc (.cells #[.int .i64 cx, .int .i64 cy] 23)) := allocs_below w [(.cells #[.int .i64 ax, .int .i64 ay] 23), (.cells #[.int .i64 bx, .int .i64 by_] 23), (.cells #[.int .i64 cx, .int .i64 cy] 23)]
    have s0 : w.heap.size + 3 ≤ (((w.alloc (.cells #[.int .i64 ax, .int .i64 ay] 23)).alloc (.cells #[.int .i64 bx, .int .i64 by_] 23)).alloc (.cells #[.int .i64 cx, .int .i64 cy] 23)).heap.size := Nat.le_of_eq (allocs_size w [(.cells #[.int .i64 ax, .int .i64 ay] 23), (.cells #[.int .i64 bx, .int .i64 by_] 23), (.cells #[.int .i64 cx, .int .i64 cy] 23)]).symm
    have kb0 : (((w.alloc (.cells #[.int .i64 ax, .int .i64 ay] 23)).alloc (.cells #[.int .i64 bx, .int .i64 by_] 23)).alloc (.cells #[.int .i64 cx, .int .i64 cy] 23)).heap[w.heap.size + 0]? = some (.cells #[.int .i64 ax, .int .i64 ay] 23) := allocs_at w [(.cells #[.int .i64 ax, .int .i64 ay] 23), (.cells #[.int .i64 bx, .int .i64 by_] 23), (.cells #[.int .i64 cx, .int .i64 cy] 23)] 0 rfl
    have kb1 : (((w.alloc (.cells #[.int .i64 ax, .int .i64 ay] 23)).alloc (.cells #[.int .i64 bx, .int .i64 by_] 23)).alloc (.cells #[.int .i64 cx, .int .i64 cy] 23)).heap[w.heap.size + 1]? = some (.cells #[.int .i64 bx, .int .i64 by_] 23) := allocs_at w [(.cells #[.int .i64 ax, .int .i64 ay] 23), (.cells #[.int .i64 bx, .int .i64 by_] 23), (.cells #[.int .i64 cx, .int .i64 cy] 23)] 1 rfl
    have kb2 : (((w.alloc (.cells #[.int .i64 ax, .int .i64 ay] 23)).alloc (.cells #[.int .i64 bx, .int .i64 by_] 23)).alloc (.cells #[.int .i64 cx, .int .i64 cy] 23)).heap[w.heap.size + 2]? = some (.cells #[.int .i64 cx, .int .i64 cy] 23) := allocs_at w [(.cells #[.int .i64 ax, .int .i64 ay] 23), (.cells #[.int .i64 bx, .int .i64 by_] 23), (.cells #[.int .i64 cx, .int .i64 cy] 23)] 2 rfl
    generalize (((w.alloc (.cells #[.int .i64 ax, .int .i64 ay] 23)).alloc (.cells #[.int .i64 bx, .int .i64 by_] 23)).alloc (.cells #[.int .i64 cx, .int .i64 cy] 23)) = w0 at *
    have k0_0 : w0.cell? ⟨w.heap.size, 0, none⟩ = some (.int .i64 ax) := (Blk.cell kb0 0).trans rfl
    have k0_1 : w0.cell? ⟨w.heap.size, 1, none⟩ = some (.int .i64 ay) := (Blk.cell kb0 1).trans rfl
    have k1_0 : w0.cell? ⟨w.heap.size + 1, 0, none⟩ = some (.int .i64 bx) := (Blk.cell kb1 0).trans rfl
    have k1_1 : w0.cell? ⟨w.heap.size + 1, 1, none⟩ = some (.int .i64 by_) := (Blk.cell kb1 1).trans rfl
    have k2_0 : w0.cell? ⟨w.heap.size + 1 + 1, 0, none⟩ = some (.int .i64 cx) := (Blk.cell kb2 0).trans rfl
    have k2_1 : w0.cell? ⟨w.heap.size + 1 + 1, 1, none⟩ = some (.int .i64 cy) := (Blk.cell kb2 1).trans rfl
    clear kb0 kb1 kb2
    have SK : ∀ w', Below w0.heap.size w0 w' → Below w0.heap.size w0 w' ∧ w'.cell? ⟨w.heap.size, 0, none⟩ = some (.int .i64 ax) ∧ w'.cell? ⟨w.heap.size, 1, none⟩ = some (.int .i64 ay) ∧ w'.cell? ⟨w.heap.size + 1, 0, none⟩ = some (.int .i64 bx) ∧ w'.cell? ⟨w.heap.size + 1, 1, none⟩ = some (.int .i64 by_) ∧ w'.cell? ⟨w.heap.size + 1 + 1, 0, none⟩ = some (.int .i64 cx) ∧ w'.cell? ⟨w.heap.size + 1 + 1, 1, none⟩ = some (.int .i64 cy) := fun w' h => ⟨h, (bcell h _ _ (by omega)).trans k0_0, (bcell h _ _ (by omega)).trans k0_1, (bcell h _ _ (by omega)).trans k1_0, (bcell h _ _ (by omega)).trans k1_1, (bcell h _ _ (by omega)).trans k2_0, (bcell h _ _ (by omega)).trans k2_1⟩
    go_wp2_with fail
    refine (rthree_any _ ax ay bx by_ cx cy).mono ?_
    rintro e w1 ⟨rfl, hb1⟩
    have hL1 : Below w0.heap.size w0 w1 := hb1
    obtain ⟨-, c1_0, c1_1, c1_2, c1_3, c1_4, c1_5⟩ := SK _ hL1
    rw [if_pos hok]
    go_wp2_with fail
    refine (rleft_any _ ax ay bx by_ cx cy hax hay hbx hby_ hcx hcy).mono ?_
    rintro e w2 ⟨rfl, hb2⟩
    have hL2 : Below w0.heap.size w0 w2 := hL1.trans (hb2.mono hL1.size)
    obtain ⟨-, c2_0, c2_1, c2_2, c2_3, c2_4, c2_5⟩ := SK _ hL2
    go_wp2_with fail
    go_ret2
    exact ⟨rfl, hb0.trans (hL2.mono hb0.size)⟩
  · rw [R2_neg _ hok]
    go_enter Tryz.func37, Tryz.ntmps37
    go_upto_region 1 with (fail)
    have hb0 : Below w.heap.size w (((w.alloc (.cells #[.int .i64 ax, .int .i64 ay] 23)).alloc (.cells #[.int .i64 bx, .int .i64 by_] 23)).alloc (.cells #[.int .i64 cx, .int .i64 cy] 23)) := allocs_below w [(.cells #[.int .i64 ax, .int .i64 ay] 23), (.cells #[.int .i64 bx, .int .i64 by_] 23), (.cells #[.int .i64 cx, .int .i64 cy] 23)]
    have s0 : w.heap.size + 3 ≤ (((w.alloc (.cells #[.int .i64 ax, .int .i64 ay] 23)).alloc (.cells #[.int .i64 bx, .int .i64 by_] 23)).alloc (.cells #[.int .i64 cx, .int .i64 cy] 23)).heap.size := Nat.le_of_eq (allocs_size w [(.cells #[.int .i64 ax, .int .i64 ay] 23), (.cells #[.int .i64 bx, .int .i64 by_] 23), (.cells #[.int .i64 cx, .int .i64 cy] 23)]).symm
    have kb0 : (((w.alloc (.cells #[.int .i64 ax, .int .i64 ay] 23)).alloc (.cells #[.int .i64 bx, .int .i64 by_] 23)).alloc (.cells #[.int .i64 cx, .int .i64 cy] 23)).heap[w.heap.size + 0]? = some (.cells #[.int .i64 ax, .int .i64 ay] 23) := allocs_at w [(.cells #[.int .i64 ax, .int .i64 ay] 23), (.cells #[.int .i64 bx, .int .i64 by_] 23), (.cells #[.int .i64 cx, .int .i64 cy] 23)] 0 rfl
    have kb1 : (((w.alloc (.cells #[.int .i64 ax, .int .i64 ay] 23)).alloc (.cells #[.int .i64 bx, .int .i64 by_] 23)).alloc (.cells #[.int .i64 cx, .int .i64 cy] 23)).heap[w.heap.size + 1]? = some (.cells #[.int .i64 bx, .int .i64 by_] 23) := allocs_at w [(.cells #[.int .i64 ax, .int .i64 ay] 23), (.cells #[.int .i64 bx, .int .i64 by_] 23), (.cells #[.int .i64 cx, .int .i64 cy] 23)] 1 rfl
    have kb2 : (((w.alloc (.cells #[.int .i64 ax, .int .i64 ay] 23)).alloc (.cells #[.int .i64 bx, .int .i64 by_] 23)).alloc (.cells #[.int .i64 cx, .int .i64 cy] 23)).heap[w.heap.size + 2]? = some (.cells #[.int .i64 cx, .int .i64 cy] 23) := allocs_at w [(.cells #[.int .i64 ax, .int .i64 ay] 23), (.cells #[.int .i64 bx, .int .i64 by_] 23), (.cells #[.int .i64 cx, .int .i64 cy] 23)] 2 rfl
    generalize (((w.alloc (.cells #[.int .i64 ax, .int .i64 ay] 23)).alloc (.cells #[.int .i64 bx, .int .i64 by_] 23)).alloc (.cells #[.int .i64 cx, .int .i64 cy] 23)) = w0 at *
    have k0_0 : w0.cell? ⟨w.heap.size, 0, none⟩ = some (.int .i64 ax) := (Blk.cell kb0 0).trans rfl
    have k0_1 : w0.cell? ⟨w.heap.size, 1, none⟩ = some (.int .i64 ay) := (Blk.cell kb0 1).trans rfl
    have k1_0 : w0.cell? ⟨w.heap.size + 1, 0, none⟩ = some (.int .i64 bx) := (Blk.cell kb1 0).trans rfl
    have k1_1 : w0.cell? ⟨w.heap.size + 1, 1, none⟩ = some (.int .i64 by_) := (Blk.cell kb1 1).trans rfl
    have k2_0 : w0.cell? ⟨w.heap.size + 1 + 1, 0, none⟩ = some (.int .i64 cx) := (Blk.cell kb2 0).trans rfl
    have k2_1 : w0.cell? ⟨w.heap.size + 1 + 1, 1, none⟩ = some (.int .i64 cy) := (Blk.cell kb2 1).trans rfl
    clear kb0 kb1 kb2
    have SK : ∀ w', Below w0.heap.size w0 w' → Below w0.heap.size w0 w' ∧ w'.cell? ⟨w.heap.size, 0, none⟩ = some (.int .i64 ax) ∧ w'.cell? ⟨w.heap.size, 1, none⟩ = some (.int .i64 ay) ∧ w'.cell? ⟨w.heap.size + 1, 0, none⟩ = some (.int .i64 bx) ∧ w'.cell? ⟨w.heap.size + 1, 1, none⟩ = some (.int .i64 by_) ∧ w'.cell? ⟨w.heap.size + 1 + 1, 0, none⟩ = some (.int .i64 cx) ∧ w'.cell? ⟨w.heap.size + 1 + 1, 1, none⟩ = some (.int .i64 cy) := fun w' h => ⟨h, (bcell h _ _ (by omega)).trans k0_0, (bcell h _ _ (by omega)).trans k0_1, (bcell h _ _ (by omega)).trans k1_0, (bcell h _ _ (by omega)).trans k1_1, (bcell h _ _ (by omega)).trans k2_0, (bcell h _ _ (by omega)).trans k2_1⟩
    go_wp2_with fail
    refine (rthree_any _ ax ay bx by_ cx cy).mono ?_
    rintro e w1 ⟨rfl, hb1⟩
    have hL1 : Below w0.heap.size w0 w1 := hb1
    obtain ⟨-, c1_0, c1_1, c1_2, c1_3, c1_4, c1_5⟩ := SK _ hL1
    rw [if_neg hok]
    go_wp2_with fail
    go_ret2
    exact ⟨rfl, hb0.trans (hL1.mono hb0.size)⟩

set_option maxRecDepth 100000 in
set_option maxHeartbeats 1000000 in
theorem rSquare_any (w : World) (ax ay bx by_ : Int) :
    Calls Tryz.prog 41 #[.agg #[.int .i64 ax, .int .i64 ay], .agg #[.int .i64 bx, .int .i64 by_]] w fun e w' => e = .returned (R2 ((ax - bx) * (ax - bx) + (ay - by_) * (ay - by_)) (Co ax ∧ Co ay ∧ Co bx ∧ Co by_)) ∧ Below w.heap.size w w' := by
  by_cases hok : Co ax ∧ Co ay ∧ Co bx ∧ Co by_
  · rw [R2_pos _ hok]
    obtain ⟨hax, hay, hbx, hby_⟩ := id hok
    go_enter Tryz.func41, Tryz.ntmps41
    go_upto_region 1 with (fail)
    have hb0 : Below w.heap.size w ((w.alloc (.cells #[.int .i64 ax, .int .i64 ay] 23)).alloc (.cells #[.int .i64 bx, .int .i64 by_] 23)) := allocs_below w [(.cells #[.int .i64 ax, .int .i64 ay] 23), (.cells #[.int .i64 bx, .int .i64 by_] 23)]
    have s0 : w.heap.size + 2 ≤ ((w.alloc (.cells #[.int .i64 ax, .int .i64 ay] 23)).alloc (.cells #[.int .i64 bx, .int .i64 by_] 23)).heap.size := Nat.le_of_eq (allocs_size w [(.cells #[.int .i64 ax, .int .i64 ay] 23), (.cells #[.int .i64 bx, .int .i64 by_] 23)]).symm
    have kb0 : ((w.alloc (.cells #[.int .i64 ax, .int .i64 ay] 23)).alloc (.cells #[.int .i64 bx, .int .i64 by_] 23)).heap[w.heap.size + 0]? = some (.cells #[.int .i64 ax, .int .i64 ay] 23) := allocs_at w [(.cells #[.int .i64 ax, .int .i64 ay] 23), (.cells #[.int .i64 bx, .int .i64 by_] 23)] 0 rfl
    have kb1 : ((w.alloc (.cells #[.int .i64 ax, .int .i64 ay] 23)).alloc (.cells #[.int .i64 bx, .int .i64 by_] 23)).heap[w.heap.size + 1]? = some (.cells #[.int .i64 bx, .int .i64 by_] 23) := allocs_at w [(.cells #[.int .i64 ax, .int .i64 ay] 23), (.cells #[.int .i64 bx, .int .i64 by_] 23)] 1 rfl
    generalize ((w.alloc (.cells #[.int .i64 ax, .int .i64 ay] 23)).alloc (.cells #[.int .i64 bx, .int .i64 by_] 23)) = w0 at *
    have k0_0 : w0.cell? ⟨w.heap.size, 0, none⟩ = some (.int .i64 ax) := (Blk.cell kb0 0).trans rfl
    have k0_1 : w0.cell? ⟨w.heap.size, 1, none⟩ = some (.int .i64 ay) := (Blk.cell kb0 1).trans rfl
    have k1_0 : w0.cell? ⟨w.heap.size + 1, 0, none⟩ = some (.int .i64 bx) := (Blk.cell kb1 0).trans rfl
    have k1_1 : w0.cell? ⟨w.heap.size + 1, 1, none⟩ = some (.int .i64 by_) := (Blk.cell kb1 1).trans rfl
    clear kb0 kb1
    have SK : ∀ w', Below w0.heap.size w0 w' → Below w0.heap.size w0 w' ∧ w'.cell? ⟨w.heap.size, 0, none⟩ = some (.int .i64 ax) ∧ w'.cell? ⟨w.heap.size, 1, none⟩ = some (.int .i64 ay) ∧ w'.cell? ⟨w.heap.size + 1, 0, none⟩ = some (.int .i64 bx) ∧ w'.cell? ⟨w.heap.size + 1, 1, none⟩ = some (.int .i64 by_) := fun w' h => ⟨h, (bcell h _ _ (by omega)).trans k0_0, (bcell h _ _ (by omega)).trans k0_1, (bcell h _ _ (by omega)).trans k1_0, (bcell h _ _ (by omega)).trans k1_1⟩
    go_wp2_with fail
    refine (rpair_any _ ax ay bx by_).mono ?_
    rintro e w1 ⟨rfl, hb1⟩
    have hL1 : Below w0.heap.size w0 w1 := hb1
    obtain ⟨-, c1_0, c1_1, c1_2, c1_3⟩ := SK _ hL1
    rw [if_pos hok]
    go_wp2_with fail
    refine (rfar_any _ ax ay bx by_ hax hay hbx hby_).mono ?_
    rintro e w2 ⟨rfl, hb2⟩
    have hL2 : Below w0.heap.size w0 w2 := hL1.trans (hb2.mono hL1.size)
    obtain ⟨-, c2_0, c2_1, c2_2, c2_3⟩ := SK _ hL2
    go_wp2_with fail
    go_ret2
    exact ⟨rfl, hb0.trans (hL2.mono hb0.size)⟩
  · rw [R2_neg _ hok]
    go_enter Tryz.func41, Tryz.ntmps41
    go_upto_region 1 with (fail)
    have hb0 : Below w.heap.size w ((w.alloc (.cells #[.int .i64 ax, .int .i64 ay] 23)).alloc (.cells #[.int .i64 bx, .int .i64 by_] 23)) := allocs_below w [(.cells #[.int .i64 ax, .int .i64 ay] 23), (.cells #[.int .i64 bx, .int .i64 by_] 23)]
    have s0 : w.heap.size + 2 ≤ ((w.alloc (.cells #[.int .i64 ax, .int .i64 ay] 23)).alloc (.cells #[.int .i64 bx, .int .i64 by_] 23)).heap.size := Nat.le_of_eq (allocs_size w [(.cells #[.int .i64 ax, .int .i64 ay] 23), (.cells #[.int .i64 bx, .int .i64 by_] 23)]).symm
    have kb0 : ((w.alloc (.cells #[.int .i64 ax, .int .i64 ay] 23)).alloc (.cells #[.int .i64 bx, .int .i64 by_] 23)).heap[w.heap.size + 0]? = some (.cells #[.int .i64 ax, .int .i64 ay] 23) := allocs_at w [(.cells #[.int .i64 ax, .int .i64 ay] 23), (.cells #[.int .i64 bx, .int .i64 by_] 23)] 0 rfl
    have kb1 : ((w.alloc (.cells #[.int .i64 ax, .int .i64 ay] 23)).alloc (.cells #[.int .i64 bx, .int .i64 by_] 23)).heap[w.heap.size + 1]? = some (.cells #[.int .i64 bx, .int .i64 by_] 23) := allocs_at w [(.cells #[.int .i64 ax, .int .i64 ay] 23), (.cells #[.int .i64 bx, .int .i64 by_] 23)] 1 rfl
    generalize ((w.alloc (.cells #[.int .i64 ax, .int .i64 ay] 23)).alloc (.cells #[.int .i64 bx, .int .i64 by_] 23)) = w0 at *
    have k0_0 : w0.cell? ⟨w.heap.size, 0, none⟩ = some (.int .i64 ax) := (Blk.cell kb0 0).trans rfl
    have k0_1 : w0.cell? ⟨w.heap.size, 1, none⟩ = some (.int .i64 ay) := (Blk.cell kb0 1).trans rfl
    have k1_0 : w0.cell? ⟨w.heap.size + 1, 0, none⟩ = some (.int .i64 bx) := (Blk.cell kb1 0).trans rfl
    have k1_1 : w0.cell? ⟨w.heap.size + 1, 1, none⟩ = some (.int .i64 by_) := (Blk.cell kb1 1).trans rfl
    clear kb0 kb1
    have SK : ∀ w', Below w0.heap.size w0 w' → Below w0.heap.size w0 w' ∧ w'.cell? ⟨w.heap.size, 0, none⟩ = some (.int .i64 ax) ∧ w'.cell? ⟨w.heap.size, 1, none⟩ = some (.int .i64 ay) ∧ w'.cell? ⟨w.heap.size + 1, 0, none⟩ = some (.int .i64 bx) ∧ w'.cell? ⟨w.heap.size + 1, 1, none⟩ = some (.int .i64 by_) := fun w' h => ⟨h, (bcell h _ _ (by omega)).trans k0_0, (bcell h _ _ (by omega)).trans k0_1, (bcell h _ _ (by omega)).trans k1_0, (bcell h _ _ (by omega)).trans k1_1⟩
    go_wp2_with fail
    refine (rpair_any _ ax ay bx by_).mono ?_
    rintro e w1 ⟨rfl, hb1⟩
    have hL1 : Below w0.heap.size w0 w1 := hb1
    obtain ⟨-, c1_0, c1_1, c1_2, c1_3⟩ := SK _ hL1
    rw [if_neg hok]
    go_wp2_with fail
    go_ret2
    exact ⟨rfl, hb0.trans (hL1.mono hb0.size)⟩

set_option maxRecDepth 100000 in
set_option maxHeartbeats 1000000 in
theorem rSide_any (w : World) (ax ay bx by_ cx cy : Int) :
    Calls Tryz.prog 39 #[.agg #[.int .i64 ax, .int .i64 ay], .agg #[.int .i64 bx, .int .i64 by_], .agg #[.int .i64 cx, .int .i64 cy]] w fun e w' => e = .returned (R2 (Int.sign ((bx - ax) * (cy - ay) - (by_ - ay) * (cx - ax))) (Co ax ∧ Co ay ∧ Co bx ∧ Co by_ ∧ Co cx ∧ Co cy)) ∧ Below w.heap.size w w' := by
  generalize hV : (bx - ax) * (cy - ay) - (by_ - ay) * (cx - ax) = V
  by_cases hok : Co ax ∧ Co ay ∧ Co bx ∧ Co by_ ∧ Co cx ∧ Co cy
  · rw [R2_pos _ hok]
    go_enter Tryz.func39, Tryz.ntmps39
    go_upto_region 1 with (fail)
    have hb0 : Below w.heap.size w (((w.alloc (.cells #[.int .i64 ax, .int .i64 ay] 23)).alloc (.cells #[.int .i64 bx, .int .i64 by_] 23)).alloc (.cells #[.int .i64 cx, .int .i64 cy] 23)) := allocs_below w [(.cells #[.int .i64 ax, .int .i64 ay] 23), (.cells #[.int .i64 bx, .int .i64 by_] 23), (.cells #[.int .i64 cx, .int .i64 cy] 23)]
    have s0 : w.heap.size + 3 ≤ (((w.alloc (.cells #[.int .i64 ax, .int .i64 ay] 23)).alloc (.cells #[.int .i64 bx, .int .i64 by_] 23)).alloc (.cells #[.int .i64 cx, .int .i64 cy] 23)).heap.size := Nat.le_of_eq (allocs_size w [(.cells #[.int .i64 ax, .int .i64 ay] 23), (.cells #[.int .i64 bx, .int .i64 by_] 23), (.cells #[.int .i64 cx, .int .i64 cy] 23)]).symm
    have kb0 : (((w.alloc (.cells #[.int .i64 ax, .int .i64 ay] 23)).alloc (.cells #[.int .i64 bx, .int .i64 by_] 23)).alloc (.cells #[.int .i64 cx, .int .i64 cy] 23)).heap[w.heap.size + 0]? = some (.cells #[.int .i64 ax, .int .i64 ay] 23) := allocs_at w [(.cells #[.int .i64 ax, .int .i64 ay] 23), (.cells #[.int .i64 bx, .int .i64 by_] 23), (.cells #[.int .i64 cx, .int .i64 cy] 23)] 0 rfl
    have kb1 : (((w.alloc (.cells #[.int .i64 ax, .int .i64 ay] 23)).alloc (.cells #[.int .i64 bx, .int .i64 by_] 23)).alloc (.cells #[.int .i64 cx, .int .i64 cy] 23)).heap[w.heap.size + 1]? = some (.cells #[.int .i64 bx, .int .i64 by_] 23) := allocs_at w [(.cells #[.int .i64 ax, .int .i64 ay] 23), (.cells #[.int .i64 bx, .int .i64 by_] 23), (.cells #[.int .i64 cx, .int .i64 cy] 23)] 1 rfl
    have kb2 : (((w.alloc (.cells #[.int .i64 ax, .int .i64 ay] 23)).alloc (.cells #[.int .i64 bx, .int .i64 by_] 23)).alloc (.cells #[.int .i64 cx, .int .i64 cy] 23)).heap[w.heap.size + 2]? = some (.cells #[.int .i64 cx, .int .i64 cy] 23) := allocs_at w [(.cells #[.int .i64 ax, .int .i64 ay] 23), (.cells #[.int .i64 bx, .int .i64 by_] 23), (.cells #[.int .i64 cx, .int .i64 cy] 23)] 2 rfl
    generalize (((w.alloc (.cells #[.int .i64 ax, .int .i64 ay] 23)).alloc (.cells #[.int .i64 bx, .int .i64 by_] 23)).alloc (.cells #[.int .i64 cx, .int .i64 cy] 23)) = w0 at *
    have k0_0 : w0.cell? ⟨w.heap.size, 0, none⟩ = some (.int .i64 ax) := (Blk.cell kb0 0).trans rfl
    have k0_1 : w0.cell? ⟨w.heap.size, 1, none⟩ = some (.int .i64 ay) := (Blk.cell kb0 1).trans rfl
    have k1_0 : w0.cell? ⟨w.heap.size + 1, 0, none⟩ = some (.int .i64 bx) := (Blk.cell kb1 0).trans rfl
    have k1_1 : w0.cell? ⟨w.heap.size + 1, 1, none⟩ = some (.int .i64 by_) := (Blk.cell kb1 1).trans rfl
    have k2_0 : w0.cell? ⟨w.heap.size + 1 + 1, 0, none⟩ = some (.int .i64 cx) := (Blk.cell kb2 0).trans rfl
    have k2_1 : w0.cell? ⟨w.heap.size + 1 + 1, 1, none⟩ = some (.int .i64 cy) := (Blk.cell kb2 1).trans rfl
    clear kb0 kb1 kb2
    have SK : ∀ w', Below w0.heap.size w0 w' → Below w0.heap.size w0 w' ∧ w'.cell? ⟨w.heap.size, 0, none⟩ = some (.int .i64 ax) ∧ w'.cell? ⟨w.heap.size, 1, none⟩ = some (.int .i64 ay) ∧ w'.cell? ⟨w.heap.size + 1, 0, none⟩ = some (.int .i64 bx) ∧ w'.cell? ⟨w.heap.size + 1, 1, none⟩ = some (.int .i64 by_) ∧ w'.cell? ⟨w.heap.size + 1 + 1, 0, none⟩ = some (.int .i64 cx) ∧ w'.cell? ⟨w.heap.size + 1 + 1, 1, none⟩ = some (.int .i64 cy) := fun w' h => ⟨h, (bcell h _ _ (by omega)).trans k0_0, (bcell h _ _ (by omega)).trans k0_1, (bcell h _ _ (by omega)).trans k1_0, (bcell h _ _ (by omega)).trans k1_1, (bcell h _ _ (by omega)).trans k2_0, (bcell h _ _ (by omega)).trans k2_1⟩
    go_wp2_with fail
    refine (rCross_any _ ax ay bx by_ cx cy).mono ?_
    rintro e w1 ⟨rfl, hb1⟩
    have hL1 : Below w0.heap.size w0 w1 := hb1
    obtain ⟨-, c1_0, c1_1, c1_2, c1_3, c1_4, c1_5⟩ := SK _ hL1
    rw [hV, R2_pos _ hok]
    go_wp2_with fail
    refine (rsignum_any _ V).mono ?_
    rintro e w2 ⟨rfl, rfl⟩
    go_wp2_with fail
    go_ret2
    exact ⟨rfl, hb0.trans (hL1.mono hb0.size)⟩
  · rw [R2_neg _ hok]
    go_enter Tryz.func39, Tryz.ntmps39
    go_upto_region 1 with (fail)
    have hb0 : Below w.heap.size w (((w.alloc (.cells #[.int .i64 ax, .int .i64 ay] 23)).alloc (.cells #[.int .i64 bx, .int .i64 by_] 23)).alloc (.cells #[.int .i64 cx, .int .i64 cy] 23)) := allocs_below w [(.cells #[.int .i64 ax, .int .i64 ay] 23), (.cells #[.int .i64 bx, .int .i64 by_] 23), (.cells #[.int .i64 cx, .int .i64 cy] 23)]
    have s0 : w.heap.size + 3 ≤ (((w.alloc (.cells #[.int .i64 ax, .int .i64 ay] 23)).alloc (.cells #[.int .i64 bx, .int .i64 by_] 23)).alloc (.cells #[.int .i64 cx, .int .i64 cy] 23)).heap.size := Nat.le_of_eq (allocs_size w [(.cells #[.int .i64 ax, .int .i64 ay] 23), (.cells #[.int .i64 bx, .int .i64 by_] 23), (.cells #[.int .i64 cx, .int .i64 cy] 23)]).symm
    have kb0 : (((w.alloc (.cells #[.int .i64 ax, .int .i64 ay] 23)).alloc (.cells #[.int .i64 bx, .int .i64 by_] 23)).alloc (.cells #[.int .i64 cx, .int .i64 cy] 23)).heap[w.heap.size + 0]? = some (.cells #[.int .i64 ax, .int .i64 ay] 23) := allocs_at w [(.cells #[.int .i64 ax, .int .i64 ay] 23), (.cells #[.int .i64 bx, .int .i64 by_] 23), (.cells #[.int .i64 cx, .int .i64 cy] 23)] 0 rfl
    have kb1 : (((w.alloc (.cells #[.int .i64 ax, .int .i64 ay] 23)).alloc (.cells #[.int .i64 bx, .int .i64 by_] 23)).alloc (.cells #[.int .i64 cx, .int .i64 cy] 23)).heap[w.heap.size + 1]? = some (.cells #[.int .i64 bx, .int .i64 by_] 23) := allocs_at w [(.cells #[.int .i64 ax, .int .i64 ay] 23), (.cells #[.int .i64 bx, .int .i64 by_] 23), (.cells #[.int .i64 cx, .int .i64 cy] 23)] 1 rfl
    have kb2 : (((w.alloc (.cells #[.int .i64 ax, .int .i64 ay] 23)).alloc (.cells #[.int .i64 bx, .int .i64 by_] 23)).alloc (.cells #[.int .i64 cx, .int .i64 cy] 23)).heap[w.heap.size + 2]? = some (.cells #[.int .i64 cx, .int .i64 cy] 23) := allocs_at w [(.cells #[.int .i64 ax, .int .i64 ay] 23), (.cells #[.int .i64 bx, .int .i64 by_] 23), (.cells #[.int .i64 cx, .int .i64 cy] 23)] 2 rfl
    generalize (((w.alloc (.cells #[.int .i64 ax, .int .i64 ay] 23)).alloc (.cells #[.int .i64 bx, .int .i64 by_] 23)).alloc (.cells #[.int .i64 cx, .int .i64 cy] 23)) = w0 at *
    have k0_0 : w0.cell? ⟨w.heap.size, 0, none⟩ = some (.int .i64 ax) := (Blk.cell kb0 0).trans rfl
    have k0_1 : w0.cell? ⟨w.heap.size, 1, none⟩ = some (.int .i64 ay) := (Blk.cell kb0 1).trans rfl
    have k1_0 : w0.cell? ⟨w.heap.size + 1, 0, none⟩ = some (.int .i64 bx) := (Blk.cell kb1 0).trans rfl
    have k1_1 : w0.cell? ⟨w.heap.size + 1, 1, none⟩ = some (.int .i64 by_) := (Blk.cell kb1 1).trans rfl
    have k2_0 : w0.cell? ⟨w.heap.size + 1 + 1, 0, none⟩ = some (.int .i64 cx) := (Blk.cell kb2 0).trans rfl
    have k2_1 : w0.cell? ⟨w.heap.size + 1 + 1, 1, none⟩ = some (.int .i64 cy) := (Blk.cell kb2 1).trans rfl
    clear kb0 kb1 kb2
    have SK : ∀ w', Below w0.heap.size w0 w' → Below w0.heap.size w0 w' ∧ w'.cell? ⟨w.heap.size, 0, none⟩ = some (.int .i64 ax) ∧ w'.cell? ⟨w.heap.size, 1, none⟩ = some (.int .i64 ay) ∧ w'.cell? ⟨w.heap.size + 1, 0, none⟩ = some (.int .i64 bx) ∧ w'.cell? ⟨w.heap.size + 1, 1, none⟩ = some (.int .i64 by_) ∧ w'.cell? ⟨w.heap.size + 1 + 1, 0, none⟩ = some (.int .i64 cx) ∧ w'.cell? ⟨w.heap.size + 1 + 1, 1, none⟩ = some (.int .i64 cy) := fun w' h => ⟨h, (bcell h _ _ (by omega)).trans k0_0, (bcell h _ _ (by omega)).trans k0_1, (bcell h _ _ (by omega)).trans k1_0, (bcell h _ _ (by omega)).trans k1_1, (bcell h _ _ (by omega)).trans k2_0, (bcell h _ _ (by omega)).trans k2_1⟩
    go_wp2_with fail
    refine (rCross_any _ ax ay bx by_ cx cy).mono ?_
    rintro e w1 ⟨rfl, hb1⟩
    have hL1 : Below w0.heap.size w0 w1 := hb1
    obtain ⟨-, c1_0, c1_1, c1_2, c1_3, c1_4, c1_5⟩ := SK _ hL1
    rw [hV, R2_neg _ hok]
    go_wp2_with fail
    refine (rsignum_any _ 0).mono ?_
    rintro e w2 ⟨rfl, rfl⟩
    go_wp2_with fail
    go_ret2
    exact ⟨rfl, hb0.trans (hL1.mono hb0.size)⟩

set_option maxRecDepth 100000 in
set_option maxHeartbeats 1000000 in
theorem rSquareSpace_any (w : World) (ax ay az bx by_ bz : Int) :
    Calls Tryz.prog 22 #[.agg #[.int .i64 ax, .int .i64 ay, .int .i64 az], .agg #[.int .i64 bx, .int .i64 by_, .int .i64 bz]] w fun e w' => e = .returned (R2 ((ax - bx) * (ax - bx) + (ay - by_) * (ay - by_) + (az - bz) * (az - bz)) (Co ax ∧ Co ay ∧ Co az ∧ Co bx ∧ Co by_ ∧ Co bz)) ∧ Below w.heap.size w w' := by
  by_cases g0 : Co ax ∧ Co ay ∧ Co az
  · have e0 := decide_eq_true g0
    by_cases g1 : Co bx ∧ Co by_ ∧ Co bz
    · have e1 := decide_eq_true g1
      have hok : Co ax ∧ Co ay ∧ Co az ∧ Co bx ∧ Co by_ ∧ Co bz := ⟨g0.1, g0.2.1, g0.2.2, g1.1, g1.2.1, g1.2.2⟩
      obtain ⟨hax, hay, haz, hbx, hby_, hbz⟩ := id hok
      rw [R2_pos _ hok]
      go_enter Tryz.func22, Tryz.ntmps22
      go_upto_region 1 with (fail)
      have hb0 : Below w.heap.size w ((w.alloc (.cells #[.int .i64 ax, .int .i64 ay, .int .i64 az] 33)).alloc (.cells #[.int .i64 bx, .int .i64 by_, .int .i64 bz] 33)) := allocs_below w [(.cells #[.int .i64 ax, .int .i64 ay, .int .i64 az] 33), (.cells #[.int .i64 bx, .int .i64 by_, .int .i64 bz] 33)]
      have s0 : w.heap.size + 2 ≤ ((w.alloc (.cells #[.int .i64 ax, .int .i64 ay, .int .i64 az] 33)).alloc (.cells #[.int .i64 bx, .int .i64 by_, .int .i64 bz] 33)).heap.size := Nat.le_of_eq (allocs_size w [(.cells #[.int .i64 ax, .int .i64 ay, .int .i64 az] 33), (.cells #[.int .i64 bx, .int .i64 by_, .int .i64 bz] 33)]).symm
      have kb0 : ((w.alloc (.cells #[.int .i64 ax, .int .i64 ay, .int .i64 az] 33)).alloc (.cells #[.int .i64 bx, .int .i64 by_, .int .i64 bz] 33)).heap[w.heap.size + 0]? = some (.cells #[.int .i64 ax, .int .i64 ay, .int .i64 az] 33) := allocs_at w [(.cells #[.int .i64 ax, .int .i64 ay, .int .i64 az] 33), (.cells #[.int .i64 bx, .int .i64 by_, .int .i64 bz] 33)] 0 rfl
      have kb1 : ((w.alloc (.cells #[.int .i64 ax, .int .i64 ay, .int .i64 az] 33)).alloc (.cells #[.int .i64 bx, .int .i64 by_, .int .i64 bz] 33)).heap[w.heap.size + 1]? = some (.cells #[.int .i64 bx, .int .i64 by_, .int .i64 bz] 33) := allocs_at w [(.cells #[.int .i64 ax, .int .i64 ay, .int .i64 az] 33), (.cells #[.int .i64 bx, .int .i64 by_, .int .i64 bz] 33)] 1 rfl
      generalize ((w.alloc (.cells #[.int .i64 ax, .int .i64 ay, .int .i64 az] 33)).alloc (.cells #[.int .i64 bx, .int .i64 by_, .int .i64 bz] 33)) = w0 at *
      have k0_0 : w0.cell? ⟨w.heap.size, 0, none⟩ = some (.int .i64 ax) := (Blk.cell kb0 0).trans rfl
      have k0_1 : w0.cell? ⟨w.heap.size, 1, none⟩ = some (.int .i64 ay) := (Blk.cell kb0 1).trans rfl
      have k0_2 : w0.cell? ⟨w.heap.size, 2, none⟩ = some (.int .i64 az) := (Blk.cell kb0 2).trans rfl
      have k1_0 : w0.cell? ⟨w.heap.size + 1, 0, none⟩ = some (.int .i64 bx) := (Blk.cell kb1 0).trans rfl
      have k1_1 : w0.cell? ⟨w.heap.size + 1, 1, none⟩ = some (.int .i64 by_) := (Blk.cell kb1 1).trans rfl
      have k1_2 : w0.cell? ⟨w.heap.size + 1, 2, none⟩ = some (.int .i64 bz) := (Blk.cell kb1 2).trans rfl
      clear kb0 kb1
      have SK : ∀ w', Below w0.heap.size w0 w' → Below w0.heap.size w0 w' ∧ w'.cell? ⟨w.heap.size, 0, none⟩ = some (.int .i64 ax) ∧ w'.cell? ⟨w.heap.size, 1, none⟩ = some (.int .i64 ay) ∧ w'.cell? ⟨w.heap.size, 2, none⟩ = some (.int .i64 az) ∧ w'.cell? ⟨w.heap.size + 1, 0, none⟩ = some (.int .i64 bx) ∧ w'.cell? ⟨w.heap.size + 1, 1, none⟩ = some (.int .i64 by_) ∧ w'.cell? ⟨w.heap.size + 1, 2, none⟩ = some (.int .i64 bz) := fun w' h => ⟨h, (bcell h _ _ (by omega)).trans k0_0, (bcell h _ _ (by omega)).trans k0_1, (bcell h _ _ (by omega)).trans k0_2, (bcell h _ _ (by omega)).trans k1_0, (bcell h _ _ (by omega)).trans k1_1, (bcell h _ _ (by omega)).trans k1_2⟩
      go_wp2_with fail
      refine (rrights_any _ ax ay az).mono ?_
      rintro e w1 ⟨rfl, hb1⟩
      have hL1 : Below w0.heap.size w0 w1 := hb1
      obtain ⟨-, c1_0, c1_1, c1_2, c1_3, c1_4, c1_5⟩ := SK _ hL1
      go_wp2_with fail
      refine (rrights_any _ bx by_ bz).mono ?_
      rintro e w2 ⟨rfl, hb2⟩
      have hL2 : Below w0.heap.size w0 w2 := hL1.trans (hb2.mono hL1.size)
      obtain ⟨-, c2_0, c2_1, c2_2, c2_3, c2_4, c2_5⟩ := SK _ hL2
      go_wp2_with fail
      refine (rfars_any _ ax ay az bx by_ bz hax hay haz hbx hby_ hbz).mono ?_
      rintro e wz ⟨rfl, hbz⟩
      have hL3 : Below w0.heap.size w0 wz := hL2.trans (hbz.mono hL2.size)
      obtain ⟨-, c3_0, c3_1, c3_2, c3_3, c3_4, c3_5⟩ := SK _ hL3
      go_wp2_with fail
      go_ret2
      exact ⟨rfl, hb0.trans (hL3.mono hb0.size)⟩
    · have e1 := decide_eq_false g1
      have hok : ¬ (Co ax ∧ Co ay ∧ Co az ∧ Co bx ∧ Co by_ ∧ Co bz) := fun h => g1 ⟨h.2.2.2.1, h.2.2.2.2.1, h.2.2.2.2.2⟩
      rw [R2_neg _ hok]
      go_enter Tryz.func22, Tryz.ntmps22
      go_upto_region 1 with (fail)
      have hb0 : Below w.heap.size w ((w.alloc (.cells #[.int .i64 ax, .int .i64 ay, .int .i64 az] 33)).alloc (.cells #[.int .i64 bx, .int .i64 by_, .int .i64 bz] 33)) := allocs_below w [(.cells #[.int .i64 ax, .int .i64 ay, .int .i64 az] 33), (.cells #[.int .i64 bx, .int .i64 by_, .int .i64 bz] 33)]
      have s0 : w.heap.size + 2 ≤ ((w.alloc (.cells #[.int .i64 ax, .int .i64 ay, .int .i64 az] 33)).alloc (.cells #[.int .i64 bx, .int .i64 by_, .int .i64 bz] 33)).heap.size := Nat.le_of_eq (allocs_size w [(.cells #[.int .i64 ax, .int .i64 ay, .int .i64 az] 33), (.cells #[.int .i64 bx, .int .i64 by_, .int .i64 bz] 33)]).symm
      have kb0 : ((w.alloc (.cells #[.int .i64 ax, .int .i64 ay, .int .i64 az] 33)).alloc (.cells #[.int .i64 bx, .int .i64 by_, .int .i64 bz] 33)).heap[w.heap.size + 0]? = some (.cells #[.int .i64 ax, .int .i64 ay, .int .i64 az] 33) := allocs_at w [(.cells #[.int .i64 ax, .int .i64 ay, .int .i64 az] 33), (.cells #[.int .i64 bx, .int .i64 by_, .int .i64 bz] 33)] 0 rfl
      have kb1 : ((w.alloc (.cells #[.int .i64 ax, .int .i64 ay, .int .i64 az] 33)).alloc (.cells #[.int .i64 bx, .int .i64 by_, .int .i64 bz] 33)).heap[w.heap.size + 1]? = some (.cells #[.int .i64 bx, .int .i64 by_, .int .i64 bz] 33) := allocs_at w [(.cells #[.int .i64 ax, .int .i64 ay, .int .i64 az] 33), (.cells #[.int .i64 bx, .int .i64 by_, .int .i64 bz] 33)] 1 rfl
      generalize ((w.alloc (.cells #[.int .i64 ax, .int .i64 ay, .int .i64 az] 33)).alloc (.cells #[.int .i64 bx, .int .i64 by_, .int .i64 bz] 33)) = w0 at *
      have k0_0 : w0.cell? ⟨w.heap.size, 0, none⟩ = some (.int .i64 ax) := (Blk.cell kb0 0).trans rfl
      have k0_1 : w0.cell? ⟨w.heap.size, 1, none⟩ = some (.int .i64 ay) := (Blk.cell kb0 1).trans rfl
      have k0_2 : w0.cell? ⟨w.heap.size, 2, none⟩ = some (.int .i64 az) := (Blk.cell kb0 2).trans rfl
      have k1_0 : w0.cell? ⟨w.heap.size + 1, 0, none⟩ = some (.int .i64 bx) := (Blk.cell kb1 0).trans rfl
      have k1_1 : w0.cell? ⟨w.heap.size + 1, 1, none⟩ = some (.int .i64 by_) := (Blk.cell kb1 1).trans rfl
      have k1_2 : w0.cell? ⟨w.heap.size + 1, 2, none⟩ = some (.int .i64 bz) := (Blk.cell kb1 2).trans rfl
      clear kb0 kb1
      have SK : ∀ w', Below w0.heap.size w0 w' → Below w0.heap.size w0 w' ∧ w'.cell? ⟨w.heap.size, 0, none⟩ = some (.int .i64 ax) ∧ w'.cell? ⟨w.heap.size, 1, none⟩ = some (.int .i64 ay) ∧ w'.cell? ⟨w.heap.size, 2, none⟩ = some (.int .i64 az) ∧ w'.cell? ⟨w.heap.size + 1, 0, none⟩ = some (.int .i64 bx) ∧ w'.cell? ⟨w.heap.size + 1, 1, none⟩ = some (.int .i64 by_) ∧ w'.cell? ⟨w.heap.size + 1, 2, none⟩ = some (.int .i64 bz) := fun w' h => ⟨h, (bcell h _ _ (by omega)).trans k0_0, (bcell h _ _ (by omega)).trans k0_1, (bcell h _ _ (by omega)).trans k0_2, (bcell h _ _ (by omega)).trans k1_0, (bcell h _ _ (by omega)).trans k1_1, (bcell h _ _ (by omega)).trans k1_2⟩
      go_wp2_with fail
      refine (rrights_any _ ax ay az).mono ?_
      rintro e w1 ⟨rfl, hb1⟩
      have hL1 : Below w0.heap.size w0 w1 := hb1
      obtain ⟨-, c1_0, c1_1, c1_2, c1_3, c1_4, c1_5⟩ := SK _ hL1
      go_wp2_with fail
      refine (rrights_any _ bx by_ bz).mono ?_
      rintro e w2 ⟨rfl, hb2⟩
      have hL2 : Below w0.heap.size w0 w2 := hL1.trans (hb2.mono hL1.size)
      obtain ⟨-, c2_0, c2_1, c2_2, c2_3, c2_4, c2_5⟩ := SK _ hL2
      go_wp2_with fail
      go_ret2
      exact ⟨rfl, hb0.trans (hL2.mono hb0.size)⟩
  · have e0 := decide_eq_false g0
    have hok : ¬ (Co ax ∧ Co ay ∧ Co az ∧ Co bx ∧ Co by_ ∧ Co bz) := fun h => g0 ⟨h.1, h.2.1, h.2.2.1⟩
    rw [R2_neg _ hok]
    go_enter Tryz.func22, Tryz.ntmps22
    go_upto_region 1 with (fail)
    have hb0 : Below w.heap.size w ((w.alloc (.cells #[.int .i64 ax, .int .i64 ay, .int .i64 az] 33)).alloc (.cells #[.int .i64 bx, .int .i64 by_, .int .i64 bz] 33)) := allocs_below w [(.cells #[.int .i64 ax, .int .i64 ay, .int .i64 az] 33), (.cells #[.int .i64 bx, .int .i64 by_, .int .i64 bz] 33)]
    have s0 : w.heap.size + 2 ≤ ((w.alloc (.cells #[.int .i64 ax, .int .i64 ay, .int .i64 az] 33)).alloc (.cells #[.int .i64 bx, .int .i64 by_, .int .i64 bz] 33)).heap.size := Nat.le_of_eq (allocs_size w [(.cells #[.int .i64 ax, .int .i64 ay, .int .i64 az] 33), (.cells #[.int .i64 bx, .int .i64 by_, .int .i64 bz] 33)]).symm
    have kb0 : ((w.alloc (.cells #[.int .i64 ax, .int .i64 ay, .int .i64 az] 33)).alloc (.cells #[.int .i64 bx, .int .i64 by_, .int .i64 bz] 33)).heap[w.heap.size + 0]? = some (.cells #[.int .i64 ax, .int .i64 ay, .int .i64 az] 33) := allocs_at w [(.cells #[.int .i64 ax, .int .i64 ay, .int .i64 az] 33), (.cells #[.int .i64 bx, .int .i64 by_, .int .i64 bz] 33)] 0 rfl
    have kb1 : ((w.alloc (.cells #[.int .i64 ax, .int .i64 ay, .int .i64 az] 33)).alloc (.cells #[.int .i64 bx, .int .i64 by_, .int .i64 bz] 33)).heap[w.heap.size + 1]? = some (.cells #[.int .i64 bx, .int .i64 by_, .int .i64 bz] 33) := allocs_at w [(.cells #[.int .i64 ax, .int .i64 ay, .int .i64 az] 33), (.cells #[.int .i64 bx, .int .i64 by_, .int .i64 bz] 33)] 1 rfl
    generalize ((w.alloc (.cells #[.int .i64 ax, .int .i64 ay, .int .i64 az] 33)).alloc (.cells #[.int .i64 bx, .int .i64 by_, .int .i64 bz] 33)) = w0 at *
    have k0_0 : w0.cell? ⟨w.heap.size, 0, none⟩ = some (.int .i64 ax) := (Blk.cell kb0 0).trans rfl
    have k0_1 : w0.cell? ⟨w.heap.size, 1, none⟩ = some (.int .i64 ay) := (Blk.cell kb0 1).trans rfl
    have k0_2 : w0.cell? ⟨w.heap.size, 2, none⟩ = some (.int .i64 az) := (Blk.cell kb0 2).trans rfl
    have k1_0 : w0.cell? ⟨w.heap.size + 1, 0, none⟩ = some (.int .i64 bx) := (Blk.cell kb1 0).trans rfl
    have k1_1 : w0.cell? ⟨w.heap.size + 1, 1, none⟩ = some (.int .i64 by_) := (Blk.cell kb1 1).trans rfl
    have k1_2 : w0.cell? ⟨w.heap.size + 1, 2, none⟩ = some (.int .i64 bz) := (Blk.cell kb1 2).trans rfl
    clear kb0 kb1
    have SK : ∀ w', Below w0.heap.size w0 w' → Below w0.heap.size w0 w' ∧ w'.cell? ⟨w.heap.size, 0, none⟩ = some (.int .i64 ax) ∧ w'.cell? ⟨w.heap.size, 1, none⟩ = some (.int .i64 ay) ∧ w'.cell? ⟨w.heap.size, 2, none⟩ = some (.int .i64 az) ∧ w'.cell? ⟨w.heap.size + 1, 0, none⟩ = some (.int .i64 bx) ∧ w'.cell? ⟨w.heap.size + 1, 1, none⟩ = some (.int .i64 by_) ∧ w'.cell? ⟨w.heap.size + 1, 2, none⟩ = some (.int .i64 bz) := fun w' h => ⟨h, (bcell h _ _ (by omega)).trans k0_0, (bcell h _ _ (by omega)).trans k0_1, (bcell h _ _ (by omega)).trans k0_2, (bcell h _ _ (by omega)).trans k1_0, (bcell h _ _ (by omega)).trans k1_1, (bcell h _ _ (by omega)).trans k1_2⟩
    go_wp2_with fail
    refine (rrights_any _ ax ay az).mono ?_
    rintro e w1 ⟨rfl, hb1⟩
    have hL1 : Below w0.heap.size w0 w1 := hb1
    obtain ⟨-, c1_0, c1_1, c1_2, c1_3, c1_4, c1_5⟩ := SK _ hL1
    go_wp2_with fail
    go_ret2
    exact ⟨rfl, hb0.trans (hL1.mono hb0.size)⟩

set_option maxRecDepth 100000 in
set_option maxHeartbeats 1000000 in
theorem rVolume_any (w : World) (ax ay az bx by_ bz cx cy cz dx dy dz : Int) :
    Calls Tryz.prog 20 #[.agg #[.int .i64 ax, .int .i64 ay, .int .i64 az], .agg #[.int .i64 bx, .int .i64 by_, .int .i64 bz], .agg #[.int .i64 cx, .int .i64 cy, .int .i64 cz], .agg #[.int .i64 dx, .int .i64 dy, .int .i64 dz]] w fun e w' => e = .returned (R2 (((by_ - ay) * (cz - az) - (bz - az) * (cy - ay)) * (dx - ax) + ((bz - az) * (cx - ax) - (bx - ax) * (cz - az)) * (dy - ay) + ((bx - ax) * (cy - ay) - (by_ - ay) * (cx - ax)) * (dz - az)) (Co ax ∧ Co ay ∧ Co az ∧ Co bx ∧ Co by_ ∧ Co bz ∧ Co cx ∧ Co cy ∧ Co cz ∧ Co dx ∧ Co dy ∧ Co dz)) ∧ Below w.heap.size w w' := by
  by_cases g0 : Co ax ∧ Co ay ∧ Co az
  · have e0 := decide_eq_true g0
    by_cases g1 : Co bx ∧ Co by_ ∧ Co bz
    · have e1 := decide_eq_true g1
      by_cases g2 : Co cx ∧ Co cy ∧ Co cz
      · have e2 := decide_eq_true g2
        by_cases g3 : Co dx ∧ Co dy ∧ Co dz
        · have e3 := decide_eq_true g3
          have hok : Co ax ∧ Co ay ∧ Co az ∧ Co bx ∧ Co by_ ∧ Co bz ∧ Co cx ∧ Co cy ∧ Co cz ∧ Co dx ∧ Co dy ∧ Co dz := ⟨g0.1, g0.2.1, g0.2.2, g1.1, g1.2.1, g1.2.2, g2.1, g2.2.1, g2.2.2, g3.1, g3.2.1, g3.2.2⟩
          obtain ⟨hax, hay, haz, hbx, hby_, hbz, hcx, hcy, hcz, hdx, hdy, hdz⟩ := id hok
          rw [R2_pos _ hok]
          go_enter Tryz.func20, Tryz.ntmps20
          go_upto_region 1 with (fail)
          have hb0 : Below w.heap.size w ((((w.alloc (.cells #[.int .i64 ax, .int .i64 ay, .int .i64 az] 33)).alloc (.cells #[.int .i64 bx, .int .i64 by_, .int .i64 bz] 33)).alloc (.cells #[.int .i64 cx, .int .i64 cy, .int .i64 cz] 33)).alloc (.cells #[.int .i64 dx, .int .i64 dy, .int .i64 dz] 33)) := allocs_below w [(.cells #[.int .i64 ax, .int .i64 ay, .int .i64 az] 33), (.cells #[.int .i64 bx, .int .i64 by_, .int .i64 bz] 33), (.cells #[.int .i64 cx, .int .i64 cy, .int .i64 cz] 33), (.cells #[.int .i64 dx, .int .i64 dy, .int .i64 dz] 33)]
          have s0 : w.heap.size + 4 ≤ ((((w.alloc (.cells #[.int .i64 ax, .int .i64 ay, .int .i64 az] 33)).alloc (.cells #[.int .i64 bx, .int .i64 by_, .int .i64 bz] 33)).alloc (.cells #[.int .i64 cx, .int .i64 cy, .int .i64 cz] 33)).alloc (.cells #[.int .i64 dx, .int .i64 dy, .int .i64 dz] 33)).heap.size := Nat.le_of_eq (allocs_size w [(.cells #[.int .i64 ax, .int .i64 ay, .int .i64 az] 33), (.cells #[.int .i64 bx, .int .i64 by_, .int .i64 bz] 33), (.cells #[.int .i64 cx, .int .i64 cy, .int .i64 cz] 33), (.cells #[.int .i64 dx, .int .i64 dy, .int .i64 dz] 33)]).symm
          have kb0 : ((((w.alloc (.cells #[.int .i64 ax, .int .i64 ay, .int .i64 az] 33)).alloc (.cells #[.int .i64 bx, .int .i64 by_, .int .i64 bz] 33)).alloc (.cells #[.int .i64 cx, .int .i64 cy, .int .i64 cz] 33)).alloc (.cells #[.int .i64 dx, .int .i64 dy, .int .i64 dz] 33)).heap[w.heap.size + 0]? = some (.cells #[.int .i64 ax, .int .i64 ay, .int .i64 az] 33) := allocs_at w [(.cells #[.int .i64 ax, .int .i64 ay, .int .i64 az] 33), (.cells #[.int .i64 bx, .int .i64 by_, .int .i64 bz] 33), (.cells #[.int .i64 cx, .int .i64 cy, .int .i64 cz] 33), (.cells #[.int .i64 dx, .int .i64 dy, .int .i64 dz] 33)] 0 rfl
          have kb1 : ((((w.alloc (.cells #[.int .i64 ax, .int .i64 ay, .int .i64 az] 33)).alloc (.cells #[.int .i64 bx, .int .i64 by_, .int .i64 bz] 33)).alloc (.cells #[.int .i64 cx, .int .i64 cy, .int .i64 cz] 33)).alloc (.cells #[.int .i64 dx, .int .i64 dy, .int .i64 dz] 33)).heap[w.heap.size + 1]? = some (.cells #[.int .i64 bx, .int .i64 by_, .int .i64 bz] 33) := allocs_at w [(.cells #[.int .i64 ax, .int .i64 ay, .int .i64 az] 33), (.cells #[.int .i64 bx, .int .i64 by_, .int .i64 bz] 33), (.cells #[.int .i64 cx, .int .i64 cy, .int .i64 cz] 33), (.cells #[.int .i64 dx, .int .i64 dy, .int .i64 dz] 33)] 1 rfl
          have kb2 : ((((w.alloc (.cells #[.int .i64 ax, .int .i64 ay, .int .i64 az] 33)).alloc (.cells #[.int .i64 bx, .int .i64 by_, .int .i64 bz] 33)).alloc (.cells #[.int .i64 cx, .int .i64 cy, .int .i64 cz] 33)).alloc (.cells #[.int .i64 dx, .int .i64 dy, .int .i64 dz] 33)).heap[w.heap.size + 2]? = some (.cells #[.int .i64 cx, .int .i64 cy, .int .i64 cz] 33) := allocs_at w [(.cells #[.int .i64 ax, .int .i64 ay, .int .i64 az] 33), (.cells #[.int .i64 bx, .int .i64 by_, .int .i64 bz] 33), (.cells #[.int .i64 cx, .int .i64 cy, .int .i64 cz] 33), (.cells #[.int .i64 dx, .int .i64 dy, .int .i64 dz] 33)] 2 rfl
          have kb3 : ((((w.alloc (.cells #[.int .i64 ax, .int .i64 ay, .int .i64 az] 33)).alloc (.cells #[.int .i64 bx, .int .i64 by_, .int .i64 bz] 33)).alloc (.cells #[.int .i64 cx, .int .i64 cy, .int .i64 cz] 33)).alloc (.cells #[.int .i64 dx, .int .i64 dy, .int .i64 dz] 33)).heap[w.heap.size + 3]? = some (.cells #[.int .i64 dx, .int .i64 dy, .int .i64 dz] 33) := allocs_at w [(.cells #[.int .i64 ax, .int .i64 ay, .int .i64 az] 33), (.cells #[.int .i64 bx, .int .i64 by_, .int .i64 bz] 33), (.cells #[.int .i64 cx, .int .i64 cy, .int .i64 cz] 33), (.cells #[.int .i64 dx, .int .i64 dy, .int .i64 dz] 33)] 3 rfl
          generalize ((((w.alloc (.cells #[.int .i64 ax, .int .i64 ay, .int .i64 az] 33)).alloc (.cells #[.int .i64 bx, .int .i64 by_, .int .i64 bz] 33)).alloc (.cells #[.int .i64 cx, .int .i64 cy, .int .i64 cz] 33)).alloc (.cells #[.int .i64 dx, .int .i64 dy, .int .i64 dz] 33)) = w0 at *
          have k0_0 : w0.cell? ⟨w.heap.size, 0, none⟩ = some (.int .i64 ax) := (Blk.cell kb0 0).trans rfl
          have k0_1 : w0.cell? ⟨w.heap.size, 1, none⟩ = some (.int .i64 ay) := (Blk.cell kb0 1).trans rfl
          have k0_2 : w0.cell? ⟨w.heap.size, 2, none⟩ = some (.int .i64 az) := (Blk.cell kb0 2).trans rfl
          have k1_0 : w0.cell? ⟨w.heap.size + 1, 0, none⟩ = some (.int .i64 bx) := (Blk.cell kb1 0).trans rfl
          have k1_1 : w0.cell? ⟨w.heap.size + 1, 1, none⟩ = some (.int .i64 by_) := (Blk.cell kb1 1).trans rfl
          have k1_2 : w0.cell? ⟨w.heap.size + 1, 2, none⟩ = some (.int .i64 bz) := (Blk.cell kb1 2).trans rfl
          have k2_0 : w0.cell? ⟨w.heap.size + 1 + 1, 0, none⟩ = some (.int .i64 cx) := (Blk.cell kb2 0).trans rfl
          have k2_1 : w0.cell? ⟨w.heap.size + 1 + 1, 1, none⟩ = some (.int .i64 cy) := (Blk.cell kb2 1).trans rfl
          have k2_2 : w0.cell? ⟨w.heap.size + 1 + 1, 2, none⟩ = some (.int .i64 cz) := (Blk.cell kb2 2).trans rfl
          have k3_0 : w0.cell? ⟨w.heap.size + 1 + 1 + 1, 0, none⟩ = some (.int .i64 dx) := (Blk.cell kb3 0).trans rfl
          have k3_1 : w0.cell? ⟨w.heap.size + 1 + 1 + 1, 1, none⟩ = some (.int .i64 dy) := (Blk.cell kb3 1).trans rfl
          have k3_2 : w0.cell? ⟨w.heap.size + 1 + 1 + 1, 2, none⟩ = some (.int .i64 dz) := (Blk.cell kb3 2).trans rfl
          clear kb0 kb1 kb2 kb3
          have SK : ∀ w', Below w0.heap.size w0 w' → Below w0.heap.size w0 w' ∧ w'.cell? ⟨w.heap.size, 0, none⟩ = some (.int .i64 ax) ∧ w'.cell? ⟨w.heap.size, 1, none⟩ = some (.int .i64 ay) ∧ w'.cell? ⟨w.heap.size, 2, none⟩ = some (.int .i64 az) ∧ w'.cell? ⟨w.heap.size + 1, 0, none⟩ = some (.int .i64 bx) ∧ w'.cell? ⟨w.heap.size + 1, 1, none⟩ = some (.int .i64 by_) ∧ w'.cell? ⟨w.heap.size + 1, 2, none⟩ = some (.int .i64 bz) ∧ w'.cell? ⟨w.heap.size + 1 + 1, 0, none⟩ = some (.int .i64 cx) ∧ w'.cell? ⟨w.heap.size + 1 + 1, 1, none⟩ = some (.int .i64 cy) ∧ w'.cell? ⟨w.heap.size + 1 + 1, 2, none⟩ = some (.int .i64 cz) ∧ w'.cell? ⟨w.heap.size + 1 + 1 + 1, 0, none⟩ = some (.int .i64 dx) ∧ w'.cell? ⟨w.heap.size + 1 + 1 + 1, 1, none⟩ = some (.int .i64 dy) ∧ w'.cell? ⟨w.heap.size + 1 + 1 + 1, 2, none⟩ = some (.int .i64 dz) := fun w' h => ⟨h, (bcell h _ _ (by omega)).trans k0_0, (bcell h _ _ (by omega)).trans k0_1, (bcell h _ _ (by omega)).trans k0_2, (bcell h _ _ (by omega)).trans k1_0, (bcell h _ _ (by omega)).trans k1_1, (bcell h _ _ (by omega)).trans k1_2, (bcell h _ _ (by omega)).trans k2_0, (bcell h _ _ (by omega)).trans k2_1, (bcell h _ _ (by omega)).trans k2_2, (bcell h _ _ (by omega)).trans k3_0, (bcell h _ _ (by omega)).trans k3_1, (bcell h _ _ (by omega)).trans k3_2⟩
          go_wp2_with fail
          refine (rrights_any _ ax ay az).mono ?_
          rintro e w1 ⟨rfl, hb1⟩
          have hL1 : Below w0.heap.size w0 w1 := hb1
          obtain ⟨-, c1_0, c1_1, c1_2, c1_3, c1_4, c1_5, c1_6, c1_7, c1_8, c1_9, c1_10, c1_11⟩ := SK _ hL1
          go_wp2_with fail
          refine (rrights_any _ bx by_ bz).mono ?_
          rintro e w2 ⟨rfl, hb2⟩
          have hL2 : Below w0.heap.size w0 w2 := hL1.trans (hb2.mono hL1.size)
          obtain ⟨-, c2_0, c2_1, c2_2, c2_3, c2_4, c2_5, c2_6, c2_7, c2_8, c2_9, c2_10, c2_11⟩ := SK _ hL2
          go_wp2_with fail
          refine (rrights_any _ cx cy cz).mono ?_
          rintro e w3 ⟨rfl, hb3⟩
          have hL3 : Below w0.heap.size w0 w3 := hL2.trans (hb3.mono hL2.size)
          obtain ⟨-, c3_0, c3_1, c3_2, c3_3, c3_4, c3_5, c3_6, c3_7, c3_8, c3_9, c3_10, c3_11⟩ := SK _ hL3
          go_wp2_with fail
          refine (rrights_any _ dx dy dz).mono ?_
          rintro e w4 ⟨rfl, hb4⟩
          have hL4 : Below w0.heap.size w0 w4 := hL3.trans (hb4.mono hL3.size)
          obtain ⟨-, c4_0, c4_1, c4_2, c4_3, c4_4, c4_5, c4_6, c4_7, c4_8, c4_9, c4_10, c4_11⟩ := SK _ hL4
          go_wp2_with fail
          refine (rsix_any _ ax ay az bx by_ bz cx cy cz dx dy dz hax hay haz hbx hby_ hbz hcx hcy hcz hdx hdy hdz).mono ?_
          rintro e wz ⟨rfl, hbz⟩
          have hL5 : Below w0.heap.size w0 wz := hL4.trans (hbz.mono hL4.size)
          obtain ⟨-, c5_0, c5_1, c5_2, c5_3, c5_4, c5_5, c5_6, c5_7, c5_8, c5_9, c5_10, c5_11⟩ := SK _ hL5
          go_wp2_with fail
          go_ret2
          exact ⟨rfl, hb0.trans (hL5.mono hb0.size)⟩
        · have e3 := decide_eq_false g3
          have hok : ¬ (Co ax ∧ Co ay ∧ Co az ∧ Co bx ∧ Co by_ ∧ Co bz ∧ Co cx ∧ Co cy ∧ Co cz ∧ Co dx ∧ Co dy ∧ Co dz) := fun h => g3 ⟨h.2.2.2.2.2.2.2.2.2.1, h.2.2.2.2.2.2.2.2.2.2.1, h.2.2.2.2.2.2.2.2.2.2.2⟩
          rw [R2_neg _ hok]
          go_enter Tryz.func20, Tryz.ntmps20
          go_upto_region 1 with (fail)
          have hb0 : Below w.heap.size w ((((w.alloc (.cells #[.int .i64 ax, .int .i64 ay, .int .i64 az] 33)).alloc (.cells #[.int .i64 bx, .int .i64 by_, .int .i64 bz] 33)).alloc (.cells #[.int .i64 cx, .int .i64 cy, .int .i64 cz] 33)).alloc (.cells #[.int .i64 dx, .int .i64 dy, .int .i64 dz] 33)) := allocs_below w [(.cells #[.int .i64 ax, .int .i64 ay, .int .i64 az] 33), (.cells #[.int .i64 bx, .int .i64 by_, .int .i64 bz] 33), (.cells #[.int .i64 cx, .int .i64 cy, .int .i64 cz] 33), (.cells #[.int .i64 dx, .int .i64 dy, .int .i64 dz] 33)]
          have s0 : w.heap.size + 4 ≤ ((((w.alloc (.cells #[.int .i64 ax, .int .i64 ay, .int .i64 az] 33)).alloc (.cells #[.int .i64 bx, .int .i64 by_, .int .i64 bz] 33)).alloc (.cells #[.int .i64 cx, .int .i64 cy, .int .i64 cz] 33)).alloc (.cells #[.int .i64 dx, .int .i64 dy, .int .i64 dz] 33)).heap.size := Nat.le_of_eq (allocs_size w [(.cells #[.int .i64 ax, .int .i64 ay, .int .i64 az] 33), (.cells #[.int .i64 bx, .int .i64 by_, .int .i64 bz] 33), (.cells #[.int .i64 cx, .int .i64 cy, .int .i64 cz] 33), (.cells #[.int .i64 dx, .int .i64 dy, .int .i64 dz] 33)]).symm
          have kb0 : ((((w.alloc (.cells #[.int .i64 ax, .int .i64 ay, .int .i64 az] 33)).alloc (.cells #[.int .i64 bx, .int .i64 by_, .int .i64 bz] 33)).alloc (.cells #[.int .i64 cx, .int .i64 cy, .int .i64 cz] 33)).alloc (.cells #[.int .i64 dx, .int .i64 dy, .int .i64 dz] 33)).heap[w.heap.size + 0]? = some (.cells #[.int .i64 ax, .int .i64 ay, .int .i64 az] 33) := allocs_at w [(.cells #[.int .i64 ax, .int .i64 ay, .int .i64 az] 33), (.cells #[.int .i64 bx, .int .i64 by_, .int .i64 bz] 33), (.cells #[.int .i64 cx, .int .i64 cy, .int .i64 cz] 33), (.cells #[.int .i64 dx, .int .i64 dy, .int .i64 dz] 33)] 0 rfl
          have kb1 : ((((w.alloc (.cells #[.int .i64 ax, .int .i64 ay, .int .i64 az] 33)).alloc (.cells #[.int .i64 bx, .int .i64 by_, .int .i64 bz] 33)).alloc (.cells #[.int .i64 cx, .int .i64 cy, .int .i64 cz] 33)).alloc (.cells #[.int .i64 dx, .int .i64 dy, .int .i64 dz] 33)).heap[w.heap.size + 1]? = some (.cells #[.int .i64 bx, .int .i64 by_, .int .i64 bz] 33) := allocs_at w [(.cells #[.int .i64 ax, .int .i64 ay, .int .i64 az] 33), (.cells #[.int .i64 bx, .int .i64 by_, .int .i64 bz] 33), (.cells #[.int .i64 cx, .int .i64 cy, .int .i64 cz] 33), (.cells #[.int .i64 dx, .int .i64 dy, .int .i64 dz] 33)] 1 rfl
          have kb2 : ((((w.alloc (.cells #[.int .i64 ax, .int .i64 ay, .int .i64 az] 33)).alloc (.cells #[.int .i64 bx, .int .i64 by_, .int .i64 bz] 33)).alloc (.cells #[.int .i64 cx, .int .i64 cy, .int .i64 cz] 33)).alloc (.cells #[.int .i64 dx, .int .i64 dy, .int .i64 dz] 33)).heap[w.heap.size + 2]? = some (.cells #[.int .i64 cx, .int .i64 cy, .int .i64 cz] 33) := allocs_at w [(.cells #[.int .i64 ax, .int .i64 ay, .int .i64 az] 33), (.cells #[.int .i64 bx, .int .i64 by_, .int .i64 bz] 33), (.cells #[.int .i64 cx, .int .i64 cy, .int .i64 cz] 33), (.cells #[.int .i64 dx, .int .i64 dy, .int .i64 dz] 33)] 2 rfl
          have kb3 : ((((w.alloc (.cells #[.int .i64 ax, .int .i64 ay, .int .i64 az] 33)).alloc (.cells #[.int .i64 bx, .int .i64 by_, .int .i64 bz] 33)).alloc (.cells #[.int .i64 cx, .int .i64 cy, .int .i64 cz] 33)).alloc (.cells #[.int .i64 dx, .int .i64 dy, .int .i64 dz] 33)).heap[w.heap.size + 3]? = some (.cells #[.int .i64 dx, .int .i64 dy, .int .i64 dz] 33) := allocs_at w [(.cells #[.int .i64 ax, .int .i64 ay, .int .i64 az] 33), (.cells #[.int .i64 bx, .int .i64 by_, .int .i64 bz] 33), (.cells #[.int .i64 cx, .int .i64 cy, .int .i64 cz] 33), (.cells #[.int .i64 dx, .int .i64 dy, .int .i64 dz] 33)] 3 rfl
          generalize ((((w.alloc (.cells #[.int .i64 ax, .int .i64 ay, .int .i64 az] 33)).alloc (.cells #[.int .i64 bx, .int .i64 by_, .int .i64 bz] 33)).alloc (.cells #[.int .i64 cx, .int .i64 cy, .int .i64 cz] 33)).alloc (.cells #[.int .i64 dx, .int .i64 dy, .int .i64 dz] 33)) = w0 at *
          have k0_0 : w0.cell? ⟨w.heap.size, 0, none⟩ = some (.int .i64 ax) := (Blk.cell kb0 0).trans rfl
          have k0_1 : w0.cell? ⟨w.heap.size, 1, none⟩ = some (.int .i64 ay) := (Blk.cell kb0 1).trans rfl
          have k0_2 : w0.cell? ⟨w.heap.size, 2, none⟩ = some (.int .i64 az) := (Blk.cell kb0 2).trans rfl
          have k1_0 : w0.cell? ⟨w.heap.size + 1, 0, none⟩ = some (.int .i64 bx) := (Blk.cell kb1 0).trans rfl
          have k1_1 : w0.cell? ⟨w.heap.size + 1, 1, none⟩ = some (.int .i64 by_) := (Blk.cell kb1 1).trans rfl
          have k1_2 : w0.cell? ⟨w.heap.size + 1, 2, none⟩ = some (.int .i64 bz) := (Blk.cell kb1 2).trans rfl
          have k2_0 : w0.cell? ⟨w.heap.size + 1 + 1, 0, none⟩ = some (.int .i64 cx) := (Blk.cell kb2 0).trans rfl
          have k2_1 : w0.cell? ⟨w.heap.size + 1 + 1, 1, none⟩ = some (.int .i64 cy) := (Blk.cell kb2 1).trans rfl
          have k2_2 : w0.cell? ⟨w.heap.size + 1 + 1, 2, none⟩ = some (.int .i64 cz) := (Blk.cell kb2 2).trans rfl
          have k3_0 : w0.cell? ⟨w.heap.size + 1 + 1 + 1, 0, none⟩ = some (.int .i64 dx) := (Blk.cell kb3 0).trans rfl
          have k3_1 : w0.cell? ⟨w.heap.size + 1 + 1 + 1, 1, none⟩ = some (.int .i64 dy) := (Blk.cell kb3 1).trans rfl
          have k3_2 : w0.cell? ⟨w.heap.size + 1 + 1 + 1, 2, none⟩ = some (.int .i64 dz) := (Blk.cell kb3 2).trans rfl
          clear kb0 kb1 kb2 kb3
          have SK : ∀ w', Below w0.heap.size w0 w' → Below w0.heap.size w0 w' ∧ w'.cell? ⟨w.heap.size, 0, none⟩ = some (.int .i64 ax) ∧ w'.cell? ⟨w.heap.size, 1, none⟩ = some (.int .i64 ay) ∧ w'.cell? ⟨w.heap.size, 2, none⟩ = some (.int .i64 az) ∧ w'.cell? ⟨w.heap.size + 1, 0, none⟩ = some (.int .i64 bx) ∧ w'.cell? ⟨w.heap.size + 1, 1, none⟩ = some (.int .i64 by_) ∧ w'.cell? ⟨w.heap.size + 1, 2, none⟩ = some (.int .i64 bz) ∧ w'.cell? ⟨w.heap.size + 1 + 1, 0, none⟩ = some (.int .i64 cx) ∧ w'.cell? ⟨w.heap.size + 1 + 1, 1, none⟩ = some (.int .i64 cy) ∧ w'.cell? ⟨w.heap.size + 1 + 1, 2, none⟩ = some (.int .i64 cz) ∧ w'.cell? ⟨w.heap.size + 1 + 1 + 1, 0, none⟩ = some (.int .i64 dx) ∧ w'.cell? ⟨w.heap.size + 1 + 1 + 1, 1, none⟩ = some (.int .i64 dy) ∧ w'.cell? ⟨w.heap.size + 1 + 1 + 1, 2, none⟩ = some (.int .i64 dz) := fun w' h => ⟨h, (bcell h _ _ (by omega)).trans k0_0, (bcell h _ _ (by omega)).trans k0_1, (bcell h _ _ (by omega)).trans k0_2, (bcell h _ _ (by omega)).trans k1_0, (bcell h _ _ (by omega)).trans k1_1, (bcell h _ _ (by omega)).trans k1_2, (bcell h _ _ (by omega)).trans k2_0, (bcell h _ _ (by omega)).trans k2_1, (bcell h _ _ (by omega)).trans k2_2, (bcell h _ _ (by omega)).trans k3_0, (bcell h _ _ (by omega)).trans k3_1, (bcell h _ _ (by omega)).trans k3_2⟩
          go_wp2_with fail
          refine (rrights_any _ ax ay az).mono ?_
          rintro e w1 ⟨rfl, hb1⟩
          have hL1 : Below w0.heap.size w0 w1 := hb1
          obtain ⟨-, c1_0, c1_1, c1_2, c1_3, c1_4, c1_5, c1_6, c1_7, c1_8, c1_9, c1_10, c1_11⟩ := SK _ hL1
          go_wp2_with fail
          refine (rrights_any _ bx by_ bz).mono ?_
          rintro e w2 ⟨rfl, hb2⟩
          have hL2 : Below w0.heap.size w0 w2 := hL1.trans (hb2.mono hL1.size)
          obtain ⟨-, c2_0, c2_1, c2_2, c2_3, c2_4, c2_5, c2_6, c2_7, c2_8, c2_9, c2_10, c2_11⟩ := SK _ hL2
          go_wp2_with fail
          refine (rrights_any _ cx cy cz).mono ?_
          rintro e w3 ⟨rfl, hb3⟩
          have hL3 : Below w0.heap.size w0 w3 := hL2.trans (hb3.mono hL2.size)
          obtain ⟨-, c3_0, c3_1, c3_2, c3_3, c3_4, c3_5, c3_6, c3_7, c3_8, c3_9, c3_10, c3_11⟩ := SK _ hL3
          go_wp2_with fail
          refine (rrights_any _ dx dy dz).mono ?_
          rintro e w4 ⟨rfl, hb4⟩
          have hL4 : Below w0.heap.size w0 w4 := hL3.trans (hb4.mono hL3.size)
          obtain ⟨-, c4_0, c4_1, c4_2, c4_3, c4_4, c4_5, c4_6, c4_7, c4_8, c4_9, c4_10, c4_11⟩ := SK _ hL4
          go_wp2_with fail
          go_ret2
          exact ⟨rfl, hb0.trans (hL4.mono hb0.size)⟩
      · have e2 := decide_eq_false g2
        have hok : ¬ (Co ax ∧ Co ay ∧ Co az ∧ Co bx ∧ Co by_ ∧ Co bz ∧ Co cx ∧ Co cy ∧ Co cz ∧ Co dx ∧ Co dy ∧ Co dz) := fun h => g2 ⟨h.2.2.2.2.2.2.1, h.2.2.2.2.2.2.2.1, h.2.2.2.2.2.2.2.2.1⟩
        rw [R2_neg _ hok]
        go_enter Tryz.func20, Tryz.ntmps20
        go_upto_region 1 with (fail)
        have hb0 : Below w.heap.size w ((((w.alloc (.cells #[.int .i64 ax, .int .i64 ay, .int .i64 az] 33)).alloc (.cells #[.int .i64 bx, .int .i64 by_, .int .i64 bz] 33)).alloc (.cells #[.int .i64 cx, .int .i64 cy, .int .i64 cz] 33)).alloc (.cells #[.int .i64 dx, .int .i64 dy, .int .i64 dz] 33)) := allocs_below w [(.cells #[.int .i64 ax, .int .i64 ay, .int .i64 az] 33), (.cells #[.int .i64 bx, .int .i64 by_, .int .i64 bz] 33), (.cells #[.int .i64 cx, .int .i64 cy, .int .i64 cz] 33), (.cells #[.int .i64 dx, .int .i64 dy, .int .i64 dz] 33)]
        have s0 : w.heap.size + 4 ≤ ((((w.alloc (.cells #[.int .i64 ax, .int .i64 ay, .int .i64 az] 33)).alloc (.cells #[.int .i64 bx, .int .i64 by_, .int .i64 bz] 33)).alloc (.cells #[.int .i64 cx, .int .i64 cy, .int .i64 cz] 33)).alloc (.cells #[.int .i64 dx, .int .i64 dy, .int .i64 dz] 33)).heap.size := Nat.le_of_eq (allocs_size w [(.cells #[.int .i64 ax, .int .i64 ay, .int .i64 az] 33), (.cells #[.int .i64 bx, .int .i64 by_, .int .i64 bz] 33), (.cells #[.int .i64 cx, .int .i64 cy, .int .i64 cz] 33), (.cells #[.int .i64 dx, .int .i64 dy, .int .i64 dz] 33)]).symm
        have kb0 : ((((w.alloc (.cells #[.int .i64 ax, .int .i64 ay, .int .i64 az] 33)).alloc (.cells #[.int .i64 bx, .int .i64 by_, .int .i64 bz] 33)).alloc (.cells #[.int .i64 cx, .int .i64 cy, .int .i64 cz] 33)).alloc (.cells #[.int .i64 dx, .int .i64 dy, .int .i64 dz] 33)).heap[w.heap.size + 0]? = some (.cells #[.int .i64 ax, .int .i64 ay, .int .i64 az] 33) := allocs_at w [(.cells #[.int .i64 ax, .int .i64 ay, .int .i64 az] 33), (.cells #[.int .i64 bx, .int .i64 by_, .int .i64 bz] 33), (.cells #[.int .i64 cx, .int .i64 cy, .int .i64 cz] 33), (.cells #[.int .i64 dx, .int .i64 dy, .int .i64 dz] 33)] 0 rfl
        have kb1 : ((((w.alloc (.cells #[.int .i64 ax, .int .i64 ay, .int .i64 az] 33)).alloc (.cells #[.int .i64 bx, .int .i64 by_, .int .i64 bz] 33)).alloc (.cells #[.int .i64 cx, .int .i64 cy, .int .i64 cz] 33)).alloc (.cells #[.int .i64 dx, .int .i64 dy, .int .i64 dz] 33)).heap[w.heap.size + 1]? = some (.cells #[.int .i64 bx, .int .i64 by_, .int .i64 bz] 33) := allocs_at w [(.cells #[.int .i64 ax, .int .i64 ay, .int .i64 az] 33), (.cells #[.int .i64 bx, .int .i64 by_, .int .i64 bz] 33), (.cells #[.int .i64 cx, .int .i64 cy, .int .i64 cz] 33), (.cells #[.int .i64 dx, .int .i64 dy, .int .i64 dz] 33)] 1 rfl
        have kb2 : ((((w.alloc (.cells #[.int .i64 ax, .int .i64 ay, .int .i64 az] 33)).alloc (.cells #[.int .i64 bx, .int .i64 by_, .int .i64 bz] 33)).alloc (.cells #[.int .i64 cx, .int .i64 cy, .int .i64 cz] 33)).alloc (.cells #[.int .i64 dx, .int .i64 dy, .int .i64 dz] 33)).heap[w.heap.size + 2]? = some (.cells #[.int .i64 cx, .int .i64 cy, .int .i64 cz] 33) := allocs_at w [(.cells #[.int .i64 ax, .int .i64 ay, .int .i64 az] 33), (.cells #[.int .i64 bx, .int .i64 by_, .int .i64 bz] 33), (.cells #[.int .i64 cx, .int .i64 cy, .int .i64 cz] 33), (.cells #[.int .i64 dx, .int .i64 dy, .int .i64 dz] 33)] 2 rfl
        have kb3 : ((((w.alloc (.cells #[.int .i64 ax, .int .i64 ay, .int .i64 az] 33)).alloc (.cells #[.int .i64 bx, .int .i64 by_, .int .i64 bz] 33)).alloc (.cells #[.int .i64 cx, .int .i64 cy, .int .i64 cz] 33)).alloc (.cells #[.int .i64 dx, .int .i64 dy, .int .i64 dz] 33)).heap[w.heap.size + 3]? = some (.cells #[.int .i64 dx, .int .i64 dy, .int .i64 dz] 33) := allocs_at w [(.cells #[.int .i64 ax, .int .i64 ay, .int .i64 az] 33), (.cells #[.int .i64 bx, .int .i64 by_, .int .i64 bz] 33), (.cells #[.int .i64 cx, .int .i64 cy, .int .i64 cz] 33), (.cells #[.int .i64 dx, .int .i64 dy, .int .i64 dz] 33)] 3 rfl
        generalize ((((w.alloc (.cells #[.int .i64 ax, .int .i64 ay, .int .i64 az] 33)).alloc (.cells #[.int .i64 bx, .int .i64 by_, .int .i64 bz] 33)).alloc (.cells #[.int .i64 cx, .int .i64 cy, .int .i64 cz] 33)).alloc (.cells #[.int .i64 dx, .int .i64 dy, .int .i64 dz] 33)) = w0 at *
        have k0_0 : w0.cell? ⟨w.heap.size, 0, none⟩ = some (.int .i64 ax) := (Blk.cell kb0 0).trans rfl
        have k0_1 : w0.cell? ⟨w.heap.size, 1, none⟩ = some (.int .i64 ay) := (Blk.cell kb0 1).trans rfl
        have k0_2 : w0.cell? ⟨w.heap.size, 2, none⟩ = some (.int .i64 az) := (Blk.cell kb0 2).trans rfl
        have k1_0 : w0.cell? ⟨w.heap.size + 1, 0, none⟩ = some (.int .i64 bx) := (Blk.cell kb1 0).trans rfl
        have k1_1 : w0.cell? ⟨w.heap.size + 1, 1, none⟩ = some (.int .i64 by_) := (Blk.cell kb1 1).trans rfl
        have k1_2 : w0.cell? ⟨w.heap.size + 1, 2, none⟩ = some (.int .i64 bz) := (Blk.cell kb1 2).trans rfl
        have k2_0 : w0.cell? ⟨w.heap.size + 1 + 1, 0, none⟩ = some (.int .i64 cx) := (Blk.cell kb2 0).trans rfl
        have k2_1 : w0.cell? ⟨w.heap.size + 1 + 1, 1, none⟩ = some (.int .i64 cy) := (Blk.cell kb2 1).trans rfl
        have k2_2 : w0.cell? ⟨w.heap.size + 1 + 1, 2, none⟩ = some (.int .i64 cz) := (Blk.cell kb2 2).trans rfl
        have k3_0 : w0.cell? ⟨w.heap.size + 1 + 1 + 1, 0, none⟩ = some (.int .i64 dx) := (Blk.cell kb3 0).trans rfl
        have k3_1 : w0.cell? ⟨w.heap.size + 1 + 1 + 1, 1, none⟩ = some (.int .i64 dy) := (Blk.cell kb3 1).trans rfl
        have k3_2 : w0.cell? ⟨w.heap.size + 1 + 1 + 1, 2, none⟩ = some (.int .i64 dz) := (Blk.cell kb3 2).trans rfl
        clear kb0 kb1 kb2 kb3
        have SK : ∀ w', Below w0.heap.size w0 w' → Below w0.heap.size w0 w' ∧ w'.cell? ⟨w.heap.size, 0, none⟩ = some (.int .i64 ax) ∧ w'.cell? ⟨w.heap.size, 1, none⟩ = some (.int .i64 ay) ∧ w'.cell? ⟨w.heap.size, 2, none⟩ = some (.int .i64 az) ∧ w'.cell? ⟨w.heap.size + 1, 0, none⟩ = some (.int .i64 bx) ∧ w'.cell? ⟨w.heap.size + 1, 1, none⟩ = some (.int .i64 by_) ∧ w'.cell? ⟨w.heap.size + 1, 2, none⟩ = some (.int .i64 bz) ∧ w'.cell? ⟨w.heap.size + 1 + 1, 0, none⟩ = some (.int .i64 cx) ∧ w'.cell? ⟨w.heap.size + 1 + 1, 1, none⟩ = some (.int .i64 cy) ∧ w'.cell? ⟨w.heap.size + 1 + 1, 2, none⟩ = some (.int .i64 cz) ∧ w'.cell? ⟨w.heap.size + 1 + 1 + 1, 0, none⟩ = some (.int .i64 dx) ∧ w'.cell? ⟨w.heap.size + 1 + 1 + 1, 1, none⟩ = some (.int .i64 dy) ∧ w'.cell? ⟨w.heap.size + 1 + 1 + 1, 2, none⟩ = some (.int .i64 dz) := fun w' h => ⟨h, (bcell h _ _ (by omega)).trans k0_0, (bcell h _ _ (by omega)).trans k0_1, (bcell h _ _ (by omega)).trans k0_2, (bcell h _ _ (by omega)).trans k1_0, (bcell h _ _ (by omega)).trans k1_1, (bcell h _ _ (by omega)).trans k1_2, (bcell h _ _ (by omega)).trans k2_0, (bcell h _ _ (by omega)).trans k2_1, (bcell h _ _ (by omega)).trans k2_2, (bcell h _ _ (by omega)).trans k3_0, (bcell h _ _ (by omega)).trans k3_1, (bcell h _ _ (by omega)).trans k3_2⟩
        go_wp2_with fail
        refine (rrights_any _ ax ay az).mono ?_
        rintro e w1 ⟨rfl, hb1⟩
        have hL1 : Below w0.heap.size w0 w1 := hb1
        obtain ⟨-, c1_0, c1_1, c1_2, c1_3, c1_4, c1_5, c1_6, c1_7, c1_8, c1_9, c1_10, c1_11⟩ := SK _ hL1
        go_wp2_with fail
        refine (rrights_any _ bx by_ bz).mono ?_
        rintro e w2 ⟨rfl, hb2⟩
        have hL2 : Below w0.heap.size w0 w2 := hL1.trans (hb2.mono hL1.size)
        obtain ⟨-, c2_0, c2_1, c2_2, c2_3, c2_4, c2_5, c2_6, c2_7, c2_8, c2_9, c2_10, c2_11⟩ := SK _ hL2
        go_wp2_with fail
        refine (rrights_any _ cx cy cz).mono ?_
        rintro e w3 ⟨rfl, hb3⟩
        have hL3 : Below w0.heap.size w0 w3 := hL2.trans (hb3.mono hL2.size)
        obtain ⟨-, c3_0, c3_1, c3_2, c3_3, c3_4, c3_5, c3_6, c3_7, c3_8, c3_9, c3_10, c3_11⟩ := SK _ hL3
        go_wp2_with fail
        go_ret2
        exact ⟨rfl, hb0.trans (hL3.mono hb0.size)⟩
    · have e1 := decide_eq_false g1
      have hok : ¬ (Co ax ∧ Co ay ∧ Co az ∧ Co bx ∧ Co by_ ∧ Co bz ∧ Co cx ∧ Co cy ∧ Co cz ∧ Co dx ∧ Co dy ∧ Co dz) := fun h => g1 ⟨h.2.2.2.1, h.2.2.2.2.1, h.2.2.2.2.2.1⟩
      rw [R2_neg _ hok]
      go_enter Tryz.func20, Tryz.ntmps20
      go_upto_region 1 with (fail)
      have hb0 : Below w.heap.size w ((((w.alloc (.cells #[.int .i64 ax, .int .i64 ay, .int .i64 az] 33)).alloc (.cells #[.int .i64 bx, .int .i64 by_, .int .i64 bz] 33)).alloc (.cells #[.int .i64 cx, .int .i64 cy, .int .i64 cz] 33)).alloc (.cells #[.int .i64 dx, .int .i64 dy, .int .i64 dz] 33)) := allocs_below w [(.cells #[.int .i64 ax, .int .i64 ay, .int .i64 az] 33), (.cells #[.int .i64 bx, .int .i64 by_, .int .i64 bz] 33), (.cells #[.int .i64 cx, .int .i64 cy, .int .i64 cz] 33), (.cells #[.int .i64 dx, .int .i64 dy, .int .i64 dz] 33)]
      have s0 : w.heap.size + 4 ≤ ((((w.alloc (.cells #[.int .i64 ax, .int .i64 ay, .int .i64 az] 33)).alloc (.cells #[.int .i64 bx, .int .i64 by_, .int .i64 bz] 33)).alloc (.cells #[.int .i64 cx, .int .i64 cy, .int .i64 cz] 33)).alloc (.cells #[.int .i64 dx, .int .i64 dy, .int .i64 dz] 33)).heap.size := Nat.le_of_eq (allocs_size w [(.cells #[.int .i64 ax, .int .i64 ay, .int .i64 az] 33), (.cells #[.int .i64 bx, .int .i64 by_, .int .i64 bz] 33), (.cells #[.int .i64 cx, .int .i64 cy, .int .i64 cz] 33), (.cells #[.int .i64 dx, .int .i64 dy, .int .i64 dz] 33)]).symm
      have kb0 : ((((w.alloc (.cells #[.int .i64 ax, .int .i64 ay, .int .i64 az] 33)).alloc (.cells #[.int .i64 bx, .int .i64 by_, .int .i64 bz] 33)).alloc (.cells #[.int .i64 cx, .int .i64 cy, .int .i64 cz] 33)).alloc (.cells #[.int .i64 dx, .int .i64 dy, .int .i64 dz] 33)).heap[w.heap.size + 0]? = some (.cells #[.int .i64 ax, .int .i64 ay, .int .i64 az] 33) := allocs_at w [(.cells #[.int .i64 ax, .int .i64 ay, .int .i64 az] 33), (.cells #[.int .i64 bx, .int .i64 by_, .int .i64 bz] 33), (.cells #[.int .i64 cx, .int .i64 cy, .int .i64 cz] 33), (.cells #[.int .i64 dx, .int .i64 dy, .int .i64 dz] 33)] 0 rfl
      have kb1 : ((((w.alloc (.cells #[.int .i64 ax, .int .i64 ay, .int .i64 az] 33)).alloc (.cells #[.int .i64 bx, .int .i64 by_, .int .i64 bz] 33)).alloc (.cells #[.int .i64 cx, .int .i64 cy, .int .i64 cz] 33)).alloc (.cells #[.int .i64 dx, .int .i64 dy, .int .i64 dz] 33)).heap[w.heap.size + 1]? = some (.cells #[.int .i64 bx, .int .i64 by_, .int .i64 bz] 33) := allocs_at w [(.cells #[.int .i64 ax, .int .i64 ay, .int .i64 az] 33), (.cells #[.int .i64 bx, .int .i64 by_, .int .i64 bz] 33), (.cells #[.int .i64 cx, .int .i64 cy, .int .i64 cz] 33), (.cells #[.int .i64 dx, .int .i64 dy, .int .i64 dz] 33)] 1 rfl
      have kb2 : ((((w.alloc (.cells #[.int .i64 ax, .int .i64 ay, .int .i64 az] 33)).alloc (.cells #[.int .i64 bx, .int .i64 by_, .int .i64 bz] 33)).alloc (.cells #[.int .i64 cx, .int .i64 cy, .int .i64 cz] 33)).alloc (.cells #[.int .i64 dx, .int .i64 dy, .int .i64 dz] 33)).heap[w.heap.size + 2]? = some (.cells #[.int .i64 cx, .int .i64 cy, .int .i64 cz] 33) := allocs_at w [(.cells #[.int .i64 ax, .int .i64 ay, .int .i64 az] 33), (.cells #[.int .i64 bx, .int .i64 by_, .int .i64 bz] 33), (.cells #[.int .i64 cx, .int .i64 cy, .int .i64 cz] 33), (.cells #[.int .i64 dx, .int .i64 dy, .int .i64 dz] 33)] 2 rfl
      have kb3 : ((((w.alloc (.cells #[.int .i64 ax, .int .i64 ay, .int .i64 az] 33)).alloc (.cells #[.int .i64 bx, .int .i64 by_, .int .i64 bz] 33)).alloc (.cells #[.int .i64 cx, .int .i64 cy, .int .i64 cz] 33)).alloc (.cells #[.int .i64 dx, .int .i64 dy, .int .i64 dz] 33)).heap[w.heap.size + 3]? = some (.cells #[.int .i64 dx, .int .i64 dy, .int .i64 dz] 33) := allocs_at w [(.cells #[.int .i64 ax, .int .i64 ay, .int .i64 az] 33), (.cells #[.int .i64 bx, .int .i64 by_, .int .i64 bz] 33), (.cells #[.int .i64 cx, .int .i64 cy, .int .i64 cz] 33), (.cells #[.int .i64 dx, .int .i64 dy, .int .i64 dz] 33)] 3 rfl
      generalize ((((w.alloc (.cells #[.int .i64 ax, .int .i64 ay, .int .i64 az] 33)).alloc (.cells #[.int .i64 bx, .int .i64 by_, .int .i64 bz] 33)).alloc (.cells #[.int .i64 cx, .int .i64 cy, .int .i64 cz] 33)).alloc (.cells #[.int .i64 dx, .int .i64 dy, .int .i64 dz] 33)) = w0 at *
      have k0_0 : w0.cell? ⟨w.heap.size, 0, none⟩ = some (.int .i64 ax) := (Blk.cell kb0 0).trans rfl
      have k0_1 : w0.cell? ⟨w.heap.size, 1, none⟩ = some (.int .i64 ay) := (Blk.cell kb0 1).trans rfl
      have k0_2 : w0.cell? ⟨w.heap.size, 2, none⟩ = some (.int .i64 az) := (Blk.cell kb0 2).trans rfl
      have k1_0 : w0.cell? ⟨w.heap.size + 1, 0, none⟩ = some (.int .i64 bx) := (Blk.cell kb1 0).trans rfl
      have k1_1 : w0.cell? ⟨w.heap.size + 1, 1, none⟩ = some (.int .i64 by_) := (Blk.cell kb1 1).trans rfl
      have k1_2 : w0.cell? ⟨w.heap.size + 1, 2, none⟩ = some (.int .i64 bz) := (Blk.cell kb1 2).trans rfl
      have k2_0 : w0.cell? ⟨w.heap.size + 1 + 1, 0, none⟩ = some (.int .i64 cx) := (Blk.cell kb2 0).trans rfl
      have k2_1 : w0.cell? ⟨w.heap.size + 1 + 1, 1, none⟩ = some (.int .i64 cy) := (Blk.cell kb2 1).trans rfl
      have k2_2 : w0.cell? ⟨w.heap.size + 1 + 1, 2, none⟩ = some (.int .i64 cz) := (Blk.cell kb2 2).trans rfl
      have k3_0 : w0.cell? ⟨w.heap.size + 1 + 1 + 1, 0, none⟩ = some (.int .i64 dx) := (Blk.cell kb3 0).trans rfl
      have k3_1 : w0.cell? ⟨w.heap.size + 1 + 1 + 1, 1, none⟩ = some (.int .i64 dy) := (Blk.cell kb3 1).trans rfl
      have k3_2 : w0.cell? ⟨w.heap.size + 1 + 1 + 1, 2, none⟩ = some (.int .i64 dz) := (Blk.cell kb3 2).trans rfl
      clear kb0 kb1 kb2 kb3
      have SK : ∀ w', Below w0.heap.size w0 w' → Below w0.heap.size w0 w' ∧ w'.cell? ⟨w.heap.size, 0, none⟩ = some (.int .i64 ax) ∧ w'.cell? ⟨w.heap.size, 1, none⟩ = some (.int .i64 ay) ∧ w'.cell? ⟨w.heap.size, 2, none⟩ = some (.int .i64 az) ∧ w'.cell? ⟨w.heap.size + 1, 0, none⟩ = some (.int .i64 bx) ∧ w'.cell? ⟨w.heap.size + 1, 1, none⟩ = some (.int .i64 by_) ∧ w'.cell? ⟨w.heap.size + 1, 2, none⟩ = some (.int .i64 bz) ∧ w'.cell? ⟨w.heap.size + 1 + 1, 0, none⟩ = some (.int .i64 cx) ∧ w'.cell? ⟨w.heap.size + 1 + 1, 1, none⟩ = some (.int .i64 cy) ∧ w'.cell? ⟨w.heap.size + 1 + 1, 2, none⟩ = some (.int .i64 cz) ∧ w'.cell? ⟨w.heap.size + 1 + 1 + 1, 0, none⟩ = some (.int .i64 dx) ∧ w'.cell? ⟨w.heap.size + 1 + 1 + 1, 1, none⟩ = some (.int .i64 dy) ∧ w'.cell? ⟨w.heap.size + 1 + 1 + 1, 2, none⟩ = some (.int .i64 dz) := fun w' h => ⟨h, (bcell h _ _ (by omega)).trans k0_0, (bcell h _ _ (by omega)).trans k0_1, (bcell h _ _ (by omega)).trans k0_2, (bcell h _ _ (by omega)).trans k1_0, (bcell h _ _ (by omega)).trans k1_1, (bcell h _ _ (by omega)).trans k1_2, (bcell h _ _ (by omega)).trans k2_0, (bcell h _ _ (by omega)).trans k2_1, (bcell h _ _ (by omega)).trans k2_2, (bcell h _ _ (by omega)).trans k3_0, (bcell h _ _ (by omega)).trans k3_1, (bcell h _ _ (by omega)).trans k3_2⟩
      go_wp2_with fail
      refine (rrights_any _ ax ay az).mono ?_
      rintro e w1 ⟨rfl, hb1⟩
      have hL1 : Below w0.heap.size w0 w1 := hb1
      obtain ⟨-, c1_0, c1_1, c1_2, c1_3, c1_4, c1_5, c1_6, c1_7, c1_8, c1_9, c1_10, c1_11⟩ := SK _ hL1
      go_wp2_with fail
      refine (rrights_any _ bx by_ bz).mono ?_
      rintro e w2 ⟨rfl, hb2⟩
      have hL2 : Below w0.heap.size w0 w2 := hL1.trans (hb2.mono hL1.size)
      obtain ⟨-, c2_0, c2_1, c2_2, c2_3, c2_4, c2_5, c2_6, c2_7, c2_8, c2_9, c2_10, c2_11⟩ := SK _ hL2
      go_wp2_with fail
      go_ret2
      exact ⟨rfl, hb0.trans (hL2.mono hb0.size)⟩
  · have e0 := decide_eq_false g0
    have hok : ¬ (Co ax ∧ Co ay ∧ Co az ∧ Co bx ∧ Co by_ ∧ Co bz ∧ Co cx ∧ Co cy ∧ Co cz ∧ Co dx ∧ Co dy ∧ Co dz) := fun h => g0 ⟨h.1, h.2.1, h.2.2.1⟩
    rw [R2_neg _ hok]
    go_enter Tryz.func20, Tryz.ntmps20
    go_upto_region 1 with (fail)
    have hb0 : Below w.heap.size w ((((w.alloc (.cells #[.int .i64 ax, .int .i64 ay, .int .i64 az] 33)).alloc (.cells #[.int .i64 bx, .int .i64 by_, .int .i64 bz] 33)).alloc (.cells #[.int .i64 cx, .int .i64 cy, .int .i64 cz] 33)).alloc (.cells #[.int .i64 dx, .int .i64 dy, .int .i64 dz] 33)) := allocs_below w [(.cells #[.int .i64 ax, .int .i64 ay, .int .i64 az] 33), (.cells #[.int .i64 bx, .int .i64 by_, .int .i64 bz] 33), (.cells #[.int .i64 cx, .int .i64 cy, .int .i64 cz] 33), (.cells #[.int .i64 dx, .int .i64 dy, .int .i64 dz] 33)]
    have s0 : w.heap.size + 4 ≤ ((((w.alloc (.cells #[.int .i64 ax, .int .i64 ay, .int .i64 az] 33)).alloc (.cells #[.int .i64 bx, .int .i64 by_, .int .i64 bz] 33)).alloc (.cells #[.int .i64 cx, .int .i64 cy, .int .i64 cz] 33)).alloc (.cells #[.int .i64 dx, .int .i64 dy, .int .i64 dz] 33)).heap.size := Nat.le_of_eq (allocs_size w [(.cells #[.int .i64 ax, .int .i64 ay, .int .i64 az] 33), (.cells #[.int .i64 bx, .int .i64 by_, .int .i64 bz] 33), (.cells #[.int .i64 cx, .int .i64 cy, .int .i64 cz] 33), (.cells #[.int .i64 dx, .int .i64 dy, .int .i64 dz] 33)]).symm
    have kb0 : ((((w.alloc (.cells #[.int .i64 ax, .int .i64 ay, .int .i64 az] 33)).alloc (.cells #[.int .i64 bx, .int .i64 by_, .int .i64 bz] 33)).alloc (.cells #[.int .i64 cx, .int .i64 cy, .int .i64 cz] 33)).alloc (.cells #[.int .i64 dx, .int .i64 dy, .int .i64 dz] 33)).heap[w.heap.size + 0]? = some (.cells #[.int .i64 ax, .int .i64 ay, .int .i64 az] 33) := allocs_at w [(.cells #[.int .i64 ax, .int .i64 ay, .int .i64 az] 33), (.cells #[.int .i64 bx, .int .i64 by_, .int .i64 bz] 33), (.cells #[.int .i64 cx, .int .i64 cy, .int .i64 cz] 33), (.cells #[.int .i64 dx, .int .i64 dy, .int .i64 dz] 33)] 0 rfl
    have kb1 : ((((w.alloc (.cells #[.int .i64 ax, .int .i64 ay, .int .i64 az] 33)).alloc (.cells #[.int .i64 bx, .int .i64 by_, .int .i64 bz] 33)).alloc (.cells #[.int .i64 cx, .int .i64 cy, .int .i64 cz] 33)).alloc (.cells #[.int .i64 dx, .int .i64 dy, .int .i64 dz] 33)).heap[w.heap.size + 1]? = some (.cells #[.int .i64 bx, .int .i64 by_, .int .i64 bz] 33) := allocs_at w [(.cells #[.int .i64 ax, .int .i64 ay, .int .i64 az] 33), (.cells #[.int .i64 bx, .int .i64 by_, .int .i64 bz] 33), (.cells #[.int .i64 cx, .int .i64 cy, .int .i64 cz] 33), (.cells #[.int .i64 dx, .int .i64 dy, .int .i64 dz] 33)] 1 rfl
    have kb2 : ((((w.alloc (.cells #[.int .i64 ax, .int .i64 ay, .int .i64 az] 33)).alloc (.cells #[.int .i64 bx, .int .i64 by_, .int .i64 bz] 33)).alloc (.cells #[.int .i64 cx, .int .i64 cy, .int .i64 cz] 33)).alloc (.cells #[.int .i64 dx, .int .i64 dy, .int .i64 dz] 33)).heap[w.heap.size + 2]? = some (.cells #[.int .i64 cx, .int .i64 cy, .int .i64 cz] 33) := allocs_at w [(.cells #[.int .i64 ax, .int .i64 ay, .int .i64 az] 33), (.cells #[.int .i64 bx, .int .i64 by_, .int .i64 bz] 33), (.cells #[.int .i64 cx, .int .i64 cy, .int .i64 cz] 33), (.cells #[.int .i64 dx, .int .i64 dy, .int .i64 dz] 33)] 2 rfl
    have kb3 : ((((w.alloc (.cells #[.int .i64 ax, .int .i64 ay, .int .i64 az] 33)).alloc (.cells #[.int .i64 bx, .int .i64 by_, .int .i64 bz] 33)).alloc (.cells #[.int .i64 cx, .int .i64 cy, .int .i64 cz] 33)).alloc (.cells #[.int .i64 dx, .int .i64 dy, .int .i64 dz] 33)).heap[w.heap.size + 3]? = some (.cells #[.int .i64 dx, .int .i64 dy, .int .i64 dz] 33) := allocs_at w [(.cells #[.int .i64 ax, .int .i64 ay, .int .i64 az] 33), (.cells #[.int .i64 bx, .int .i64 by_, .int .i64 bz] 33), (.cells #[.int .i64 cx, .int .i64 cy, .int .i64 cz] 33), (.cells #[.int .i64 dx, .int .i64 dy, .int .i64 dz] 33)] 3 rfl
    generalize ((((w.alloc (.cells #[.int .i64 ax, .int .i64 ay, .int .i64 az] 33)).alloc (.cells #[.int .i64 bx, .int .i64 by_, .int .i64 bz] 33)).alloc (.cells #[.int .i64 cx, .int .i64 cy, .int .i64 cz] 33)).alloc (.cells #[.int .i64 dx, .int .i64 dy, .int .i64 dz] 33)) = w0 at *
    have k0_0 : w0.cell? ⟨w.heap.size, 0, none⟩ = some (.int .i64 ax) := (Blk.cell kb0 0).trans rfl
    have k0_1 : w0.cell? ⟨w.heap.size, 1, none⟩ = some (.int .i64 ay) := (Blk.cell kb0 1).trans rfl
    have k0_2 : w0.cell? ⟨w.heap.size, 2, none⟩ = some (.int .i64 az) := (Blk.cell kb0 2).trans rfl
    have k1_0 : w0.cell? ⟨w.heap.size + 1, 0, none⟩ = some (.int .i64 bx) := (Blk.cell kb1 0).trans rfl
    have k1_1 : w0.cell? ⟨w.heap.size + 1, 1, none⟩ = some (.int .i64 by_) := (Blk.cell kb1 1).trans rfl
    have k1_2 : w0.cell? ⟨w.heap.size + 1, 2, none⟩ = some (.int .i64 bz) := (Blk.cell kb1 2).trans rfl
    have k2_0 : w0.cell? ⟨w.heap.size + 1 + 1, 0, none⟩ = some (.int .i64 cx) := (Blk.cell kb2 0).trans rfl
    have k2_1 : w0.cell? ⟨w.heap.size + 1 + 1, 1, none⟩ = some (.int .i64 cy) := (Blk.cell kb2 1).trans rfl
    have k2_2 : w0.cell? ⟨w.heap.size + 1 + 1, 2, none⟩ = some (.int .i64 cz) := (Blk.cell kb2 2).trans rfl
    have k3_0 : w0.cell? ⟨w.heap.size + 1 + 1 + 1, 0, none⟩ = some (.int .i64 dx) := (Blk.cell kb3 0).trans rfl
    have k3_1 : w0.cell? ⟨w.heap.size + 1 + 1 + 1, 1, none⟩ = some (.int .i64 dy) := (Blk.cell kb3 1).trans rfl
    have k3_2 : w0.cell? ⟨w.heap.size + 1 + 1 + 1, 2, none⟩ = some (.int .i64 dz) := (Blk.cell kb3 2).trans rfl
    clear kb0 kb1 kb2 kb3
    have SK : ∀ w', Below w0.heap.size w0 w' → Below w0.heap.size w0 w' ∧ w'.cell? ⟨w.heap.size, 0, none⟩ = some (.int .i64 ax) ∧ w'.cell? ⟨w.heap.size, 1, none⟩ = some (.int .i64 ay) ∧ w'.cell? ⟨w.heap.size, 2, none⟩ = some (.int .i64 az) ∧ w'.cell? ⟨w.heap.size + 1, 0, none⟩ = some (.int .i64 bx) ∧ w'.cell? ⟨w.heap.size + 1, 1, none⟩ = some (.int .i64 by_) ∧ w'.cell? ⟨w.heap.size + 1, 2, none⟩ = some (.int .i64 bz) ∧ w'.cell? ⟨w.heap.size + 1 + 1, 0, none⟩ = some (.int .i64 cx) ∧ w'.cell? ⟨w.heap.size + 1 + 1, 1, none⟩ = some (.int .i64 cy) ∧ w'.cell? ⟨w.heap.size + 1 + 1, 2, none⟩ = some (.int .i64 cz) ∧ w'.cell? ⟨w.heap.size + 1 + 1 + 1, 0, none⟩ = some (.int .i64 dx) ∧ w'.cell? ⟨w.heap.size + 1 + 1 + 1, 1, none⟩ = some (.int .i64 dy) ∧ w'.cell? ⟨w.heap.size + 1 + 1 + 1, 2, none⟩ = some (.int .i64 dz) := fun w' h => ⟨h, (bcell h _ _ (by omega)).trans k0_0, (bcell h _ _ (by omega)).trans k0_1, (bcell h _ _ (by omega)).trans k0_2, (bcell h _ _ (by omega)).trans k1_0, (bcell h _ _ (by omega)).trans k1_1, (bcell h _ _ (by omega)).trans k1_2, (bcell h _ _ (by omega)).trans k2_0, (bcell h _ _ (by omega)).trans k2_1, (bcell h _ _ (by omega)).trans k2_2, (bcell h _ _ (by omega)).trans k3_0, (bcell h _ _ (by omega)).trans k3_1, (bcell h _ _ (by omega)).trans k3_2⟩
    go_wp2_with fail
    refine (rrights_any _ ax ay az).mono ?_
    rintro e w1 ⟨rfl, hb1⟩
    have hL1 : Below w0.heap.size w0 w1 := hb1
    obtain ⟨-, c1_0, c1_1, c1_2, c1_3, c1_4, c1_5, c1_6, c1_7, c1_8, c1_9, c1_10, c1_11⟩ := SK _ hL1
    go_wp2_with fail
    go_ret2
    exact ⟨rfl, hb0.trans (hL1.mono hb0.size)⟩

end Go.Proofs.YtblfinpfcpglcaaGreatDoor
