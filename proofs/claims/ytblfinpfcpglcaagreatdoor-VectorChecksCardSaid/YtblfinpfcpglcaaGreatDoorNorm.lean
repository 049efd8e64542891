/- vector: Normal; the same of the reference. -/
import Derived.Test.YtblfinpfcpglcaaGreatDoorPub2
namespace Go.Proofs.YtblfinpfcpglcaaGreatDoor
open Go.RowKit MLab


/-- A normal and an error number, by whether the arguments are right. -/
abbrev RN (x y z : Int) (ok : Prop) [Decidable ok] : Value := .tuple #[.agg #[.int .i64 (if ok then x else 0), .int .i64 (if ok then y else 0), .int .i64 (if ok then z else 0)], .int .i64 (if ok then 0 else 2)]
theorem RN_pos (x y z : Int) {ok : Prop} [Decidable ok] (h : ok) : RN x y z ok = .tuple #[.agg #[.int .i64 x, .int .i64 y, .int .i64 z], .int .i64 0] := by simp [RN, h]
theorem RN_neg (x y z : Int) {ok : Prop} [Decidable ok] (h : ¬ ok) : RN x y z ok = .tuple #[.agg #[.int .i64 0, .int .i64 0, .int .i64 0], .int .i64 2] := by simp [RN, h]

set_option maxRecDepth 100000 in
set_option maxHeartbeats 1000000 in
theorem Normal_any (w : World) (ax ay az bx by_ bz cx cy cz : Int) :
    Calls Tryz.prog 17 #[.agg #[.int .i64 ax, .int .i64 ay, .int .i64 az], .agg #[.int .i64 bx, .int .i64 by_, .int .i64 bz], .agg #[.int .i64 cx, .int .i64 cy, .int .i64 cz]] w fun e w' => e = .returned (RN ((by_ - ay) * (cz - az) - (bz - az) * (cy - ay)) ((bz - az) * (cx - ax) - (bx - ax) * (cz - az)) ((bx - ax) * (cy - ay) - (by_ - ay) * (cx - ax)) (Co ax ∧ Co ay ∧ Co az ∧ Co bx ∧ Co by_ ∧ Co bz ∧ Co cx ∧ Co cy ∧ Co cz)) ∧ Below w.heap.size w w' := by
  by_cases hok : Co ax ∧ Co ay ∧ Co az ∧ Co bx ∧ Co by_ ∧ Co bz ∧ Co cx ∧ Co cy ∧ Co cz
  · have hchk : chkSps [(ax, ay, az), (bx, by_, bz), (cx, cy, cz)] = 0 := by simp [chkSps, okSps, hok]
    obtain ⟨hax, hay, haz, hbx, hby_, hbz, hcx, hcy, hcz⟩ := id hok
    rw [RN_pos _ _ _ hok]
    go_enter Tryz.func17, Tryz.ntmps17
    go_upto_region 1 with (fail)
    have hb0 : Below w.heap.size w ((((w.alloc (.cells #[.int .i64 ax, .int .i64 ay, .int .i64 az] 33)).alloc (.cells #[.int .i64 bx, .int .i64 by_, .int .i64 bz] 33)).alloc (.cells #[.int .i64 cx, .int .i64 cy, .int .i64 cz] 33)).alloc (.cells #[.int .i64 0, .int .i64 0, .int .i64 0] 35)) := allocs_below w [(.cells #[.int .i64 ax, .int .i64 ay, .int .i64 az] 33), (.cells #[.int .i64 bx, .int .i64 by_, .int .i64 bz] 33), (.cells #[.int .i64 cx, .int .i64 cy, .int .i64 cz] 33), (.cells #[.int .i64 0, .int .i64 0, .int .i64 0] 35)]
    have s0 : w.heap.size + 4 ≤ ((((w.alloc (.cells #[.int .i64 ax, .int .i64 ay, .int .i64 az] 33)).alloc (.cells #[.int .i64 bx, .int .i64 by_, .int .i64 bz] 33)).alloc (.cells #[.int .i64 cx, .int .i64 cy, .int .i64 cz] 33)).alloc (.cells #[.int .i64 0, .int .i64 0, .int .i64 0] 35)).heap.size := Nat.le_of_eq (allocs_size w [(.cells #[.int .i64 ax, .int .i64 ay, .int .i64 az] 33), (.cells #[.int .i64 bx, .int .i64 by_, .int .i64 bz] 33), (.cells #[.int .i64 cx, .int .i64 cy, .int .i64 cz] 33), (.cells #[.int .i64 0, .int .i64 0, .int .i64 0] 35)]).symm
    have kb0 : ((((w.alloc (.cells #[.int .i64 ax, .int .i64 ay, .int .i64 az] 33)).alloc (.cells #[.int .i64 bx, .int .i64 by_, .int .i64 bz] 33)).alloc (.cells #[.int .i64 cx, .int .i64 cy, .int .i64 cz] 33)).alloc (.cells #[.int .i64 0, .int .i64 0, .int .i64 0] 35)).heap[w.heap.size + 0]? = some (.cells #[.int .i64 ax, .int .i64 ay, .int .i64 az] 33) := allocs_at w [(.cells #[.int .i64 ax, .int .i64 ay, .int .i64 az] 33), (.cells #[.int .i64 bx, .int .i64 by_, .int .i64 bz] 33), (.cells #[.int .i64 cx, .int .i64 cy, .int .i64 cz] 33), (.cells #[.int .i64 0, .int .i64 0, .int .i64 0] 35)] 0 rfl
    have kb1 : ((((w.alloc (.cells #[.int .i64 ax, .int .i64 ay, .int .i64 az] 33)).alloc (.cells #[.int .i64 bx, .int .i64 by_, .int .i64 bz] 33)).alloc (.cells #[.int .i64 cx, .int .i64 cy, .int .i64 cz] 33)).alloc (.cells #[.int .i64 0, .int .i64 0, .int .i64 0] 35)).heap[w.heap.size + 1]? = some (.cells #[.int .i64 bx, .int .i64 by_, .int .i64 bz] 33) := allocs_at w [(.cells #[.int .i64 ax, .int .i64 ay, .int .i64 az] 33), (.cells #[.int .i64 bx, .int .i64 by_, .int .i64 bz] 33), (.cells #[.int .i64 cx, .int .i64 cy, .int .i64 cz] 33), (.cells #[.int .i64 0, .int .i64 0, .int .i64 0] 35)] 1 rfl
    have kb2 : ((((w.alloc (.cells #[.int .i64 ax, .int .i64 ay, .int .i64 az] 33)).alloc (.cells #[.int .i64 bx, .int .i64 by_, .int .i64 bz] 33)).alloc (.cells #[.int .i64 cx, .int .i64 cy, .int .i64 cz] 33)).alloc (.cells #[.int .i64 0, .int .i64 0, .int .i64 0] 35)).heap[w.heap.size + 2]? = some (.cells #[.int .i64 cx, .int .i64 cy, .int .i64 cz] 33) := allocs_at w [(.cells #[.int .i64 ax, .int .i64 ay, .int .i64 az] 33), (.cells #[.int .i64 bx, .int .i64 by_, .int .i64 bz] 33), (.cells #[.int .i64 cx, .int .i64 cy, .int .i64 cz] 33), (.cells #[.int .i64 0, .int .i64 0, .int .i64 0] 35)] 2 rfl
    have kr_3 : ((((w.alloc (.cells #[.int .i64 ax, .int .i64 ay, .int .i64 az] 33)).alloc (.cells #[.int .i64 bx, .int .i64 by_, .int .i64 bz] 33)).alloc (.cells #[.int .i64 cx, .int .i64 cy, .int .i64 cz] 33)).alloc (.cells #[.int .i64 0, .int .i64 0, .int .i64 0] 35)).heap[w.heap.size + 3]? = some (.cells #[.int .i64 0, .int .i64 0, .int .i64 0] 35) := allocs_at w [(.cells #[.int .i64 ax, .int .i64 ay, .int .i64 az] 33), (.cells #[.int .i64 bx, .int .i64 by_, .int .i64 bz] 33), (.cells #[.int .i64 cx, .int .i64 cy, .int .i64 cz] 33), (.cells #[.int .i64 0, .int .i64 0, .int .i64 0] 35)] 3 rfl
    generalize ((((w.alloc (.cells #[.int .i64 ax, .int .i64 ay, .int .i64 az] 33)).alloc (.cells #[.int .i64 bx, .int .i64 by_, .int .i64 bz] 33)).alloc (.cells #[.int .i64 cx, .int .i64 cy, .int .i64 cz] 33)).alloc (.cells #[.int .i64 0, .int .i64 0, .int .i64 0] 35)) = w0 at *
    have k0_0 : w0.cell? ⟨w.heap.size, 0, none⟩ = some (.int .i64 ax) := (Blk.cell kb0 0).trans rfl
    have k0_1 : w0.cell? ⟨w.heap.size, 1, none⟩ = some (.int .i64 ay) := (Blk.cell kb0 1).trans rfl
    have k0_2 : w0.cell? ⟨w.heap.size, 2, none⟩ = some (.int .i64 az) := (Blk.cell kb0 2).trans rfl
    have k1_0 : w0.cell? ⟨w.heap.size + 1, 0, none⟩ = some (.int .i64 bx) := (Blk.cell kb1 0).trans rfl
    have k1_1 : w0.cell? ⟨w.heap.size + 1, 1, none⟩ = some (.int .i64 by_) := (Blk.cell kb1 1).trans rfl
    have k1_2 : w0.cell? ⟨w.heap.size + 1, 2, none⟩ = some (.int .i64 bz) := (Blk.cell kb1 2).trans rfl
    have k2_0 : w0.cell? ⟨w.heap.size + 1 + 1, 0, none⟩ = some (.int .i64 cx) := (Blk.cell kb2 0).trans rfl
    have k2_1 : w0.cell? ⟨w.heap.size + 1 + 1, 1, none⟩ = some (.int .i64 cy) := (Blk.cell kb2 1).trans rfl
    have k2_2 : w0.cell? ⟨w.heap.size + 1 + 1, 2, none⟩ = some (.int .i64 cz) := (Blk.cell kb2 2).trans rfl
    clear kb0 kb1 kb2
    have SK : ∀ w', Below w0.heap.size w0 w' → Below w0.heap.size w0 w' ∧ w'.cell? ⟨w.heap.size, 0, none⟩ = some (.int .i64 ax) ∧ w'.cell? ⟨w.heap.size, 1, none⟩ = some (.int .i64 ay) ∧ w'.cell? ⟨w.heap.size, 2, none⟩ = some (.int .i64 az) ∧ w'.cell? ⟨w.heap.size + 1, 0, none⟩ = some (.int .i64 bx) ∧ w'.cell? ⟨w.heap.size + 1, 1, none⟩ = some (.int .i64 by_) ∧ w'.cell? ⟨w.heap.size + 1, 2, none⟩ = some (.int .i64 bz) ∧ w'.cell? ⟨w.heap.size + 1 + 1, 0, none⟩ = some (.int .i64 cx) ∧ w'.cell? ⟨w.heap.size + 1 + 1, 1, none⟩ = some (.int .i64 cy) ∧ w'.cell? ⟨w.heap.size + 1 + 1, 2, none⟩ = some (.int .i64 cz) := fun w' h => ⟨h, (bcell h _ _ (by omega)).trans k0_0, (bcell h _ _ (by omega)).trans k0_1, (bcell h _ _ (by omega)).trans k0_2, (bcell h _ _ (by omega)).trans k1_0, (bcell h _ _ (by omega)).trans k1_1, (bcell h _ _ (by omega)).trans k1_2, (bcell h _ _ (by omega)).trans k2_0, (bcell h _ _ (by omega)).trans k2_1, (bcell h _ _ (by omega)).trans k2_2⟩
    go_wp2_with fail
    refine (alls_any _ _ [(ax, ay, az), (bx, by_, bz), (cx, cy, cz)] (Sps3 w0 (ax, ay, az) (bx, by_, bz) (cx, cy, cz) _ _) (by simp)).mono ?_
    rintro e w1 ⟨rfl, hb1⟩
    have hb1' := (allocs_below w0 [_]).trans (hb1.mono (by simp))
    rw [hchk]
    have hL1 : Below w0.heap.size w0 w1 := hb1'
    obtain ⟨-, c1_0, c1_1, c1_2, c1_3, c1_4, c1_5, c1_6, c1_7, c1_8⟩ := SK _ hL1
    go_wp2_with fail
    refine (normal_any _ ax ay az bx by_ bz cx cy cz hax hay haz hbx hby_ hbz hcx hcy hcz).mono ?_
    rintro e w2 ⟨rfl, hb2⟩
    have hL2 : Below w0.heap.size w0 w2 := hL1.trans (hb2.mono hL1.size)
    obtain ⟨-, c2_0, c2_1, c2_2, c2_3, c2_4, c2_5, c2_6, c2_7, c2_8⟩ := SK _ hL2
    have kr2 : (w2.alloc (.cells #[.int .i64 ((by_ - ay) * (cz - az) - (bz - az) * (cy - ay)), .int .i64 ((bz - az) * (cx - ax) - (bx - ax) * (cz - az)), .int .i64 ((bx - ax) * (cy - ay) - (by_ - ay) * (cx - ax))] 99)).heap[w.heap.size + 1 + 1 + 1]? = some (.cells #[.int .i64 0, .int .i64 0, .int .i64 0] 35) := Blk.alloc ((hL2.block _ (by omega)).trans kr_3) _
    have kc2_0 : (w2.alloc (.cells #[.int .i64 ((by_ - ay) * (cz - az) - (bz - az) * (cy - ay)), .int .i64 ((bz - az) * (cx - ax) - (bx - ax) * (cz - az)), .int .i64 ((bx - ax) * (cy - ay) - (by_ - ay) * (cx - ax))] 99)).cell? ⟨w.heap.size + 1 + 1 + 1, 0, none⟩ = some (.int .i64 0) := (Blk.cell kr2 0).trans rfl
    have kc2_1 : (w2.alloc (.cells #[.int .i64 ((by_ - ay) * (cz - az) - (bz - az) * (cy - ay)), .int .i64 ((bz - az) * (cx - ax) - (bx - ax) * (cz - az)), .int .i64 ((bx - ax) * (cy - ay) - (by_ - ay) * (cx - ax))] 99)).cell? ⟨w.heap.size + 1 + 1 + 1, 1, none⟩ = some (.int .i64 0) := (Blk.cell kr2 1).trans rfl
    have kc2_2 : (w2.alloc (.cells #[.int .i64 ((by_ - ay) * (cz - az) - (bz - az) * (cy - ay)), .int .i64 ((bz - az) * (cx - ax) - (bx - ax) * (cz - az)), .int .i64 ((bx - ax) * (cy - ay) - (by_ - ay) * (cx - ax))] 99)).cell? ⟨w.heap.size + 1 + 1 + 1, 2, none⟩ = some (.int .i64 0) := (Blk.cell kr2 2).trans rfl
    have kf2_0 : (w2.alloc (.cells #[.int .i64 ((by_ - ay) * (cz - az) - (bz - az) * (cy - ay)), .int .i64 ((bz - az) * (cx - ax) - (bx - ax) * (cz - az)), .int .i64 ((bx - ax) * (cy - ay) - (by_ - ay) * (cx - ax))] 99)).frozen? ⟨w.heap.size + 1 + 1 + 1, 0, none⟩ = false := Blk.frozen kr2 0
    have kf2_1 : (w2.alloc (.cells #[.int .i64 ((by_ - ay) * (cz - az) - (bz - az) * (cy - ay)), .int .i64 ((bz - az) * (cx - ax) - (bx - ax) * (cz - az)), .int .i64 ((bx - ax) * (cy - ay) - (by_ - ay) * (cx - ax))] 99)).frozen? ⟨w.heap.size + 1 + 1 + 1, 1, none⟩ = false := Blk.frozen kr2 1
    have kf2_2 : (w2.alloc (.cells #[.int .i64 ((by_ - ay) * (cz - az) - (bz - az) * (cy - ay)), .int .i64 ((bz - az) * (cx - ax) - (bx - ax) * (cz - az)), .int .i64 ((bx - ax) * (cy - ay) - (by_ - ay) * (cx - ax))] 99)).frozen? ⟨w.heap.size + 1 + 1 + 1, 2, none⟩ = false := Blk.frozen kr2 2
    go_wp2_with fail
    have hle : w.heap.size ≤ w.heap.size + 1 + 1 + 1 := by omega
    have hlw : w.heap.size ≤ w2.heap.size := Nat.le_trans hb0.size hL2.size
    exact bodyPost_ret (v := .tuple #[.agg #[.int .i64 ((by_ - ay) * (cz - az) - (bz - az) * (cy - ay)), .int .i64 ((bz - az) * (cx - ax) - (bx - ax) * (cz - az)), .int .i64 ((bx - ax) * (cy - ay) - (by_ - ay) * (cx - ax))], .int .i64 0]) (by simp [results, Tryz.results17, go_sem, kc2_0, kc2_1, kc2_2]) rfl ⟨rfl, ((((hb0.trans (hL2.mono hb0.size)).alloc hlw _).setCell hle _).setCell hle _).setCell hle _⟩
  · have hchk : chkSps [(ax, ay, az), (bx, by_, bz), (cx, cy, cz)] = 2 := by rw [chkSps, if_neg]; intro h; exact hok (by simpa [okSps, and_assoc] using h)
    rw [RN_neg _ _ _ hok]
    go_enter Tryz.func17, Tryz.ntmps17
    go_upto_region 1 with (fail)
    have hb0 : Below w.heap.size w ((((w.alloc (.cells #[.int .i64 ax, .int .i64 ay, .int .i64 az] 33)).alloc (.cells #[.int .i64 bx, .int .i64 by_, .int .i64 bz] 33)).alloc (.cells #[.int .i64 cx, .int .i64 cy, .int .i64 cz] 33)).alloc (.cells #[.int .i64 0, .int .i64 0, .int .i64 0] 35)) := allocs_below w [(.cells #[.int .i64 ax, .int .i64 ay, .int .i64 az] 33), (.cells #[.int .i64 bx, .int .i64 by_, .int .i64 bz] 33), (.cells #[.int .i64 cx, .int .i64 cy, .int .i64 cz] 33), (.cells #[.int .i64 0, .int .i64 0, .int .i64 0] 35)]
    have s0 : w.heap.size + 4 ≤ ((((w.alloc (.cells #[.int .i64 ax, .int .i64 ay, .int .i64 az] 33)).alloc (.cells #[.int .i64 bx, .int .i64 by_, .int .i64 bz] 33)).alloc (.cells #[.int .i64 cx, .int .i64 cy, .int .i64 cz] 33)).alloc (.cells #[.int .i64 0, .int .i64 0, .int .i64 0] 35)).heap.size := Nat.le_of_eq (allocs_size w [(.cells #[.int .i64 ax, .int .i64 ay, .int .i64 az] 33), (.cells #[.int .i64 bx, .int .i64 by_, .int .i64 bz] 33), (.cells #[.int .i64 cx, .int .i64 cy, .int .i64 cz] 33), (.cells #[.int .i64 0, .int .i64 0, .int .i64 0] 35)]).symm
    have kb0 : ((((w.alloc (.cells #[.int .i64 ax, .int .i64 ay, .int .i64 az] 33)).alloc (.cells #[.int .i64 bx, .int .i64 by_, .int .i64 bz] 33)).alloc (.cells #[.int .i64 cx, .int .i64 cy, .int .i64 cz] 33)).alloc (.cells #[.int .i64 0, .int .i64 0, .int .i64 0] 35)).heap[w.heap.size + 0]? = some (.cells #[.int .i64 ax, .int .i64 ay, .int .i64 az] 33) := allocs_at w [(.cells #[.int .i64 ax, .int .i64 ay, .int .i64 az] 33), (.cells #[.int .i64 bx, .int .i64 by_, .int .i64 bz] 33), (.cells #[.int .i64 cx, .int .i64 cy, .int .i64 cz] 33), (.cells #[.int .i64 0, .int .i64 0, .int .i64 0] 35)] 0 rfl
    have kb1 : ((((w.alloc (.cells #[.int .i64 ax, .int .i64 ay, .int .i64 az] 33)).alloc (.cells #[.int .i64 bx, .int .i64 by_, .int .i64 bz] 33)).alloc (.cells #[.int .i64 cx, .int .i64 cy, .int .i64 cz] 33)).alloc (.cells #[.int .i64 0, .int .i64 0, .int .i64 0] 35)).heap[w.heap.size + 1]? = some (.cells #[.int .i64 bx, .int .i64 by_, .int .i64 bz] 33) := allocs_at w [(.cells #[.int .i64 ax, .int .i64 ay, .int .i64 az] 33), (.cells #[.int .i64 bx, .int .i64 by_, .int .i64 bz] 33), (.cells #[.int .i64 cx, .int .i64 cy, .int .i64 cz] 33), (.cells #[.int .i64 0, .int .i64 0, .int .i64 0] 35)] 1 rfl
    have kb2 : ((((w.alloc (.cells #[.int .i64 ax, .int .i64 ay, .int .i64 az] 33)).alloc (.cells #[.int .i64 bx, .int .i64 by_, .int .i64 bz] 33)).alloc (.cells #[.int .i64 cx, .int .i64 cy, .int .i64 cz] 33)).alloc (.cells #[.int .i64 0, .int .i64 0, .int .i64 0] 35)).heap[w.heap.size + 2]? = some (.cells #[.int .i64 cx, .int .i64 cy, .int .i64 cz] 33) := allocs_at w [(.cells #[.int .i64 ax, .int .i64 ay, .int .i64 az] 33), (.cells #[.int .i64 bx, .int .i64 by_, .int .i64 bz] 33), (.cells #[.int .i64 cx, .int .i64 cy, .int .i64 cz] 33), (.cells #[.int .i64 0, .int .i64 0, .int .i64 0] 35)] 2 rfl
    have kr_3 : ((((w.alloc (.cells #[.int .i64 ax, .int .i64 ay, .int .i64 az] 33)).alloc (.cells #[.int .i64 bx, .int .i64 by_, .int .i64 bz] 33)).alloc (.cells #[.int .i64 cx, .int .i64 cy, .int .i64 cz] 33)).alloc (.cells #[.int .i64 0, .int .i64 0, .int .i64 0] 35)).heap[w.heap.size + 3]? = some (.cells #[.int .i64 0, .int .i64 0, .int .i64 0] 35) := allocs_at w [(.cells #[.int .i64 ax, .int .i64 ay, .int .i64 az] 33), (.cells #[.int .i64 bx, .int .i64 by_, .int .i64 bz] 33), (.cells #[.int .i64 cx, .int .i64 cy, .int .i64 cz] 33), (.cells #[.int .i64 0, .int .i64 0, .int .i64 0] 35)] 3 rfl
    generalize ((((w.alloc (.cells #[.int .i64 ax, .int .i64 ay, .int .i64 az] 33)).alloc (.cells #[.int .i64 bx, .int .i64 by_, .int .i64 bz] 33)).alloc (.cells #[.int .i64 cx, .int .i64 cy, .int .i64 cz] 33)).alloc (.cells #[.int .i64 0, .int .i64 0, .int .i64 0] 35)) = w0 at *
    have k0_0 : w0.cell? ⟨w.heap.size, 0, none⟩ = some (.int .i64 ax) := (Blk.cell kb0 0).trans rfl
    have k0_1 : w0.cell? ⟨w.heap.size, 1, none⟩ = some (.int .i64 ay) := (Blk.cell kb0 1).trans rfl
    have k0_2 : w0.cell? ⟨w.heap.size, 2, none⟩ = some (.int .i64 az) := (Blk.cell kb0 2).trans rfl
    have k1_0 : w0.cell? ⟨w.heap.size + 1, 0, none⟩ = some (.int .i64 bx) := (Blk.cell kb1 0).trans rfl
    have k1_1 : w0.cell? ⟨w.heap.size + 1, 1, none⟩ = some (.int .i64 by_) := (Blk.cell kb1 1).trans rfl
    have k1_2 : w0.cell? ⟨w.heap.size + 1, 2, none⟩ = some (.int .i64 bz) := (Blk.cell kb1 2).trans rfl
    have k2_0 : w0.cell? ⟨w.heap.size + 1 + 1, 0, none⟩ = some (.int .i64 cx) := (Blk.cell kb2 0).trans rfl
    have k2_1 : w0.cell? ⟨w.heap.size + 1 + 1, 1, none⟩ = some (.int .i64 cy) := (Blk.cell kb2 1).trans rfl
    have k2_2 : w0.cell? ⟨w.heap.size + 1 + 1, 2, none⟩ = some (.int .i64 cz) := (Blk.cell kb2 2).trans rfl
    clear kb0 kb1 kb2
    have SK : ∀ w', Below w0.heap.size w0 w' → Below w0.heap.size w0 w' ∧ w'.cell? ⟨w.heap.size, 0, none⟩ = some (.int .i64 ax) ∧ w'.cell? ⟨w.heap.size, 1, none⟩ = some (.int .i64 ay) ∧ w'.cell? ⟨w.heap.size, 2, none⟩ = some (.int .i64 az) ∧ w'.cell? ⟨w.heap.size + 1, 0, none⟩ = some (.int .i64 bx) ∧ w'.cell? ⟨w.heap.size + 1, 1, none⟩ = some (.int .i64 by_) ∧ w'.cell? ⟨w.heap.size + 1, 2, none⟩ = some (.int .i64 bz) ∧ w'.cell? ⟨w.heap.size + 1 + 1, 0, none⟩ = some (.int .i64 cx) ∧ w'.cell? ⟨w.heap.size + 1 + 1, 1, none⟩ = some (.int .i64 cy) ∧ w'.cell? ⟨w.heap.size + 1 + 1, 2, none⟩ = some (.int .i64 cz) := fun w' h => ⟨h, (bcell h _ _ (by omega)).trans k0_0, (bcell h _ _ (by omega)).trans k0_1, (bcell h _ _ (by omega)).trans k0_2, (bcell h _ _ (by omega)).trans k1_0, (bcell h _ _ (by omega)).trans k1_1, (bcell h _ _ (by omega)).trans k1_2, (bcell h _ _ (by omega)).trans k2_0, (bcell h _ _ (by omega)).trans k2_1, (bcell h _ _ (by omega)).trans k2_2⟩
    go_wp2_with fail
    refine (alls_any _ _ [(ax, ay, az), (bx, by_, bz), (cx, cy, cz)] (Sps3 w0 (ax, ay, az) (bx, by_, bz) (cx, cy, cz) _ _) (by simp)).mono ?_
    rintro e w1 ⟨rfl, hb1⟩
    have hb1' := (allocs_below w0 [_]).trans (hb1.mono (by simp))
    rw [hchk]
    have hL1 : Below w0.heap.size w0 w1 := hb1'
    obtain ⟨-, c1_0, c1_1, c1_2, c1_3, c1_4, c1_5, c1_6, c1_7, c1_8⟩ := SK _ hL1
    have kr1 := (hL1.block _ (by omega)).trans kr_3
    have kc1_0 : w1.cell? ⟨w.heap.size + 1 + 1 + 1, 0, none⟩ = some (.int .i64 0) := (Blk.cell kr1 0).trans rfl
    have kc1_1 : w1.cell? ⟨w.heap.size + 1 + 1 + 1, 1, none⟩ = some (.int .i64 0) := (Blk.cell kr1 1).trans rfl
    have kc1_2 : w1.cell? ⟨w.heap.size + 1 + 1 + 1, 2, none⟩ = some (.int .i64 0) := (Blk.cell kr1 2).trans rfl
    have kf1_0 : w1.frozen? ⟨w.heap.size + 1 + 1 + 1, 0, none⟩ = false := Blk.frozen kr1 0
    have kf1_1 : w1.frozen? ⟨w.heap.size + 1 + 1 + 1, 1, none⟩ = false := Blk.frozen kr1 1
    have kf1_2 : w1.frozen? ⟨w.heap.size + 1 + 1 + 1, 2, none⟩ = false := Blk.frozen kr1 2
    go_wp2_with fail
    have hle : w.heap.size ≤ w.heap.size + 1 + 1 + 1 := by omega
    exact bodyPost_ret (v := .tuple #[.agg #[.int .i64 0, .int .i64 0, .int .i64 0], .int .i64 2]) (by simp [results, Tryz.results17, go_sem, kc1_0, kc1_1, kc1_2]) rfl ⟨rfl, (((hb0.trans (hL1.mono hb0.size)).setCell hle _).setCell hle _).setCell hle _⟩

set_option maxRecDepth 100000 in
set_option maxHeartbeats 1000000 in
theorem rNormal_any (w : World) (ax ay az bx by_ bz cx cy cz : Int) :
    Calls Tryz.prog 18 #[.agg #[.int .i64 ax, .int .i64 ay, .int .i64 az], .agg #[.int .i64 bx, .int .i64 by_, .int .i64 bz], .agg #[.int .i64 cx, .int .i64 cy, .int .i64 cz]] w fun e w' => e = .returned (RN ((by_ - ay) * (cz - az) - (bz - az) * (cy - ay)) ((bz - az) * (cx - ax) - (bx - ax) * (cz - az)) ((bx - ax) * (cy - ay) - (by_ - ay) * (cx - ax)) (Co ax ∧ Co ay ∧ Co az ∧ Co bx ∧ Co by_ ∧ Co bz ∧ Co cx ∧ Co cy ∧ Co cz)) ∧ Below w.heap.size w w' := by
  by_cases g0 : Co ax ∧ Co ay ∧ Co az
  · have e0 := decide_eq_true g0
    by_cases g1 : Co bx ∧ Co by_ ∧ Co bz
    · have e1 := decide_eq_true g1
      by_cases g2 : Co cx ∧ Co cy ∧ Co cz
      · have e2 := decide_eq_true g2
        have hok : Co ax ∧ Co ay ∧ Co az ∧ Co bx ∧ Co by_ ∧ Co bz ∧ Co cx ∧ Co cy ∧ Co cz := ⟨g0.1, g0.2.1, g0.2.2, g1.1, g1.2.1, g1.2.2, g2.1, g2.2.1, g2.2.2⟩
        obtain ⟨hax, hay, haz, hbx, hby_, hbz, hcx, hcy, hcz⟩ := id hok
        rw [RN_pos _ _ _ hok]
        go_enter Tryz.func18, Tryz.ntmps18
        go_upto_region 1 with (fail)
        have hb0 : Below w.heap.size w ((((w.alloc (.cells #[.int .i64 ax, .int .i64 ay, .int .i64 az] 33)).alloc (.cells #[.int .i64 bx, .int .i64 by_, .int .i64 bz] 33)).alloc (.cells #[.int .i64 cx, .int .i64 cy, .int .i64 cz] 33)).alloc (.cells #[.int .i64 0, .int .i64 0, .int .i64 0] 35)) := allocs_below w [(.cells #[.int .i64 ax, .int .i64 ay, .int .i64 az] 33), (.cells #[.int .i64 bx, .int .i64 by_, .int .i64 bz] 33), (.cells #[.int .i64 cx, .int .i64 cy, .int .i64 cz] 33), (.cells #[.int .i64 0, .int .i64 0, .int .i64 0] 35)]
        have s0 : w.heap.size + 4 ≤ ((((w.alloc (.cells #[.int .i64 ax, .int .i64 ay, .int .i64 az] 33)).alloc (.cells #[.int .i64 bx, .int .i64 by_, .int .i64 bz] 33)).alloc (.cells #[.int .i64 cx, .int .i64 cy, .int .i64 cz] 33)).alloc (.cells #[.int .i64 0, .int .i64 0, .int .i64 0] 35)).heap.size := Nat.le_of_eq (allocs_size w [(.cells #[.int .i64 ax, .int .i64 ay, .int .i64 az] 33), (.cells #[.int .i64 bx, .int .i64 by_, .int .i64 bz] 33), (.cells #[.int .i64 cx, .int .i64 cy, .int .i64 cz] 33), (.cells #[.int .i64 0, .int .i64 0, .int .i64 0] 35)]).symm
        have kb0 : ((((w.alloc (.cells #[.int .i64 ax, .int .i64 ay, .int .i64 az] 33)).alloc (.cells #[.int .i64 bx, .int .i64 by_, .int .i64 bz] 33)).alloc (.cells #[.int .i64 cx, .int .i64 cy, .int .i64 cz] 33)).alloc (.cells #[.int .i64 0, .int .i64 0, .int .i64 0] 35)).heap[w.heap.size + 0]? = some (.cells #[.int .i64 ax, .int .i64 ay, .int .i64 az] 33) := allocs_at w [(.cells #[.int .i64 ax, .int .i64 ay, .int .i64 az] 33), (.cells #[.int .i64 bx, .int .i64 by_, .int .i64 bz] 33), (.cells #[.int .i64 cx, .int .i64 cy, .int .i64 cz] 33), (.cells #[.int .i64 0, .int .i64 0, .int .i64 0] 35)] 0 rfl
        have kb1 : ((((w.alloc (.cells #[.int .i64 ax, .int .i64 ay, .int .i64 az] 33)).alloc (.cells #[.int .i64 bx, .int .i64 by_, .int .i64 bz] 33)).alloc (.cells #[.int .i64 cx, .int .i64 cy, .int .i64 cz] 33)).alloc (.cells #[.int .i64 0, .int .i64 0, .int .i64 0] 35)).heap[w.heap.size + 1]? = some (.cells #[.int .i64 bx, .int .i64 by_, .int .i64 bz] 33) := allocs_at w [(.cells #[.int .i64 ax, .int .i64 ay, .int .i64 az] 33), (.cells #[.int .i64 bx, .int .i64 by_, .int .i64 bz] 33), (.cells #[.int .i64 cx, .int .i64 cy, .int .i64 cz] 33), (.cells #[.int .i64 0, .int .i64 0, .int .i64 0] 35)] 1 rfl
        have kb2 : ((((w.alloc (.cells #[.int .i64 ax, .int .i64 ay, .int .i64 az] 33)).alloc (.cells #[.int .i64 bx, .int .i64 by_, .int .i64 bz] 33)).alloc (.cells #[.int .i64 cx, .int .i64 cy, .int .i64 cz] 33)).alloc (.cells #[.int .i64 0, .int .i64 0, .int .i64 0] 35)).heap[w.heap.size + 2]? = some (.cells #[.int .i64 cx, .int .i64 cy, .int .i64 cz] 33) := allocs_at w [(.cells #[.int .i64 ax, .int .i64 ay, .int .i64 az] 33), (.cells #[.int .i64 bx, .int .i64 by_, .int .i64 bz] 33), (.cells #[.int .i64 cx, .int .i64 cy, .int .i64 cz] 33), (.cells #[.int .i64 0, .int .i64 0, .int .i64 0] 35)] 2 rfl
        have kr_3 : ((((w.alloc (.cells #[.int .i64 ax, .int .i64 ay, .int .i64 az] 33)).alloc (.cells #[.int .i64 bx, .int .i64 by_, .int .i64 bz] 33)).alloc (.cells #[.int .i64 cx, .int .i64 cy, .int .i64 cz] 33)).alloc (.cells #[.int .i64 0, .int .i64 0, .int .i64 0] 35)).heap[w.heap.size + 3]? = some (.cells #[.int .i64 0, .int .i64 0, .int .i64 0] 35) := allocs_at w [(.cells #[.int .i64 ax, .int .i64 ay, .int .i64 az] 33), (.cells #[.int .i64 bx, .int .i64 by_, .int .i64 bz] 33), (.cells #[.int .i64 cx, .int .i64 cy, .int .i64 cz] 33), (.cells #[.int .i64 0, .int .i64 0, .int .i64 0] 35)] 3 rfl
        generalize ((((w.alloc (.cells #[.int .i64 ax, .int .i64 ay, .int .i64 az] 33)).alloc (.cells #[.int .i64 bx, .int .i64 by_, .int .i64 bz] 33)).alloc (.cells #[.int .i64 cx, .int .i64 cy, .int .i64 cz] 33)).alloc (.cells #[.int .i64 0, .int .i64 0, .int .i64 0] 35)) = w0 at *
        have k0_0 : w0.cell? ⟨w.heap.size, 0, none⟩ = some (.int .i64 ax) := (Blk.cell kb0 0).trans rfl
        have k0_1 : w0.cell? ⟨w.heap.size, 1, none⟩ = some (.int .i64 ay) := (Blk.cell kb0 1).trans rfl
        have k0_2 : w0.cell? ⟨w.heap.size, 2, none⟩ = some (.int .i64 az) := (Blk.cell kb0 2).trans rfl
        have k1_0 : w0.cell? ⟨w.heap.size + 1, 0, none⟩ = some (.int .i64 bx) := (Blk.cell kb1 0).trans rfl
        have k1_1 : w0.cell? ⟨w.heap.size + 1, 1, none⟩ = some (.int .i64 by_) := (Blk.cell kb1 1).trans rfl
        have k1_2 : w0.cell? ⟨w.heap.size + 1, 2, none⟩ = some (.int .i64 bz) := (Blk.cell kb1 2).trans rfl
        have k2_0 : w0.cell? ⟨w.heap.size + 1 + 1, 0, none⟩ = some (.int .i64 cx) := (Blk.cell kb2 0).trans rfl
        have k2_1 : w0.cell? ⟨w.heap.size + 1 + 1, 1, none⟩ = some (.int .i64 cy) := (Blk.cell kb2 1).trans rfl
        have k2_2 : w0.cell? ⟨w.heap.size + 1 + 1, 2, none⟩ = some (.int .i64 cz) := (Blk.cell kb2 2).trans rfl
        clear kb0 kb1 kb2
        have SK : ∀ w', Below w0.heap.size w0 w' → Below w0.heap.size w0 w' ∧ w'.cell? ⟨w.heap.size, 0, none⟩ = some (.int .i64 ax) ∧ w'.cell? ⟨w.heap.size, 1, none⟩ = some (.int .i64 ay) ∧ w'.cell? ⟨w.heap.size, 2, none⟩ = some (.int .i64 az) ∧ w'.cell? ⟨w.heap.size + 1, 0, none⟩ = some (.int .i64 bx) ∧ w'.cell? ⟨w.heap.size + 1, 1, none⟩ = some (.int .i64 by_) ∧ w'.cell? ⟨w.heap.size + 1, 2, none⟩ = some (.int .i64 bz) ∧ w'.cell? ⟨w.heap.size + 1 + 1, 0, none⟩ = some (.int .i64 cx) ∧ w'.cell? ⟨w.heap.size + 1 + 1, 1, none⟩ = some (.int .i64 cy) ∧ w'.cell? ⟨w.heap.size + 1 + 1, 2, none⟩ = some (.int .i64 cz) := fun w' h => ⟨h, (bcell h _ _ (by omega)).trans k0_0, (bcell h _ _ (by omega)).trans k0_1, (bcell h _ _ (by omega)).trans k0_2, (bcell h _ _ (by omega)).trans k1_0, (bcell h _ _ (by omega)).trans k1_1, (bcell h _ _ (by omega)).trans k1_2, (bcell h _ _ (by omega)).trans k2_0, (bcell h _ _ (by omega)).trans k2_1, (bcell h _ _ (by omega)).trans k2_2⟩
        go_wp2_with fail
        refine (rrights_any _ ax ay az).mono ?_
        rintro e w1 ⟨rfl, hb1⟩
        have hL1 : Below w0.heap.size w0 w1 := hb1
        obtain ⟨-, c1_0, c1_1, c1_2, c1_3, c1_4, c1_5, c1_6, c1_7, c1_8⟩ := SK _ hL1
        go_wp2_with fail
        refine (rrights_any _ bx by_ bz).mono ?_
        rintro e w2 ⟨rfl, hb2⟩
        have hL2 : Below w0.heap.size w0 w2 := hL1.trans (hb2.mono hL1.size)
        obtain ⟨-, c2_0, c2_1, c2_2, c2_3, c2_4, c2_5, c2_6, c2_7, c2_8⟩ := SK _ hL2
        go_wp2_with fail
        refine (rrights_any _ cx cy cz).mono ?_
        rintro e w3 ⟨rfl, hb3⟩
        have hL3 : Below w0.heap.size w0 w3 := hL2.trans (hb3.mono hL2.size)
        obtain ⟨-, c3_0, c3_1, c3_2, c3_3, c3_4, c3_5, c3_6, c3_7, c3_8⟩ := SK _ hL3
        go_wp2_with fail
        refine (racross_any _ ax ay az bx by_ bz cx cy cz hax hay haz hbx hby_ hbz hcx hcy hcz).mono ?_
        rintro e wz ⟨rfl, hbz⟩
        have hL4 : Below w0.heap.size w0 wz := hL3.trans (hbz.mono hL3.size)
        obtain ⟨-, c4_0, c4_1, c4_2, c4_3, c4_4, c4_5, c4_6, c4_7, c4_8⟩ := SK _ hL4
        have kr2 : (wz.alloc (.cells #[.int .i64 ((by_ - ay) * (cz - az) - (bz - az) * (cy - ay)), .int .i64 ((bz - az) * (cx - ax) - (bx - ax) * (cz - az)), .int .i64 ((bx - ax) * (cy - ay) - (by_ - ay) * (cx - ax))] 33)).heap[w.heap.size + 1 + 1 + 1]? = some (.cells #[.int .i64 0, .int .i64 0, .int .i64 0] 35) := Blk.alloc ((hL4.block _ (by omega)).trans kr_3) _
        have kc2_0 : (wz.alloc (.cells #[.int .i64 ((by_ - ay) * (cz - az) - (bz - az) * (cy - ay)), .int .i64 ((bz - az) * (cx - ax) - (bx - ax) * (cz - az)), .int .i64 ((bx - ax) * (cy - ay) - (by_ - ay) * (cx - ax))] 33)).cell? ⟨w.heap.size + 1 + 1 + 1, 0, none⟩ = some (.int .i64 0) := (Blk.cell kr2 0).trans rfl
        have kc2_1 : (wz.alloc (.cells #[.int .i64 ((by_ - ay) * (cz - az) - (bz - az) * (cy - ay)), .int .i64 ((bz - az) * (cx - ax) - (bx - ax) * (cz - az)), .int .i64 ((bx - ax) * (cy - ay) - (by_ - ay) * (cx - ax))] 33)).cell? ⟨w.heap.size + 1 + 1 + 1, 1, none⟩ = some (.int .i64 0) := (Blk.cell kr2 1).trans rfl
        have kc2_2 : (wz.alloc (.cells #[.int .i64 ((by_ - ay) * (cz - az) - (bz - az) * (cy - ay)), .int .i64 ((bz - az) * (cx - ax) - (bx - ax) * (cz - az)), .int .i64 ((bx - ax) * (cy - ay) - (by_ - ay) * (cx - ax))] 33)).cell? ⟨w.heap.size + 1 + 1 + 1, 2, none⟩ = some (.int .i64 0) := (Blk.cell kr2 2).trans rfl
        have kf2_0 : (wz.alloc (.cells #[.int .i64 ((by_ - ay) * (cz - az) - (bz - az) * (cy - ay)), .int .i64 ((bz - az) * (cx - ax) - (bx - ax) * (cz - az)), .int .i64 ((bx - ax) * (cy - ay) - (by_ - ay) * (cx - ax))] 33)).frozen? ⟨w.heap.size + 1 + 1 + 1, 0, none⟩ = false := Blk.frozen kr2 0
        have kf2_1 : (wz.alloc (.cells #[.int .i64 ((by_ - ay) * (cz - az) - (bz - az) * (cy - ay)), .int .i64 ((bz - az) * (cx - ax) - (bx - ax) * (cz - az)), .int .i64 ((bx - ax) * (cy - ay) - (by_ - ay) * (cx - ax))] 33)).frozen? ⟨w.heap.size + 1 + 1 + 1, 1, none⟩ = false := Blk.frozen kr2 1
        have kf2_2 : (wz.alloc (.cells #[.int .i64 ((by_ - ay) * (cz - az) - (bz - az) * (cy - ay)), .int .i64 ((bz - az) * (cx - ax) - (bx - ax) * (cz - az)), .int .i64 ((bx - ax) * (cy - ay) - (by_ - ay) * (cx - ax))] 33)).frozen? ⟨w.heap.size + 1 + 1 + 1, 2, none⟩ = false := Blk.frozen kr2 2
        go_wp2_with fail
        have hle : w.heap.size ≤ w.heap.size + 1 + 1 + 1 := by omega
        have hlw : w.heap.size ≤ wz.heap.size := Nat.le_trans hb0.size hL4.size
        exact bodyPost_ret (v := .tuple #[.agg #[.int .i64 ((by_ - ay) * (cz - az) - (bz - az) * (cy - ay)), .int .i64 ((bz - az) * (cx - ax) - (bx - ax) * (cz - az)), .int .i64 ((bx - ax) * (cy - ay) - (by_ - ay) * (cx - ax))], .int .i64 0]) (by simp [results, Tryz.results18, go_sem, kc2_0, kc2_1, kc2_2]) rfl ⟨rfl, ((((hb0.trans (hL4.mono hb0.size)).alloc hlw _).setCell hle _).setCell hle _).setCell hle _⟩
      · have e2 := decide_eq_false g2
        have hok : ¬ (Co ax ∧ Co ay ∧ Co az ∧ Co bx ∧ Co by_ ∧ Co bz ∧ Co cx ∧ Co cy ∧ Co cz) := fun h => g2 ⟨h.2.2.2.2.2.2.1, h.2.2.2.2.2.2.2.1, h.2.2.2.2.2.2.2.2⟩
        rw [RN_neg _ _ _ hok]
        go_enter Tryz.func18, Tryz.ntmps18
        go_upto_region 1 with (fail)
        have hb0 : Below w.heap.size w ((((w.alloc (.cells #[.int .i64 ax, .int .i64 ay, .int .i64 az] 33)).alloc (.cells #[.int .i64 bx, .int .i64 by_, .int .i64 bz] 33)).alloc (.cells #[.int .i64 cx, .int .i64 cy, .int .i64 cz] 33)).alloc (.cells #[.int .i64 0, .int .i64 0, .int .i64 0] 35)) := allocs_below w [(.cells #[.int .i64 ax, .int .i64 ay, .int .i64 az] 33), (.cells #[.int .i64 bx, .int .i64 by_, .int .i64 bz] 33), (.cells #[.int .i64 cx, .int .i64 cy, .int .i64 cz] 33), (.cells #[.int .i64 0, .int .i64 0, .int .i64 0] 35)]
        have s0 : w.heap.size + 4 ≤ ((((w.alloc (.cells #[.int .i64 ax, .int .i64 ay, .int .i64 az] 33)).alloc (.cells #[.int .i64 bx, .int .i64 by_, .int .i64 bz] 33)).alloc (.cells #[.int .i64 cx, .int .i64 cy, .int .i64 cz] 33)).alloc (.cells #[.int .i64 0, .int .i64 0, .int .i64 0] 35)).heap.size := Nat.le_of_eq (allocs_size w [(.cells #[.int .i64 ax, .int .i64 ay, .int .i64 az] 33), (.cells #[.int .i64 bx, .int .i64 by_, .int .i64 bz] 33), (.cells #[.int .i64 cx, .int .i64 cy, .int .i64 cz] 33), (.cells #[.int .i64 0, .int .i64 0, .int .i64 0] 35)]).symm
        have kb0 : ((((w.alloc (.cells #[.int .i64 ax, .int .i64 ay, .int .i64 az] 33)).alloc (.cells #[.int .i64 bx, .int .i64 by_, .int .i64 bz] 33)).alloc (.cells #[.int .i64 cx, .int .i64 cy, .int .i64 cz] 33)).alloc (.cells #[.int .i64 0, .int .i64 0, .int .i64 0] 35)).heap[w.heap.size + 0]? = some (.cells #[.int .i64 ax, .int .i64 ay, .int .i64 az] 33) := allocs_at w [(.cells #[.int .i64 ax, .int .i64 ay, .int .i64 az] 33), (.cells #[.int .i64 bx, .int .i64 by_, .int .i64 bz] 33), (.cells #[.int .i64 cx, .int .i64 cy, .int .i64 cz] 33), (.cells #[.int .i64 0, .int .i64 0, .int .i64 0] 35)] 0 rfl
        have kb1 : ((((w.alloc (.cells #[.int .i64 ax, .int .i64 ay, .int .i64 az] 33)).alloc (.cells #[.int .i64 bx, .int .i64 by_, .int .i64 bz] 33)).alloc (.cells #[.int .i64 cx, .int .i64 cy, .int .i64 cz] 33)).alloc (.cells #[.int .i64 0, .int .i64 0, .int .i64 0] 35)).heap[w.heap.size + 1]? = some (.cells #[.int .i64 bx, .int .i64 by_, .int .i64 bz] 33) := allocs_at w [(.cells #[.int .i64 ax, .int .i64 ay, .int .i64 az] 33), (.cells #[.int .i64 bx, .int .i64 by_, .int .i64 bz] 33), (.cells #[.int .i64 cx, .int .i64 cy, .int .i64 cz] 33), (.cells #[.int .i64 0, .int .i64 0, .int .i64 0] 35)] 1 rfl
        have kb2 : ((((w.alloc (.cells #[.int .i64 ax, .int .i64 ay, .int .i64 az] 33)).alloc (.cells #[.int .i64 bx, .int .i64 by_, .int .i64 bz] 33)).alloc (.cells #[.int .i64 cx, .int .i64 cy, .int .i64 cz] 33)).alloc (.cells #[.int .i64 0, .int .i64 0, .int .i64 0] 35)).heap[w.heap.size + 2]? = some (.cells #[.int .i64 cx, .int .i64 cy, .int .i64 cz] 33) := allocs_at w [(.cells #[.int .i64 ax, .int .i64 ay, .int .i64 az] 33), (.cells #[.int .i64 bx, .int .i64 by_, .int .i64 bz] 33), (.cells #[.int .i64 cx, .int .i64 cy, .int .i64 cz] 33), (.cells #[.int .i64 0, .int .i64 0, .int .i64 0] 35)] 2 rfl
        have kr_3 : ((((w.alloc (.cells #[.int .i64 ax, .int .i64 ay, .int .i64 az] 33)).alloc (.cells #[.int .i64 bx, .int .i64 by_, .int .i64 bz] 33)).alloc (.cells #[.int .i64 cx, .int .i64 cy, .int .i64 cz] 33)).alloc (.cells #[.int .i64 0, .int .i64 0, .int .i64 0] 35)).heap[w.heap.size + 3]? = some (.cells #[.int .i64 0, .int .i64 0, .int .i64 0] 35) := allocs_at w [(.cells #[.int .i64 ax, .int .i64 ay, .int .i64 az] 33), (.cells #[.int .i64 bx, .int .i64 by_, .int .i64 bz] 33), (.cells #[.int .i64 cx, .int .i64 cy, .int .i64 cz] 33), (.cells #[.int .i64 0, .int .i64 0, .int .i64 0] 35)] 3 rfl
        generalize ((((w.alloc (.cells #[.int .i64 ax, .int .i64 ay, .int .i64 az] 33)).alloc (.cells #[.int .i64 bx, .int .i64 by_, .int .i64 bz] 33)).alloc (.cells #[.int .i64 cx, .int .i64 cy, .int .i64 cz] 33)).alloc (.cells #[.int .i64 0, .int .i64 0, .int .i64 0] 35)) = w0 at *
        have k0_0 : w0.cell? ⟨w.heap.size, 0, none⟩ = some (.int .i64 ax) := (Blk.cell kb0 0).trans rfl
        have k0_1 : w0.cell? ⟨w.heap.size, 1, none⟩ = some (.int .i64 ay) := (Blk.cell kb0 1).trans rfl
        have k0_2 : w0.cell? ⟨w.heap.size, 2, none⟩ = some (.int .i64 az) := (Blk.cell kb0 2).trans rfl
        have k1_0 : w0.cell? ⟨w.heap.size + 1, 0, none⟩ = some (.int .i64 bx) := (Blk.cell kb1 0).trans rfl
        have k1_1 : w0.cell? ⟨w.heap.size + 1, 1, none⟩ = some (.int .i64 by_) := (Blk.cell kb1 1).trans rfl
        have k1_2 : w0.cell? ⟨w.heap.size + 1, 2, none⟩ = some (.int .i64 bz) := (Blk.cell kb1 2).trans rfl
        have k2_0 : w0.cell? ⟨w.heap.size + 1 + 1, 0, none⟩ = some (.int .i64 cx) := (Blk.cell kb2 0).trans rfl
        have k2_1 : w0.cell? ⟨w.heap.size + 1 + 1, 1, none⟩ = some (.int .i64 cy) := (Blk.cell kb2 1).trans rfl
        have k2_2 : w0.cell? ⟨w.heap.size + 1 + 1, 2, none⟩ = some (.int .i64 cz) := (Blk.cell kb2 2).trans rfl
        clear kb0 kb1 kb2
        have SK : ∀ w', Below w0.heap.size w0 w' → Below w0.heap.size w0 w' ∧ w'.cell? ⟨w.heap.size, 0, none⟩ = some (.int .i64 ax) ∧ w'.cell? ⟨w.heap.size, 1, none⟩ = some (.int .i64 ay) ∧ w'.cell? ⟨w.heap.size, 2, none⟩ = some (.int .i64 az) ∧ w'.cell? ⟨w.heap.size + 1, 0, none⟩ = some (.int .i64 bx) ∧ w'.cell? ⟨w.heap.size + 1, 1, none⟩ = some (.int .i64 by_) ∧ w'.cell? ⟨w.heap.size + 1, 2, none⟩ = some (.int .i64 bz) ∧ w'.cell? ⟨w.heap.size + 1 + 1, 0, none⟩ = some (.int .i64 cx) ∧ w'.cell? ⟨w.heap.size + 1 + 1, 1, none⟩ = some (.int .i64 cy) ∧ w'.cell? ⟨w.heap.size + 1 + 1, 2, none⟩ = some (.int .i64 cz) := fun w' h => ⟨h, (bcell h _ _ (by omega)).trans k0_0, (bcell h _ _ (by omega)).trans k0_1, (bcell h _ _ (by omega)).trans k0_2, (bcell h _ _ (by omega)).trans k1_0, (bcell h _ _ (by omega)).trans k1_1, (bcell h _ _ (by omega)).trans k1_2, (bcell h _ _ (by omega)).trans k2_0, (bcell h _ _ (by omega)).trans k2_1, (bcell h _ _ (by omega)).trans k2_2⟩
        go_wp2_with fail
        refine (rrights_any _ ax ay az).mono ?_
        rintro e w1 ⟨rfl, hb1⟩
        have hL1 : Below w0.heap.size w0 w1 := hb1
        obtain ⟨-, c1_0, c1_1, c1_2, c1_3, c1_4, c1_5, c1_6, c1_7, c1_8⟩ := SK _ hL1
        go_wp2_with fail
        refine (rrights_any _ bx by_ bz).mono ?_
        rintro e w2 ⟨rfl, hb2⟩
        have hL2 : Below w0.heap.size w0 w2 := hL1.trans (hb2.mono hL1.size)
        obtain ⟨-, c2_0, c2_1, c2_2, c2_3, c2_4, c2_5, c2_6, c2_7, c2_8⟩ := SK _ hL2
        go_wp2_with fail
        refine (rrights_any _ cx cy cz).mono ?_
        rintro e w3 ⟨rfl, hb3⟩
        have hL3 : Below w0.heap.size w0 w3 := hL2.trans (hb3.mono hL2.size)
        obtain ⟨-, c3_0, c3_1, c3_2, c3_3, c3_4, c3_5, c3_6, c3_7, c3_8⟩ := SK _ hL3
        have kr9 := (hL3.block _ (by omega)).trans kr_3
        have kc9_0 : w3.cell? ⟨w.heap.size + 1 + 1 + 1, 0, none⟩ = some (.int .i64 0) := (Blk.cell kr9 0).trans rfl
        have kc9_1 : w3.cell? ⟨w.heap.size + 1 + 1 + 1, 1, none⟩ = some (.int .i64 0) := (Blk.cell kr9 1).trans rfl
        have kc9_2 : w3.cell? ⟨w.heap.size + 1 + 1 + 1, 2, none⟩ = some (.int .i64 0) := (Blk.cell kr9 2).trans rfl
        have kf9_0 : w3.frozen? ⟨w.heap.size + 1 + 1 + 1, 0, none⟩ = false := Blk.frozen kr9 0
        have kf9_1 : w3.frozen? ⟨w.heap.size + 1 + 1 + 1, 1, none⟩ = false := Blk.frozen kr9 1
        have kf9_2 : w3.frozen? ⟨w.heap.size + 1 + 1 + 1, 2, none⟩ = false := Blk.frozen kr9 2
        go_wp2_with fail
        have hle : w.heap.size ≤ w.heap.size + 1 + 1 + 1 := by omega
        exact bodyPost_ret (v := .tuple #[.agg #[.int .i64 0, .int .i64 0, .int .i64 0], .int .i64 2]) (by simp [results, Tryz.results18, go_sem, kc9_0, kc9_1, kc9_2]) rfl ⟨rfl, (((hb0.trans (hL3.mono hb0.size)).setCell hle _).setCell hle _).setCell hle _⟩
    · have e1 := decide_eq_false g1
      have hok : ¬ (Co ax ∧ Co ay ∧ Co az ∧ Co bx ∧ Co by_ ∧ Co bz ∧ Co cx ∧ Co cy ∧ Co cz) := fun h => g1 ⟨h.2.2.2.1, h.2.2.2.2.1, h.2.2.2.2.2.1⟩
      rw [RN_neg _ _ _ hok]
      go_enter Tryz.func18, Tryz.ntmps18
      go_upto_region 1 with (fail)
      have hb0 : Below w.heap.size w ((((w.alloc (.cells #[.int .i64 ax, .int .i64 ay, .int .i64 az] 33)).alloc (.cells #[.int .i64 bx, .int .i64 by_, .int .i64 bz] 33)).alloc (.cells #[.int .i64 cx, .int .i64 cy, .int .i64 cz] 33)).alloc (.cells #[.int .i64 0, .int .i64 0, .int .i64 0] 35)) := allocs_below w [(.cells #[.int .i64 ax, .int .i64 ay, .int .i64 az] 33), (.cells #[.int .i64 bx, .int .i64 by_, .int .i64 bz] 33), (.cells #[.int .i64 cx, .int .i64 cy, .int .i64 cz] 33), (.cells #[.int .i64 0, .int .i64 0, .int .i64 0] 35)]
      have s0 : w.heap.size + 4 ≤ ((((w.alloc (.cells #[.int .i64 ax, .int .i64 ay, .int .i64 az] 33)).alloc (.cells #[.int .i64 bx, .int .i64 by_, .int .i64 bz] 33)).alloc (.cells #[.int .i64 cx, .int .i64 cy, .int .i64 cz] 33)).alloc (.cells #[.int .i64 0, .int .i64 0, .int .i64 0] 35)).heap.size := Nat.le_of_eq (allocs_size w [(.cells #[.int .i64 ax, .int .i64 ay, .int .i64 az] 33), (.cells #[.int .i64 bx, .int .i64 by_, .int .i64 bz] 33), (.cells #[.int .i64 cx, .int .i64 cy, .int .i64 cz] 33), (.cells #[.int .i64 0, .int .i64 0, .int .i64 0] 35)]).symm
      have kb0 : ((((w.alloc (.cells #[.int .i64 ax, .int .i64 ay, .int .i64 az] 33)).alloc (.cells #[.int .i64 bx, .int .i64 by_, .int .i64 bz] 33)).alloc (.cells #[.int .i64 cx, .int .i64 cy, .int .i64 cz] 33)).alloc (.cells #[.int .i64 0, .int .i64 0, .int .i64 0] 35)).heap[w.heap.size + 0]? = some (.cells #[.int .i64 ax, .int .i64 ay, .int .i64 az] 33) := allocs_at w [(.cells #[.int .i64 ax, .int .i64 ay, .int .i64 az] 33), (.cells #[.int .i64 bx, .int .i64 by_, .int .i64 bz] 33), (.cells #[.int .i64 cx, .int .i64 cy, .int .i64 cz] 33), (.cells #[.int .i64 0, .int .i64 0, .int .i64 0] 35)] 0 rfl
      have kb1 : ((((w.alloc (.cells #[.int .i64 ax, .int .i64 ay, .int .i64 az] 33)).alloc (.cells #[.int .i64 bx, .int .i64 by_, .int .i64 bz] 33)).alloc (.cells #[.int .i64 cx, .int .i64 cy, .int .i64 cz] 33)).alloc (.cells #[.int .i64 0, .int .i64 0, .int .i64 0] 35)).heap[w.heap.size + 1]? = some (.cells #[.int .i64 bx, .int .i64 by_, .int .i64 bz] 33) := allocs_at w [(.cells #[.int .i64 ax, .int .i64 ay, .int .i64 az] 33), (.cells #[.int .i64 bx, .int .i64 by_, .int .i64 bz] 33), (.cells #[.int .i64 cx, .int .i64 cy, .int .i64 cz] 33), (.cells #[.int .i64 0, .int .i64 0, .int .i64 0] 35)] 1 rfl
      have kb2 : ((((w.alloc (.cells #[.int .i64 ax, .int .i64 ay, .int .i64 az] 33)).alloc (.cells #[.int .i64 bx, .int .i64 by_, .int .i64 bz] 33)).alloc (.cells #[.int .i64 cx, .int .i64 cy, .int .i64 cz] 33)).alloc (.cells #[.int .i64 0, .int .i64 0, .int .i64 0] 35)).heap[w.heap.size + 2]? = some (.cells #[.int .i64 cx, .int .i64 cy, .int .i64 cz] 33) := allocs_at w [(.cells #[.int .i64 ax, .int .i64 ay, .int .i64 az] 33), (.cells #[.int .i64 bx, .int .i64 by_, .int .i64 bz] 33), (.cells #[.int .i64 cx, .int .i64 cy, .int .i64 cz] 33), (.cells #[.int .i64 0, .int .i64 0, .int .i64 0] 35)] 2 rfl
      have kr_3 : ((((w.alloc (.cells #[.int .i64 ax, .int .i64 ay, .int .i64 az] 33)).alloc (.cells #[.int .i64 bx, .int .i64 by_, .int .i64 bz] 33)).alloc (.cells #[.int .i64 cx, .int .i64 cy, .int .i64 cz] 33)).alloc (.cells #[.int .i64 0, .int .i64 0, .int .i64 0] 35)).heap[w.heap.size + 3]? = some (.cells #[.int .i64 0, .int .i64 0, .int .i64 0] 35) := allocs_at w [(.cells #[.int .i64 ax, .int .i64 ay, .int .i64 az] 33), (.cells #[.int .i64 bx, .int .i64 by_, .int .i64 bz] 33), (.cells #[.int .i64 cx, .int .i64 cy, .int .i64 cz] 33), (.cells #[.int .i64 0, .int .i64 0, .int .i64 0] 35)] 3 rfl
      generalize ((((w.alloc (.cells #[.int .i64 ax, .int .i64 ay, .int .i64 az] 33)).alloc (.cells #[.int .i64 bx, .int .i64 by_, .int .i64 bz] 33)).alloc (.cells #[.int .i64 cx, .int .i64 cy, .int .i64 cz] 33)).alloc (.cells #[.int .i64 0, .int .i64 0, .int .i64 0] 35)) = w0 at *
      have k0_0 : w0.cell? ⟨w.heap.size, 0, none⟩ = some (.int .i64 ax) := (Blk.cell kb0 0).trans rfl
      have k0_1 : w0.cell? ⟨w.heap.size, 1, none⟩ = some (.int .i64 ay) := (Blk.cell kb0 1).trans rfl
      have k0_2 : w0.cell? ⟨w.heap.size, 2, none⟩ = some (.int .i64 az) := (Blk.cell kb0 2).trans rfl
      have k1_0 : w0.cell? ⟨w.heap.size + 1, 0, none⟩ = some (.int .i64 bx) := (Blk.cell kb1 0).trans rfl
      have k1_1 : w0.cell? ⟨w.heap.size + 1, 1, none⟩ = some (.int .i64 by_) := (Blk.cell kb1 1).trans rfl
      have k1_2 : w0.cell? ⟨w.heap.size + 1, 2, none⟩ = some (.int .i64 bz) := (Blk.cell kb1 2).trans rfl
      have k2_0 : w0.cell? ⟨w.heap.size + 1 + 1, 0, none⟩ = some (.int .i64 cx) := (Blk.cell kb2 0).trans rfl
      have k2_1 : w0.cell? ⟨w.heap.size + 1 + 1, 1, none⟩ = some (.int .i64 cy) := (Blk.cell kb2 1).trans rfl
      have k2_2 : w0.cell? ⟨w.heap.size + 1 + 1, 2, none⟩ = some (.int .i64 cz) := (Blk.cell kb2 2).trans rfl
      clear kb0 kb1 kb2
      have SK : ∀ w', Below w0.heap.size w0 w' → Below w0.heap.size w0 w' ∧ w'.cell? ⟨w.heap.size, 0, none⟩ = some (.int .i64 ax) ∧ w'.cell? ⟨w.heap.size, 1, none⟩ = some (.int .i64 ay) ∧ w'.cell? ⟨w.heap.size, 2, none⟩ = some (.int .i64 az) ∧ w'.cell? ⟨w.heap.size + 1, 0, none⟩ = some (.int .i64 bx) ∧ w'.cell? ⟨w.heap.size + 1, 1, none⟩ = some (.int .i64 by_) ∧ w'.cell? ⟨w.heap.size + 1, 2, none⟩ = some (.int .i64 bz) ∧ w'.cell? ⟨w.heap.size + 1 + 1, 0, none⟩ = some (.int .i64 cx) ∧ w'.cell? ⟨w.heap.size + 1 + 1, 1, none⟩ = some (.int .i64 cy) ∧ w'.cell? ⟨w.heap.size + 1 + 1, 2, none⟩ = some (.int .i64 cz) := fun w' h => ⟨h, (bcell h _ _ (by omega)).trans k0_0, (bcell h _ _ (by omega)).trans k0_1, (bcell h _ _ (by omega)).trans k0_2, (bcell h _ _ (by omega)).trans k1_0, (bcell h _ _ (by omega)).trans k1_1, (bcell h _ _ (by omega)).trans k1_2, (bcell h _ _ (by omega)).trans k2_0, (bcell h _ _ (by omega)).trans k2_1, (bcell h _ _ (by omega)).trans k2_2⟩
      go_wp2_with fail
      refine (rrights_any _ ax ay az).mono ?_
      rintro e w1 ⟨rfl, hb1⟩
      have hL1 : Below w0.heap.size w0 w1 := hb1
      obtain ⟨-, c1_0, c1_1, c1_2, c1_3, c1_4, c1_5, c1_6, c1_7, c1_8⟩ := SK _ hL1
      go_wp2_with fail
      refine (rrights_any _ bx by_ bz).mono ?_
      rintro e w2 ⟨rfl, hb2⟩
      have hL2 : Below w0.heap.size w0 w2 := hL1.trans (hb2.mono hL1.size)
      obtain ⟨-, c2_0, c2_1, c2_2, c2_3, c2_4, c2_5, c2_6, c2_7, c2_8⟩ := SK _ hL2
      have kr9 := (hL2.block _ (by omega)).trans kr_3
      have kc9_0 : w2.cell? ⟨w.heap.size + 1 + 1 + 1, 0, none⟩ = some (.int .i64 0) := (Blk.cell kr9 0).trans rfl
      have kc9_1 : w2.cell? ⟨w.heap.size + 1 + 1 + 1, 1, none⟩ = some (.int .i64 0) := (Blk.cell kr9 1).trans rfl
      have kc9_2 : w2.cell? ⟨w.heap.size + 1 + 1 + 1, 2, none⟩ = some (.int .i64 0) := (Blk.cell kr9 2).trans rfl
      have kf9_0 : w2.frozen? ⟨w.heap.size + 1 + 1 + 1, 0, none⟩ = false := Blk.frozen kr9 0
      have kf9_1 : w2.frozen? ⟨w.heap.size + 1 + 1 + 1, 1, none⟩ = false := Blk.frozen kr9 1
      have kf9_2 : w2.frozen? ⟨w.heap.size + 1 + 1 + 1, 2, none⟩ = false := Blk.frozen kr9 2
      go_wp2_with fail
      have hle : w.heap.size ≤ w.heap.size + 1 + 1 + 1 := by omega
      exact bodyPost_ret (v := .tuple #[.agg #[.int .i64 0, .int .i64 0, .int .i64 0], .int .i64 2]) (by simp [results, Tryz.results18, go_sem, kc9_0, kc9_1, kc9_2]) rfl ⟨rfl, (((hb0.trans (hL2.mono hb0.size)).setCell hle _).setCell hle _).setCell hle _⟩
  · have e0 := decide_eq_false g0
    have hok : ¬ (Co ax ∧ Co ay ∧ Co az ∧ Co bx ∧ Co by_ ∧ Co bz ∧ Co cx ∧ Co cy ∧ Co cz) := fun h => g0 ⟨h.1, h.2.1, h.2.2.1⟩
    rw [RN_neg _ _ _ hok]
    go_enter Tryz.func18, Tryz.ntmps18
    go_upto_region 1 with (fail)
    have hb0 : Below w.heap.size w ((((w.alloc (.cells #[.int .i64 ax, .int .i64 ay, .int .i64 az] 33)).alloc (.cells #[.int .i64 bx, .int .i64 by_, .int .i64 bz] 33)).alloc (.cells #[.int .i64 cx, .int .i64 cy, .int .i64 cz] 33)).alloc (.cells #[.int .i64 0, .int .i64 0, .int .i64 0] 35)) := allocs_below w [(.cells #[.int .i64 ax, .int .i64 ay, .int .i64 az] 33), (.cells #[.int .i64 bx, .int .i64 by_, .int .i64 bz] 33), (.cells #[.int .i64 cx, .int .i64 cy, .int .i64 cz] 33), (.cells #[.int .i64 0, .int .i64 0, .int .i64 0] 35)]
    have s0 : w.heap.size + 4 ≤ ((((w.alloc (.cells #[.int .i64 ax, .int .i64 ay, .int .i64 az] 33)).alloc (.cells #[.int .i64 bx, .int .i64 by_, .int .i64 bz] 33)).alloc (.cells #[.int .i64 cx, .int .i64 cy, .int .i64 cz] 33)).alloc (.cells #[.int .i64 0, .int .i64 0, .int .i64 0] 35)).heap.size := Nat.le_of_eq (allocs_size w [(.cells #[.int .i64 ax, .int .i64 ay, .int .i64 az] 33), (.cells #[.int .i64 bx, .int .i64 by_, .int .i64 bz] 33), (.cells #[.int .i64 cx, .int .i64 cy, .int .i64 cz] 33), (.cells #[.int .i64 0, .int .i64 0, .int .i64 0] 35)]).symm
    have kb0 : ((((w.alloc (.cells #[.int .i64 ax, .int .i64 ay, .int .i64 az] 33)).alloc (.cells #[.int .i64 bx, .int .i64 by_, .int .i64 bz] 33)).alloc (.cells #[.int .i64 cx, .int .i64 cy, .int .i64 cz] 33)).alloc (.cells #[.int .i64 0, .int .i64 0, .int .i64 0] 35)).heap[w.heap.size + 0]? = some (.cells #[.int .i64 ax, .int .i64 ay, .int .i64 az] 33) := allocs_at w [(.cells #[.int .i64 ax, .int .i64 ay, .int .i64 az] 33), (.cells #[.int .i64 bx, .int .i64 by_, .int .i64 bz] 33), (.cells #[.int .i64 cx, .int .i64 cy, .int .i64 cz] 33), (.cells #[.int .i64 0, .int .i64 0, .int .i64 0] 35)] 0 rfl
    have kb1 : ((((w.alloc (.cells #[.int .i64 ax, .int .i64 ay, .int .i64 az] 33)).alloc (.cells #[.int .i64 bx, .int .i64 by_, .int .i64 bz] 33)).alloc (.cells #[.int .i64 cx, .int .i64 cy, .int .i64 cz] 33)).alloc (.cells #[.int .i64 0, .int .i64 0, .int .i64 0] 35)).heap[w.heap.size + 1]? = some (.cells #[.int .i64 bx, .int .i64 by_, .int .i64 bz] 33) := allocs_at w [(.cells #[.int .i64 ax, .int .i64 ay, .int .i64 az] 33), (.cells #[.int .i64 bx, .int .i64 by_, .int .i64 bz] 33), (.cells #[.int .i64 cx, .int .i64 cy, .int .i64 cz] 33), (.cells #[.int .i64 0, .int .i64 0, .int .i64 0] 35)] 1 rfl
    have kb2 : ((((w.alloc (.cells #[.int .i64 ax, .int .i64 ay, .int .i64 az] 33)).alloc (.cells #[.int .i64 bx, .int .i64 by_, .int .i64 bz] 33)).alloc (.cells #[.int .i64 cx, .int .i64 cy, .int .i64 cz] 33)).alloc (.cells #[.int .i64 0, .int .i64 0, .int .i64 0] 35)).heap[w.heap.size + 2]? = some (.cells #[.int .i64 cx, .int .i64 cy, .int .i64 cz] 33) := allocs_at w [(.cells #[.int .i64 ax, .int .i64 ay, .int .i64 az] 33), (.cells #[.int .i64 bx, .int .i64 by_, .int .i64 bz] 33), (.cells #[.int .i64 cx, .int .i64 cy, .int .i64 cz] 33), (.cells #[.int .i64 0, .int .i64 0, .int .i64 0] 35)] 2 rfl
    have kr_3 : ((((w.alloc (.cells #[.int .i64 ax, .int .i64 ay, .int .i64 az] 33)).alloc (.cells #[.int .i64 bx, .int .i64 by_, .int .i64 bz] 33)).alloc (.cells #[.int .i64 cx, .int .i64 cy, .int .i64 cz] 33)).alloc (.cells #[.int .i64 0, .int .i64 0, .int .i64 0] 35)).heap[w.heap.size + 3]? = some (.cells #[.int .i64 0, .int .i64 0, .int .i64 0] 35) := allocs_at w [(.cells #[.int .i64 ax, .int .i64 ay, .int .i64 az] 33), (.cells #[.int .i64 bx, .int .i64 by_, .int .i64 bz] 33), (.cells #[.int .i64 cx, .int .i64 cy, .int .i64 cz] 33), (.cells #[.int .i64 0, .int .i64 0, .int .i64 0] 35)] 3 rfl
    generalize ((((w.alloc (.cells #[.int .i64 ax, .int .i64 ay, .int .i64 az] 33)).alloc (.cells #[.int .i64 bx, .int .i64 by_, .int .i64 bz] 33)).alloc (.cells #[.int .i64 cx, .int .i64 cy, .int .i64 cz] 33)).alloc (.cells #[.int .i64 0, .int .i64 0, .int .i64 0] 35)) = w0 at *
    have k0_0 : w0.cell? ⟨w.heap.size, 0, none⟩ = some (.int .i64 ax) := (Blk.cell kb0 0).trans rfl
    have k0_1 : w0.cell? ⟨w.heap.size, 1, none⟩ = some (.int .i64 ay) := (Blk.cell kb0 1).trans rfl
    have k0_2 : w0.cell? ⟨w.heap.size, 2, none⟩ = some (.int .i64 az) := (Blk.cell kb0 2).trans rfl
    have k1_0 : w0.cell? ⟨w.heap.size + 1, 0, none⟩ = some (.int .i64 bx) := (Blk.cell kb1 0).trans rfl
    have k1_1 : w0.cell? ⟨w.heap.size + 1, 1, none⟩ = some (.int .i64 by_) := (Blk.cell kb1 1).trans rfl
    have k1_2 : w0.cell? ⟨w.heap.size + 1, 2, none⟩ = some (.int .i64 bz) := (Blk.cell kb1 2).trans rfl
    have k2_0 : w0.cell? ⟨w.heap.size + 1 + 1, 0, none⟩ = some (.int .i64 cx) := (Blk.cell kb2 0).trans rfl
    have k2_1 : w0.cell? ⟨w.heap.size + 1 + 1, 1, none⟩ = some (.int .i64 cy) := (Blk.cell kb2 1).trans rfl
    have k2_2 : w0.cell? ⟨w.heap.size + 1 + 1, 2, none⟩ = some (.int .i64 cz) := (Blk.cell kb2 2).trans rfl
    clear kb0 kb1 kb2
    have SK : ∀ w', Below w0.heap.size w0 w' → Below w0.heap.size w0 w' ∧ w'.cell? ⟨w.heap.size, 0, none⟩ = some (.int .i64 ax) ∧ w'.cell? ⟨w.heap.size, 1, none⟩ = some (.int .i64 ay) ∧ w'.cell? ⟨w.heap.size, 2, none⟩ = some (.int .i64 az) ∧ w'.cell? ⟨w.heap.size + 1, 0, none⟩ = some (.int .i64 bx) ∧ w'.cell? ⟨w.heap.size + 1, 1, none⟩ = some (.int .i64 by_) ∧ w'.cell? ⟨w.heap.size + 1, 2, none⟩ = some (.int .i64 bz) ∧ w'.cell? ⟨w.heap.size + 1 + 1, 0, none⟩ = some (.int .i64 cx) ∧ w'.cell? ⟨w.heap.size + 1 + 1, 1, none⟩ = some (.int .i64 cy) ∧ w'.cell? ⟨w.heap.size + 1 + 1, 2, none⟩ = some (.int .i64 cz) := fun w' h => ⟨h, (bcell h _ _ (by omega)).trans k0_0, (bcell h _ _ (by omega)).trans k0_1, (bcell h _ _ (by omega)).trans k0_2, (bcell h _ _ (by omega)).trans k1_0, (bcell h _ _ (by omega)).trans k1_1, (bcell h _ _ (by omega)).trans k1_2, (bcell h _ _ (by omega)).trans k2_0, (bcell h _ _ (by omega)).trans k2_1, (bcell h _ _ (by omega)).trans k2_2⟩
    go_wp2_with fail
    refine (rrights_any _ ax ay az).mono ?_
    rintro e w1 ⟨rfl, hb1⟩
    have hL1 : Below w0.heap.size w0 w1 := hb1
    obtain ⟨-, c1_0, c1_1, c1_2, c1_3, c1_4, c1_5, c1_6, c1_7, c1_8⟩ := SK _ hL1
    have kr9 := (hL1.block _ (by omega)).trans kr_3
    have kc9_0 : w1.cell? ⟨w.heap.size + 1 + 1 + 1, 0, none⟩ = some (.int .i64 0) := (Blk.cell kr9 0).trans rfl
    have kc9_1 : w1.cell? ⟨w.heap.size + 1 + 1 + 1, 1, none⟩ = some (.int .i64 0) := (Blk.cell kr9 1).trans rfl
    have kc9_2 : w1.cell? ⟨w.heap.size + 1 + 1 + 1, 2, none⟩ = some (.int .i64 0) := (Blk.cell kr9 2).trans rfl
    have kf9_0 : w1.frozen? ⟨w.heap.size + 1 + 1 + 1, 0, none⟩ = false := Blk.frozen kr9 0
    have kf9_1 : w1.frozen? ⟨w.heap.size + 1 + 1 + 1, 1, none⟩ = false := Blk.frozen kr9 1
    have kf9_2 : w1.frozen? ⟨w.heap.size + 1 + 1 + 1, 2, none⟩ = false := Blk.frozen kr9 2
    go_wp2_with fail
    have hle : w.heap.size ≤ w.heap.size + 1 + 1 + 1 := by omega
    exact bodyPost_ret (v := .tuple #[.agg #[.int .i64 0, .int .i64 0, .int .i64 0], .int .i64 2]) (by simp [results, Tryz.results18, go_sem, kc9_0, kc9_1, kc9_2]) rfl ⟨rfl, (((hb0.trans (hL1.mono hb0.size)).setCell hle _).setCell hle _).setCell hle _⟩

end Go.Proofs.YtblfinpfcpglcaaGreatDoor
