/- vector: toward, cross, normal; the reference: Across. -/
import Derived.Test.YtblfinpfcpglcaaGreatDoorVec
namespace Go.Proofs.YtblfinpfcpglcaaGreatDoor
open Go.RowKit MLab

set_option maxRecDepth 100000 in
set_option maxHeartbeats 1000000 in
theorem toward_any (w : World) (ax ay : Int) (h1 : Co ax) (h2 : Co ay) :
    Calls Tryz.prog 83 #[.agg #[.int .i64 ax, .int .i64 ay]] w fun e w' => e = .returned (.agg #[.int .i64 ax, .int .i64 ay]) ∧ Below w.heap.size w w' := by
  go_enter Tryz.func83, Tryz.ntmps83
  go_upto_region 1 with (fail)
  have hb0 : Below w.heap.size w ((w.alloc (.cells #[.int .i64 ax, .int .i64 ay] 23)).alloc (.cells #[.int .i64 0, .int .i64 0] 88)) := allocs_below w [(.cells #[.int .i64 ax, .int .i64 ay] 23), (.cells #[.int .i64 0, .int .i64 0] 88)]
  have s0 : w.heap.size + 2 ≤ ((w.alloc (.cells #[.int .i64 ax, .int .i64 ay] 23)).alloc (.cells #[.int .i64 0, .int .i64 0] 88)).heap.size := Nat.le_of_eq (allocs_size w [(.cells #[.int .i64 ax, .int .i64 ay] 23), (.cells #[.int .i64 0, .int .i64 0] 88)]).symm
  have kb0 : ((w.alloc (.cells #[.int .i64 ax, .int .i64 ay] 23)).alloc (.cells #[.int .i64 0, .int .i64 0] 88)).heap[w.heap.size + 0]? = some (.cells #[.int .i64 ax, .int .i64 ay] 23) := allocs_at w [(.cells #[.int .i64 ax, .int .i64 ay] 23), (.cells #[.int .i64 0, .int .i64 0] 88)] 0 rfl
  have kr_1 : ((w.alloc (.cells #[.int .i64 ax, .int .i64 ay] 23)).alloc (.cells #[.int .i64 0, .int .i64 0] 88)).heap[w.heap.size + 1]? = some (.cells #[.int .i64 0, .int .i64 0] 88) := allocs_at w [(.cells #[.int .i64 ax, .int .i64 ay] 23), (.cells #[.int .i64 0, .int .i64 0] 88)] 1 rfl
  generalize ((w.alloc (.cells #[.int .i64 ax, .int .i64 ay] 23)).alloc (.cells #[.int .i64 0, .int .i64 0] 88)) = w0 at *
  have k0_0 : w0.cell? ⟨w.heap.size, 0, none⟩ = some (.int .i64 ax) := (Blk.cell kb0 0).trans rfl
  have k0_1 : w0.cell? ⟨w.heap.size, 1, none⟩ = some (.int .i64 ay) := (Blk.cell kb0 1).trans rfl
  clear kb0
  have SK : ∀ w', Below w0.heap.size w0 w' → Below w0.heap.size w0 w' ∧ w'.cell? ⟨w.heap.size, 0, none⟩ = some (.int .i64 ax) ∧ w'.cell? ⟨w.heap.size, 1, none⟩ = some (.int .i64 ay) := fun w' h => ⟨h, (bcell h _ _ (by omega)).trans k0_0, (bcell h _ _ (by omega)).trans k0_1⟩
  go_wp2_with fail
  refine (to_any _ 0 0 ax ay (by omega) (by omega) h1 h2).mono ?_
  rintro e w1 ⟨rfl, hb1⟩
  simp only [Int.sub_zero]
  have kr1 := (hb1.block _ (Nat.lt_of_lt_of_le (Nat.lt_succ_self _) s0)).trans kr_1
  have kc0_0 : w1.cell? ⟨w.heap.size + 1, 0, none⟩ = some (.int .i64 0) := (Blk.cell kr1 0).trans rfl
  have kc0_1 : w1.cell? ⟨w.heap.size + 1, 1, none⟩ = some (.int .i64 0) := (Blk.cell kr1 1).trans rfl
  have kf0_0 : w1.frozen? ⟨w.heap.size + 1, 0, none⟩ = false := Blk.frozen kr1 0
  have kf0_1 : w1.frozen? ⟨w.heap.size + 1, 1, none⟩ = false := Blk.frozen kr1 1
  go_wp2_with fail
  exact bodyPost_ret (v := .agg #[.int .i64 ax, .int .i64 ay]) (by simp [results, Tryz.results83, go_sem, kc0_0, kc0_1]) rfl ⟨rfl, ((hb0.trans (hb1.mono (by omega))).setCell (Nat.le_succ _) _).setCell (Nat.le_succ _) _⟩

set_option maxRecDepth 100000 in
set_option maxHeartbeats 1000000 in
theorem cross_any (w : World) (ax ay bx by_ cx cy : Int) (h1 : Co ax) (h2 : Co ay) (h3 : Co bx) (h4 : Co by_) (h5 : Co cx) (h6 : Co cy) :
    Calls Tryz.prog 58 #[.agg #[.int .i64 ax, .int .i64 ay], .agg #[.int .i64 bx, .int .i64 by_], .agg #[.int .i64 cx, .int .i64 cy]] w fun e w' => e = .returned (.int .i64 ((bx - ax) * (cy - ay) - (by_ - ay) * (cx - ax))) ∧ Below w.heap.size w w' := by
  go_enter Tryz.func58, Tryz.ntmps58
  go_upto_region 1 with (fail)
  have hb0 : Below w.heap.size w (((w.alloc (.cells #[.int .i64 ax, .int .i64 ay] 23)).alloc (.cells #[.int .i64 bx, .int .i64 by_] 23)).alloc (.cells #[.int .i64 cx, .int .i64 cy] 23)) := allocs_below w [(.cells #[.int .i64 ax, .int .i64 ay] 23), (.cells #[.int .i64 bx, .int .i64 by_] 23), (.cells #[.int .i64 cx, .int .i64 cy] 23)]
  have s0 : w.heap.size + 3 ≤ (((w.alloc (.cells #[.int .i64 ax, .int .i64 ay] 23)).alloc (.cells #[.int .i64 bx, .int .i64 by_] 23)).alloc (.cells #[.int .i64 cx, .int .i64 cy] 23)).heap.size := Nat.le_of_eq (allocs_size w [(.cells #[.int .i64 ax, .int .i64 ay] 23), (.cells #[.int .i64 bx, .int .i64 by_] 23), (.cells #[.int .i64 cx, .int .i64 cy] 23)]).symm
  have kb0 : (((w.alloc (.cells #[.int .i64 ax, .int .i64 ay] 23)).alloc (.cells #[.int .i64 bx, .int .i64 by_] 23)).alloc (.cells #[.int .i64 cx, .int .i64 cy] 23)).heap[w.heap.size + 0]? = some (.cells #[.int .i64 ax, .int .i64 ay] 23) := allocs_at w [(.cells #[.int .i64 ax, .int .i64 ay] 23), (.cells #[.int .i64 bx, .int .i64 by_] 23), (.cells #[.int .i64 cx, .int .i64 cy] 23)] 0 rfl
  have kb1 : (((w.alloc (.cells #[.int .i64 ax, .int .i64 ay] 23)).alloc (.cells #[.int .i64 bx, .int .i64 by_] 23)).alloc (.cells #[.int .i64 cx, .int .i64 cy] 23)).heap[w.heap.size + 1]? = some (.cells #[.int .i64 bx, .int .i64 by_] 23) := allocs_at w [(.cells #[.int .i64 ax, .int .i64 ay] 23), (.cells #[.int .i64 bx, .int .i64 by_] 23), (.cells #[.int .i64 cx, .int .i64 cy] 23)] 1 rfl
  have kb2 : (((w.alloc (.cells #[.int .i64 ax, .int .i64 ay] 23)).alloc (.cells #[.int .i64 bx, .int .i64 by_] 23)).alloc (.cells #[.int .i64 cx, .int .i64 cy] 23)).heap[w.heap.size + 2]? = some (.cells #[.int .i64 cx, .int .i64 cy] 23) := allocs_at w [(.cells #[.int .i64 ax, .int .i64 ay] 23), (.cells #[.int .i64 bx, .int .i64 by_] 23), (.cells #[.int .i64 cx, .int .i64 cy] 23)] 2 rfl
  generalize (((w.alloc (.cells #[.int .i64 ax, .int .i64 ay] 23)).alloc (.cells #[.int .i64 bx, .int .i64 by_] 23)).alloc (.cells #[.int .i64 cx, .int .i64 cy] 23)) = w0 at *
  have k0_0 : w0.cell? ⟨w.heap.size, 0, none⟩ = some (.int .i64 ax) := (Blk.cell kb0 0).trans rfl
  have k0_1 : w0.cell? ⟨w.heap.size, 1, none⟩ = some (.int .i64 ay) := (Blk.cell kb0 1).trans rfl
  have k1_0 : w0.cell? ⟨w.heap.size + 1, 0, none⟩ = some (.int .i64 bx) := (Blk.cell kb1 0).trans rfl
  have k1_1 : w0.cell? ⟨w.heap.size + 1, 1, none⟩ = some (.int .i64 by_) := (Blk.cell kb1 1).trans rfl
  have k2_0 : w0.cell? ⟨w.heap.size + 1 + 1, 0, none⟩ = some (.int .i64 cx) := (Blk.cell kb2 0).trans rfl
  have k2_1 : w0.cell? ⟨w.heap.size + 1 + 1, 1, none⟩ = some (.int .i64 cy) := (Blk.cell kb2 1).trans rfl
  clear kb0 kb1 kb2
  have SK : ∀ w', Below w0.heap.size w0 w' → Below w0.heap.size w0 w' ∧ w'.cell? ⟨w.heap.size, 0, none⟩ = some (.int .i64 ax) ∧ w'.cell? ⟨w.heap.size, 1, none⟩ = some (.int .i64 ay) ∧ w'.cell? ⟨w.heap.size + 1, 0, none⟩ = some (.int .i64 bx) ∧ w'.cell? ⟨w.heap.size + 1, 1, none⟩ = some (.int .i64 by_) ∧ w'.cell? ⟨w.heap.size + 1 + 1, 0, none⟩ = some (.int .i64 cx) ∧ w'.cell? ⟨w.heap.size + 1 + 1, 1, none⟩ = some (.int .i64 cy) := fun w' h => ⟨h, (bcell h _ _ (by omega)).trans k0_0, (bcell h _ _ (by omega)).trans k0_1, (bcell h _ _ (by omega)).trans k1_0, (bcell h _ _ (by omega)).trans k1_1, (bcell h _ _ (by omega)).trans k2_0, (bcell h _ _ (by omega)).trans k2_1⟩
  go_region_held3 (fun w' => Below w0.heap.size w0 w' ∧ w'.cell? ⟨w.heap.size, 0, none⟩ = some (.int .i64 ax) ∧ w'.cell? ⟨w.heap.size, 1, none⟩ = some (.int .i64 ay) ∧ w'.cell? ⟨w.heap.size + 1, 0, none⟩ = some (.int .i64 bx) ∧ w'.cell? ⟨w.heap.size + 1, 1, none⟩ = some (.int .i64 by_) ∧ w'.cell? ⟨w.heap.size + 1 + 1, 0, none⟩ = some (.int .i64 cx) ∧ w'.cell? ⟨w.heap.size + 1 + 1, 1, none⟩ = some (.int .i64 cy)) (first | exact SK _ (Below.refl _ _).drew | exact SK _ (bel_next (by assumption) (by assumption) (Nat.le_refl _)))
    (first
      | (go_at_call_of 56 ((.agg #[.int .i64 bx, .int .i64 by_] : Value)); refine (to_any _ ax ay bx by_ h1 h2 h3 h4).mono ?_; rintro e w1 ⟨rfl, hb1⟩)
      | (go_at_call_of 56 ((.agg #[.int .i64 cx, .int .i64 cy] : Value)); refine (to_any _ ax ay cx cy h1 h2 h5 h6).mono ?_; rintro e w1 ⟨rfl, hb1⟩)
      | (go_at_call 91; refine (aturn_any _ (bx - ax) (by_ - ay) (cx - ax) (cy - ay) (by omega) (by omega) (by omega) (by omega)).mono ?_; rintro e w1 ⟨rfl, hb1⟩))
  go_wp2_with fail
  go_ret
  exact ⟨rfl, hb0.trans (Below.mono (And.left (by assumption)) hb0.size)⟩


/-- Block d is a row of three cells of this type, none frozen. -/
def Dst3 (w : World) (d : Nat) (t : TypeId) : Prop := ∃ a b c, w.heap[d]? = some (.cells #[a, b, c] t (0, 0))
theorem Dst3.below {w w1 : World} {d : Nat} {t : TypeId} (h : Dst3 w d t) (k : Below w.heap.size w w1) : Dst3 w1 d t := by
  obtain ⟨a, b, c, h⟩ := h
  exact ⟨a, b, c, (k.block d (Blk.lt h)).trans h⟩
theorem Dst3.set_ {w : World} {d : Nat} {t : TypeId} (h : Dst3 w d t) (i : Nat) (v : Value) : Dst3 (w.setCell ⟨d, i, none⟩ v) d t := by
  obtain ⟨a, b, c, h⟩ := h
  have k := heap_setCell_same w d i #[a, b, c] t v h
  match i with
  | 0 => exact ⟨v, b, c, k⟩
  | 1 => exact ⟨a, v, c, k⟩
  | 2 => exact ⟨a, b, v, k⟩
  | j + 3 => exact ⟨a, b, c, by rw [k, Array.setIfInBounds_eq_of_size_le (by simp)]⟩
theorem Dst3.facts {w : World} {d : Nat} {t : TypeId} (h : Dst3 w d t) : ∃ a b c, w.cell? ⟨d, 0, none⟩ = some a ∧ w.cell? ⟨d, 1, none⟩ = some b ∧ w.cell? ⟨d, 2, none⟩ = some c ∧ w.frozen? ⟨d, 0, none⟩ = false ∧ w.frozen? ⟨d, 1, none⟩ = false ∧ w.frozen? ⟨d, 2, none⟩ = false := by
  obtain ⟨a, b, c, h⟩ := h
  exact ⟨a, b, c, Blk.cell h 0, Blk.cell h 1, Blk.cell h 2, Blk.frozen h 0, Blk.frozen h 1, Blk.frozen h 2⟩
theorem dst_next {B : Nat} {w0 w w1 : World} {d : Nat} {t : TypeId} {R : Prop} (h : Below B w0 w ∧ Dst3 w d t ∧ R) (k : Below w.heap.size w w1) (hB : B ≤ d) : Below B w0 w1 ∧ Dst3 w1 d t := by
  have hd := h.2.1
  obtain ⟨a, b, c, hh⟩ := hd
  have := Blk.lt hh
  exact ⟨h.1.trans (k.mono (by omega)), h.2.1.below k⟩
theorem dst_drew {B : Nat} {w0 w : World} {d : Nat} {t : TypeId} (h : Below B w0 w ∧ Dst3 w d t) : Below B w0 w.drew ∧ Dst3 w.drew d t := ⟨h.1.drew, h.2⟩
theorem dst_set {B : Nat} {w0 w : World} {d : Nat} {t : TypeId} (h : Below B w0 w ∧ Dst3 w d t) (i : Nat) (v : Value) (hB : B ≤ d) : Below B w0 (w.setCell ⟨d, i, none⟩ v) ∧ Dst3 (w.setCell ⟨d, i, none⟩ v) d t :=
  ⟨h.1.setCell (p := ⟨d, i, none⟩) hB v, h.2.set_ i v⟩
theorem dst_now {B : Nat} {w0 w : World} {d : Nat} {t : TypeId} {R : Prop} (h : Below B w0 w ∧ Dst3 w d t ∧ R) : Below B w0 w ∧ Dst3 w d t := ⟨h.1, h.2.1⟩

set_option maxRecDepth 100000 in
set_option maxHeartbeats 1000000 in
theorem normal_any (w : World) (ax ay az bx by_ bz cx cy cz : Int) (h1 : Co ax) (h2 : Co ay) (h3 : Co az) (h4 : Co bx) (h5 : Co by_) (h6 : Co bz) (h7 : Co cx) (h8 : Co cy) (h9 : Co cz) :
    Calls Tryz.prog 68 #[.agg #[.int .i64 ax, .int .i64 ay, .int .i64 az], .agg #[.int .i64 bx, .int .i64 by_, .int .i64 bz], .agg #[.int .i64 cx, .int .i64 cy, .int .i64 cz]] w fun e w' => e = .returned (.agg #[.int .i64 ((by_ - ay) * (cz - az) - (bz - az) * (cy - ay)), .int .i64 ((bz - az) * (cx - ax) - (bx - ax) * (cz - az)), .int .i64 ((bx - ax) * (cy - ay) - (by_ - ay) * (cx - ax))]) ∧ Below w.heap.size w w' := by
  go_enter Tryz.func68, Tryz.ntmps68
  go_upto_region 1 with (fail)
  have hb0 : Below w.heap.size w ((((w.alloc (.cells #[.int .i64 ax, .int .i64 ay, .int .i64 az] 33)).alloc (.cells #[.int .i64 bx, .int .i64 by_, .int .i64 bz] 33)).alloc (.cells #[.int .i64 cx, .int .i64 cy, .int .i64 cz] 33)).alloc (.cells #[.int .i64 0, .int .i64 0, .int .i64 0] 99)) := allocs_below w [(.cells #[.int .i64 ax, .int .i64 ay, .int .i64 az] 33), (.cells #[.int .i64 bx, .int .i64 by_, .int .i64 bz] 33), (.cells #[.int .i64 cx, .int .i64 cy, .int .i64 cz] 33), (.cells #[.int .i64 0, .int .i64 0, .int .i64 0] 99)]
  have s0 : w.heap.size + 4 ≤ ((((w.alloc (.cells #[.int .i64 ax, .int .i64 ay, .int .i64 az] 33)).alloc (.cells #[.int .i64 bx, .int .i64 by_, .int .i64 bz] 33)).alloc (.cells #[.int .i64 cx, .int .i64 cy, .int .i64 cz] 33)).alloc (.cells #[.int .i64 0, .int .i64 0, .int .i64 0] 99)).heap.size := Nat.le_of_eq (allocs_size w [(.cells #[.int .i64 ax, .int .i64 ay, .int .i64 az] 33), (.cells #[.int .i64 bx, .int .i64 by_, .int .i64 bz] 33), (.cells #[.int .i64 cx, .int .i64 cy, .int .i64 cz] 33), (.cells #[.int .i64 0, .int .i64 0, .int .i64 0] 99)]).symm
  have kb0 : ((((w.alloc (.cells #[.int .i64 ax, .int .i64 ay, .int .i64 az] 33)).alloc (.cells #[.int .i64 bx, .int .i64 by_, .int .i64 bz] 33)).alloc (.cells #[.int .i64 cx, .int .i64 cy, .int .i64 cz] 33)).alloc (.cells #[.int .i64 0, .int .i64 0, .int .i64 0] 99)).heap[w.heap.size + 0]? = some (.cells #[.int .i64 ax, .int .i64 ay, .int .i64 az] 33) := allocs_at w [(.cells #[.int .i64 ax, .int .i64 ay, .int .i64 az] 33), (.cells #[.int .i64 bx, .int .i64 by_, .int .i64 bz] 33), (.cells #[.int .i64 cx, .int .i64 cy, .int .i64 cz] 33), (.cells #[.int .i64 0, .int .i64 0, .int .i64 0] 99)] 0 rfl
  have kb1 : ((((w.alloc (.cells #[.int .i64 ax, .int .i64 ay, .int .i64 az] 33)).alloc (.cells #[.int .i64 bx, .int .i64 by_, .int .i64 bz] 33)).alloc (.cells #[.int .i64 cx, .int .i64 cy, .int .i64 cz] 33)).alloc (.cells #[.int .i64 0, .int .i64 0, .int .i64 0] 99)).heap[w.heap.size + 1]? = some (.cells #[.int .i64 bx, .int .i64 by_, .int .i64 bz] 33) := allocs_at w [(.cells #[.int .i64 ax, .int .i64 ay, .int .i64 az] 33), (.cells #[.int .i64 bx, .int .i64 by_, .int .i64 bz] 33), (.cells #[.int .i64 cx, .int .i64 cy, .int .i64 cz] 33), (.cells #[.int .i64 0, .int .i64 0, .int .i64 0] 99)] 1 rfl
  have kb2 : ((((w.alloc (.cells #[.int .i64 ax, .int .i64 ay, .int .i64 az] 33)).alloc (.cells #[.int .i64 bx, .int .i64 by_, .int .i64 bz] 33)).alloc (.cells #[.int .i64 cx, .int .i64 cy, .int .i64 cz] 33)).alloc (.cells #[.int .i64 0, .int .i64 0, .int .i64 0] 99)).heap[w.heap.size + 2]? = some (.cells #[.int .i64 cx, .int .i64 cy, .int .i64 cz] 33) := allocs_at w [(.cells #[.int .i64 ax, .int .i64 ay, .int .i64 az] 33), (.cells #[.int .i64 bx, .int .i64 by_, .int .i64 bz] 33), (.cells #[.int .i64 cx, .int .i64 cy, .int .i64 cz] 33), (.cells #[.int .i64 0, .int .i64 0, .int .i64 0] 99)] 2 rfl
  have kr_3 : ((((w.alloc (.cells #[.int .i64 ax, .int .i64 ay, .int .i64 az] 33)).alloc (.cells #[.int .i64 bx, .int .i64 by_, .int .i64 bz] 33)).alloc (.cells #[.int .i64 cx, .int .i64 cy, .int .i64 cz] 33)).alloc (.cells #[.int .i64 0, .int .i64 0, .int .i64 0] 99)).heap[w.heap.size + 3]? = some (.cells #[.int .i64 0, .int .i64 0, .int .i64 0] 99) := allocs_at w [(.cells #[.int .i64 ax, .int .i64 ay, .int .i64 az] 33), (.cells #[.int .i64 bx, .int .i64 by_, .int .i64 bz] 33), (.cells #[.int .i64 cx, .int .i64 cy, .int .i64 cz] 33), (.cells #[.int .i64 0, .int .i64 0, .int .i64 0] 99)] 3 rfl
  generalize ((((w.alloc (.cells #[.int .i64 ax, .int .i64 ay, .int .i64 az] 33)).alloc (.cells #[.int .i64 bx, .int .i64 by_, .int .i64 bz] 33)).alloc (.cells #[.int .i64 cx, .int .i64 cy, .int .i64 cz] 33)).alloc (.cells #[.int .i64 0, .int .i64 0, .int .i64 0] 99)) = w0 at *
  have k0_0 : w0.cell? ⟨w.heap.size, 0, none⟩ = some (.int .i64 ax) := (Blk.cell kb0 0).trans rfl
  have k0_1 : w0.cell? ⟨w.heap.size, 1, none⟩ = some (.int .i64 ay) := (Blk.cell kb0 1).trans rfl
  have k0_2 : w0.cell? ⟨w.heap.size, 2, none⟩ = some (.int .i64 az) := (Blk.cell kb0 2).trans rfl
  have k1_0 : w0.cell? ⟨w.heap.size + 1, 0, none⟩ = some (.int .i64 bx) := (Blk.cell kb1 0).trans rfl
  have k1_1 : w0.cell? ⟨w.heap.size + 1, 1, none⟩ = some (.int .i64 by_) := (Blk.cell kb1 1).trans rfl
  have k1_2 : w0.cell? ⟨w.heap.size + 1, 2, none⟩ = some (.int .i64 bz) := (Blk.cell kb1 2).trans rfl
  have k2_0 : w0.cell? ⟨w.heap.size + 1 + 1, 0, none⟩ = some (.int .i64 cx) := (Blk.cell kb2 0).trans rfl
  have k2_1 : w0.cell? ⟨w.heap.size + 1 + 1, 1, none⟩ = some (.int .i64 cy) := (Blk.cell kb2 1).trans rfl
  have k2_2 : w0.cell? ⟨w.heap.size + 1 + 1, 2, none⟩ = some (.int .i64 cz) := (Blk.cell kb2 2).trans rfl
  clear kb0 kb1 kb2
  have SK : ∀ w', Below (w.heap.size + 1 + 1 + 1) w0 w' ∧ Dst3 w' (w.heap.size + 1 + 1 + 1) 99 → Below (w.heap.size + 1 + 1 + 1) w0 w' ∧ Dst3 w' (w.heap.size + 1 + 1 + 1) 99 ∧ w'.cell? ⟨w.heap.size, 0, none⟩ = some (.int .i64 ax) ∧ w'.cell? ⟨w.heap.size, 1, none⟩ = some (.int .i64 ay) ∧ w'.cell? ⟨w.heap.size, 2, none⟩ = some (.int .i64 az) ∧ w'.cell? ⟨w.heap.size + 1, 0, none⟩ = some (.int .i64 bx) ∧ w'.cell? ⟨w.heap.size + 1, 1, none⟩ = some (.int .i64 by_) ∧ w'.cell? ⟨w.heap.size + 1, 2, none⟩ = some (.int .i64 bz) ∧ w'.cell? ⟨w.heap.size + 1 + 1, 0, none⟩ = some (.int .i64 cx) ∧ w'.cell? ⟨w.heap.size + 1 + 1, 1, none⟩ = some (.int .i64 cy) ∧ w'.cell? ⟨w.heap.size + 1 + 1, 2, none⟩ = some (.int .i64 cz) := fun w' h => ⟨h.1, h.2, (bcell h.1 _ _ (by omega)).trans k0_0, (bcell h.1 _ _ (by omega)).trans k0_1, (bcell h.1 _ _ (by omega)).trans k0_2, (bcell h.1 _ _ (by omega)).trans k1_0, (bcell h.1 _ _ (by omega)).trans k1_1, (bcell h.1 _ _ (by omega)).trans k1_2, (bcell h.1 _ _ (by omega)).trans k2_0, (bcell h.1 _ _ (by omega)).trans k2_1, (bcell h.1 _ _ (by omega)).trans k2_2⟩
  have D0 : Below (w.heap.size + 1 + 1 + 1) w0 w0 ∧ Dst3 w0 (w.heap.size + 1 + 1 + 1) 99 := ⟨Below.refl _ _, _, _, _, kr_3⟩
  go_region_held3 (fun w' => Below (w.heap.size + 1 + 1 + 1) w0 w' ∧ Dst3 w' (w.heap.size + 1 + 1 + 1) 99 ∧ w'.cell? ⟨w.heap.size, 0, none⟩ = some (.int .i64 ax) ∧ w'.cell? ⟨w.heap.size, 1, none⟩ = some (.int .i64 ay) ∧ w'.cell? ⟨w.heap.size, 2, none⟩ = some (.int .i64 az) ∧ w'.cell? ⟨w.heap.size + 1, 0, none⟩ = some (.int .i64 bx) ∧ w'.cell? ⟨w.heap.size + 1, 1, none⟩ = some (.int .i64 by_) ∧ w'.cell? ⟨w.heap.size + 1, 2, none⟩ = some (.int .i64 bz) ∧ w'.cell? ⟨w.heap.size + 1 + 1, 0, none⟩ = some (.int .i64 cx) ∧ w'.cell? ⟨w.heap.size + 1 + 1, 1, none⟩ = some (.int .i64 cy) ∧ w'.cell? ⟨w.heap.size + 1 + 1, 2, none⟩ = some (.int .i64 cz)) (first | exact SK _ (dst_drew D0) | exact SK _ (dst_next (by assumption) (by assumption) (by omega)) | exact SK _ (dst_set (dst_set (dst_set (dst_now (by assumption)) 0 _ (by omega)) 1 _ (by omega)) 2 _ (by omega)))
    (first
      | (go_at_call_of 72 ((.agg #[.int .i64 bx, .int .i64 by_, .int .i64 bz] : Value)); refine (reach_any _ ax ay az bx by_ bz h1 h2 h3 h4 h5 h6).mono ?_; rintro e w1 ⟨rfl, hb1⟩)
      | (go_at_call_of 72 ((.agg #[.int .i64 cx, .int .i64 cy, .int .i64 cz] : Value)); refine (reach_any _ ax ay az cx cy cz h1 h2 h3 h7 h8 h9).mono ?_; rintro e w1 ⟨rfl, hb1⟩)
      | (go_at_call 112; refine (bturn_any _ (bx - ax) (by_ - ay) (bz - az) (cx - ax) (cy - ay) (cz - az) (by omega) (by omega) (by omega) (by omega) (by omega) (by omega)).mono ?_; rintro e w1 ⟨rfl, hb1⟩; obtain ⟨da, db, dc, d0, d1, d2, d3, d4, d5⟩ := (dst_next (by assumption) hb1 (Nat.le_refl _)).2.facts))
  go_wp2_with fail
  exact bodyPost_ret (v := .agg #[.int .i64 ((by_ - ay) * (cz - az) - (bz - az) * (cy - ay)), .int .i64 ((bz - az) * (cx - ax) - (bx - ax) * (cz - az)), .int .i64 ((bx - ax) * (cy - ay) - (by_ - ay) * (cx - ax))]) (by simp [results, Tryz.results68, go_sem, d0, d1, d2]) rfl ⟨rfl, hb0.trans (Below.mono (And.left (by assumption)) (by omega))⟩

set_option maxRecDepth 100000 in
set_option maxHeartbeats 1000000 in
theorem racross_any (w : World) (ax ay az bx by_ bz cx cy cz : Int) (h1 : Co ax) (h2 : Co ay) (h3 : Co az) (h4 : Co bx) (h5 : Co by_) (h6 : Co bz) (h7 : Co cx) (h8 : Co cy) (h9 : Co cz) :
    Calls Tryz.prog 70 #[.agg #[.int .i64 ax, .int .i64 ay, .int .i64 az], .agg #[.int .i64 bx, .int .i64 by_, .int .i64 bz], .agg #[.int .i64 cx, .int .i64 cy, .int .i64 cz]] w fun e w' => e = .returned (.agg #[.int .i64 ((by_ - ay) * (cz - az) - (bz - az) * (cy - ay)), .int .i64 ((bz - az) * (cx - ax) - (bx - ax) * (cz - az)), .int .i64 ((bx - ax) * (cy - ay) - (by_ - ay) * (cx - ax))]) ∧ Below w.heap.size w w' := by
  go_enter Tryz.func70, Tryz.ntmps70
  go_upto_region 1 with (fail)
  have hb0 : Below w.heap.size w ((((w.alloc (.cells #[.int .i64 ax, .int .i64 ay, .int .i64 az] 33)).alloc (.cells #[.int .i64 bx, .int .i64 by_, .int .i64 bz] 33)).alloc (.cells #[.int .i64 cx, .int .i64 cy, .int .i64 cz] 33)).alloc (.cells #[.int .i64 0, .int .i64 0, .int .i64 0] 33)) := allocs_below w [(.cells #[.int .i64 ax, .int .i64 ay, .int .i64 az] 33), (.cells #[.int .i64 bx, .int .i64 by_, .int .i64 bz] 33), (.cells #[.int .i64 cx, .int .i64 cy, .int .i64 cz] 33), (.cells #[.int .i64 0, .int .i64 0, .int .i64 0] 33)]
  have s0 : w.heap.size + 4 ≤ ((((w.alloc (.cells #[.int .i64 ax, .int .i64 ay, .int .i64 az] 33)).alloc (.cells #[.int .i64 bx, .int .i64 by_, .int .i64 bz] 33)).alloc (.cells #[.int .i64 cx, .int .i64 cy, .int .i64 cz] 33)).alloc (.cells #[.int .i64 0, .int .i64 0, .int .i64 0] 33)).heap.size := Nat.le_of_eq (allocs_size w [(.cells #[.int .i64 ax, .int .i64 ay, .int .i64 az] 33), (.cells #[.int .i64 bx, .int .i64 by_, .int .i64 bz] 33), (.cells #[.int .i64 cx, .int .i64 cy, .int .i64 cz] 33), (.cells #[.int .i64 0, .int .i64 0, .int .i64 0] 33)]).symm
  have kb0 : ((((w.alloc (.cells #[.int .i64 ax, .int .i64 ay, .int .i64 az] 33)).alloc (.cells #[.int .i64 bx, .int .i64 by_, .int .i64 bz] 33)).alloc (.cells #[.int .i64 cx, .int .i64 cy, .int .i64 cz] 33)).alloc (.cells #[.int .i64 0, .int .i64 0, .int .i64 0] 33)).heap[w.heap.size + 0]? = some (.cells #[.int .i64 ax, .int .i64 ay, .int .i64 az] 33) := allocs_at w [(.cells #[.int .i64 ax, .int .i64 ay, .int .i64 az] 33), (.cells #[.int .i64 bx, .int .i64 by_, .int .i64 bz] 33), (.cells #[.int .i64 cx, .int .i64 cy, .int .i64 cz] 33), (.cells #[.int .i64 0, .int .i64 0, .int .i64 0] 33)] 0 rfl
  have kb1 : ((((w.alloc (.cells #[.int .i64 ax, .int .i64 ay, .int .i64 az] 33)).alloc (.cells #[.int .i64 bx, .int .i64 by_, .int .i64 bz] 33)).alloc (.cells #[.int .i64 cx, .int .i64 cy, .int .i64 cz] 33)).alloc (.cells #[.int .i64 0, .int .i64 0, .int .i64 0] 33)).heap[w.heap.size + 1]? = some (.cells #[.int .i64 bx, .int .i64 by_, .int .i64 bz] 33) := allocs_at w [(.cells #[.int .i64 ax, .int .i64 ay, .int .i64 az] 33), (.cells #[.int .i64 bx, .int .i64 by_, .int .i64 bz] 33), (.cells #[.int .i64 cx, .int .i64 cy, .int .i64 cz] 33), (.cells #[.int .i64 0, .int .i64 0, .int .i64 0] 33)] 1 rfl
  have kb2 : ((((w.alloc (.cells #[.int .i64 ax, .int .i64 ay, .int .i64 az] 33)).alloc (.cells #[.int .i64 bx, .int .i64 by_, .int .i64 bz] 33)).alloc (.cells #[.int .i64 cx, .int .i64 cy, .int .i64 cz] 33)).alloc (.cells #[.int .i64 0, .int .i64 0, .int .i64 0] 33)).heap[w.heap.size + 2]? = some (.cells #[.int .i64 cx, .int .i64 cy, .int .i64 cz] 33) := allocs_at w [(.cells #[.int .i64 ax, .int .i64 ay, .int .i64 az] 33), (.cells #[.int .i64 bx, .int .i64 by_, .int .i64 bz] 33), (.cells #[.int .i64 cx, .int .i64 cy, .int .i64 cz] 33), (.cells #[.int .i64 0, .int .i64 0, .int .i64 0] 33)] 2 rfl
  have kr_3 : ((((w.alloc (.cells #[.int .i64 ax, .int .i64 ay, .int .i64 az] 33)).alloc (.cells #[.int .i64 bx, .int .i64 by_, .int .i64 bz] 33)).alloc (.cells #[.int .i64 cx, .int .i64 cy, .int .i64 cz] 33)).alloc (.cells #[.int .i64 0, .int .i64 0, .int .i64 0] 33)).heap[w.heap.size + 3]? = some (.cells #[.int .i64 0, .int .i64 0, .int .i64 0] 33) := allocs_at w [(.cells #[.int .i64 ax, .int .i64 ay, .int .i64 az] 33), (.cells #[.int .i64 bx, .int .i64 by_, .int .i64 bz] 33), (.cells #[.int .i64 cx, .int .i64 cy, .int .i64 cz] 33), (.cells #[.int .i64 0, .int .i64 0, .int .i64 0] 33)] 3 rfl
  generalize ((((w.alloc (.cells #[.int .i64 ax, .int .i64 ay, .int .i64 az] 33)).alloc (.cells #[.int .i64 bx, .int .i64 by_, .int .i64 bz] 33)).alloc (.cells #[.int .i64 cx, .int .i64 cy, .int .i64 cz] 33)).alloc (.cells #[.int .i64 0, .int .i64 0, .int .i64 0] 33)) = w0 at *
  have k0_0 : w0.cell? ⟨w.heap.size, 0, none⟩ = some (.int .i64 ax) := (Blk.cell kb0 0).trans rfl
  have k0_1 : w0.cell? ⟨w.heap.size, 1, none⟩ = some (.int .i64 ay) := (Blk.cell kb0 1).trans rfl
  have k0_2 : w0.cell? ⟨w.heap.size, 2, none⟩ = some (.int .i64 az) := (Blk.cell kb0 2).trans rfl
  have k1_0 : w0.cell? ⟨w.heap.size + 1, 0, none⟩ = some (.int .i64 bx) := (Blk.cell kb1 0).trans rfl
  have k1_1 : w0.cell? ⟨w.heap.size + 1, 1, none⟩ = some (.int .i64 by_) := (Blk.cell kb1 1).trans rfl
  have k1_2 : w0.cell? ⟨w.heap.size + 1, 2, none⟩ = some (.int .i64 bz) := (Blk.cell kb1 2).trans rfl
  have k2_0 : w0.cell? ⟨w.heap.size + 1 + 1, 0, none⟩ = some (.int .i64 cx) := (Blk.cell kb2 0).trans rfl
  have k2_1 : w0.cell? ⟨w.heap.size + 1 + 1, 1, none⟩ = some (.int .i64 cy) := (Blk.cell kb2 1).trans rfl
  have k2_2 : w0.cell? ⟨w.heap.size + 1 + 1, 2, none⟩ = some (.int .i64 cz) := (Blk.cell kb2 2).trans rfl
  clear kb0 kb1 kb2
  have SK : ∀ w', Below (w.heap.size + 1 + 1 + 1) w0 w' ∧ Dst3 w' (w.heap.size + 1 + 1 + 1) 33 → Below (w.heap.size + 1 + 1 + 1) w0 w' ∧ Dst3 w' (w.heap.size + 1 + 1 + 1) 33 ∧ w'.cell? ⟨w.heap.size, 0, none⟩ = some (.int .i64 ax) ∧ w'.cell? ⟨w.heap.size, 1, none⟩ = some (.int .i64 ay) ∧ w'.cell? ⟨w.heap.size, 2, none⟩ = some (.int .i64 az) ∧ w'.cell? ⟨w.heap.size + 1, 0, none⟩ = some (.int .i64 bx) ∧ w'.cell? ⟨w.heap.size + 1, 1, none⟩ = some (.int .i64 by_) ∧ w'.cell? ⟨w.heap.size + 1, 2, none⟩ = some (.int .i64 bz) ∧ w'.cell? ⟨w.heap.size + 1 + 1, 0, none⟩ = some (.int .i64 cx) ∧ w'.cell? ⟨w.heap.size + 1 + 1, 1, none⟩ = some (.int .i64 cy) ∧ w'.cell? ⟨w.heap.size + 1 + 1, 2, none⟩ = some (.int .i64 cz) := fun w' h => ⟨h.1, h.2, (bcell h.1 _ _ (by omega)).trans k0_0, (bcell h.1 _ _ (by omega)).trans k0_1, (bcell h.1 _ _ (by omega)).trans k0_2, (bcell h.1 _ _ (by omega)).trans k1_0, (bcell h.1 _ _ (by omega)).trans k1_1, (bcell h.1 _ _ (by omega)).trans k1_2, (bcell h.1 _ _ (by omega)).trans k2_0, (bcell h.1 _ _ (by omega)).trans k2_1, (bcell h.1 _ _ (by omega)).trans k2_2⟩
  have D0 : Below (w.heap.size + 1 + 1 + 1) w0 w0 ∧ Dst3 w0 (w.heap.size + 1 + 1 + 1) 33 := ⟨Below.refl _ _, _, _, _, kr_3⟩
  go_region_held3 (fun w' => Below (w.heap.size + 1 + 1 + 1) w0 w' ∧ Dst3 w' (w.heap.size + 1 + 1 + 1) 33 ∧ w'.cell? ⟨w.heap.size, 0, none⟩ = some (.int .i64 ax) ∧ w'.cell? ⟨w.heap.size, 1, none⟩ = some (.int .i64 ay) ∧ w'.cell? ⟨w.heap.size, 2, none⟩ = some (.int .i64 az) ∧ w'.cell? ⟨w.heap.size + 1, 0, none⟩ = some (.int .i64 bx) ∧ w'.cell? ⟨w.heap.size + 1, 1, none⟩ = some (.int .i64 by_) ∧ w'.cell? ⟨w.heap.size + 1, 2, none⟩ = some (.int .i64 bz) ∧ w'.cell? ⟨w.heap.size + 1 + 1, 0, none⟩ = some (.int .i64 cx) ∧ w'.cell? ⟨w.heap.size + 1 + 1, 1, none⟩ = some (.int .i64 cy) ∧ w'.cell? ⟨w.heap.size + 1 + 1, 2, none⟩ = some (.int .i64 cz)) (first | exact SK _ (dst_drew D0) | exact SK _ (dst_next (by assumption) (by assumption) (by omega)) | exact SK _ (dst_set (dst_set (dst_set (dst_now (by assumption)) 0 _ (by omega)) 1 _ (by omega)) 2 _ (by omega)))
    (first
      | (go_at_call_of 115 ((.agg #[.int .i64 bx, .int .i64 by_, .int .i64 bz] : Value)); refine (rless_any _ bx by_ bz ax ay az h4 h5 h6 h1 h2 h3).mono ?_; rintro e w1 ⟨rfl, hb1⟩)
      | (go_at_call_of 115 ((.agg #[.int .i64 cx, .int .i64 cy, .int .i64 cz] : Value)); refine (rless_any _ cx cy cz ax ay az h7 h8 h9 h1 h2 h3).mono ?_; rintro e w1 ⟨rfl, hb1⟩)
      | (go_at_call 114; refine (rvector_any _ (bx - ax) (by_ - ay) (bz - az) (cx - ax) (cy - ay) (cz - az) (by omega) (by omega) (by omega) (by omega) (by omega) (by omega)).mono ?_; rintro e w1 ⟨rfl, hb1⟩; obtain ⟨da, db, dc, d0, d1, d2, d3, d4, d5⟩ := (dst_next (by assumption) hb1 (Nat.le_refl _)).2.facts))
  go_wp2_with fail
  exact bodyPost_ret (v := .agg #[.int .i64 ((by_ - ay) * (cz - az) - (bz - az) * (cy - ay)), .int .i64 ((bz - az) * (cx - ax) - (bx - ax) * (cz - az)), .int .i64 ((bx - ax) * (cy - ay) - (by_ - ay) * (cx - ax))]) (by simp [results, Tryz.results70, go_sem, d0, d1, d2]) rfl ⟨rfl, hb0.trans (Below.mono (And.left (by assumption)) (by omega))⟩

end Go.Proofs.YtblfinpfcpglcaaGreatDoor
