/- vector: the small functions of points and spots. vector: toward, cross, normal; the reference: Across. vector: Dot, Cross, Side, Square, SquareSpace, Normal, Volume; the same of the reference. vector: Volume, Side; the same of the reference. vector: Normal; the same of the reference. -/
import Derived.Test.YtendaaghmeoddaaGreatDoorAll
import Derived.Test.YtendaaghmeoddaaGreatDoorRatio
import Derived.Test.YtendaaghmeoddaaGreatDoorShelf
namespace Go.Proofs.YtendaaghmeoddaaGreatDoor
open Go.RowKit MLab

/-- In the range of a normal. -/
abbrev Nf (x : Int) : Prop := -80000000000 ≤ x ∧ x ≤ 80000000000

set_option maxRecDepth 100000 in
set_option maxHeartbeats 1000000 in
theorem to_any (w : World) (ax ay bx by_ : Int) (h1 : Co ax) (h2 : Co ay) (h3 : Co bx) (h4 : Co by_) :
    Calls Tryz.prog 124 #[.agg #[.int .i64 ax, .int .i64 ay], .agg #[.int .i64 bx, .int .i64 by_]] w fun e w' => e = .returned (.agg #[.int .i64 (bx - ax), .int .i64 (by_ - ay)]) ∧ Below w.heap.size w w' := by
  go_enter Tryz.func124, Tryz.ntmps124
  go_wp2_with fail
  exact bodyPost_ret (v := .agg #[.int .i64 (bx - ax), .int .i64 (by_ - ay)]) (by simp [results, Tryz.results124, go_sem]) rfl ⟨rfl, allocs_below w [(.cells #[.int .i64 ax, .int .i64 ay] 24), (.cells #[.int .i64 bx, .int .i64 by_] 24), (.cells #[.int .i64 (bx - ax), .int .i64 (by_ - ay)] 158)]⟩

set_option maxRecDepth 100000 in
set_option maxHeartbeats 1000000 in
theorem adot_any (w : World) (ax ay bx by_ : Int) (h1 : Df ax) (h2 : Df ay) (h3 : Df bx) (h4 : Df by_) :
    Calls Tryz.prog 125 #[.agg #[.int .i64 ax, .int .i64 ay], .agg #[.int .i64 bx, .int .i64 by_]] w fun e w' => e = .returned (.int .i64 (ax * bx + ay * by_)) ∧ Below w.heap.size w w' := by
  obtain ⟨m0a, m0b⟩ := mulB (x := ax) (y := bx) (M := 200000) (N := 200000) (by omega) (by omega)
  obtain ⟨m1a, m1b⟩ := mulB (x := ay) (y := by_) (M := 200000) (N := 200000) (by omega) (by omega)
  go_enter Tryz.func125, Tryz.ntmps125
  go_wp2_with fail
  go_ret
  exact ⟨rfl, allocs_below w [(.cells #[.int .i64 ax, .int .i64 ay] 158), (.cells #[.int .i64 bx, .int .i64 by_] 158)]⟩

set_option maxRecDepth 100000 in
set_option maxHeartbeats 1000000 in
theorem aturn_any (w : World) (ax ay bx by_ : Int) (h1 : Df ax) (h2 : Df ay) (h3 : Df bx) (h4 : Df by_) :
    Calls Tryz.prog 175 #[.agg #[.int .i64 ax, .int .i64 ay], .agg #[.int .i64 bx, .int .i64 by_]] w fun e w' => e = .returned (.int .i64 (ax * by_ - ay * bx)) ∧ Below w.heap.size w w' := by
  obtain ⟨m0a, m0b⟩ := mulB (x := ax) (y := by_) (M := 200000) (N := 200000) (by omega) (by omega)
  obtain ⟨m1a, m1b⟩ := mulB (x := ay) (y := bx) (M := 200000) (N := 200000) (by omega) (by omega)
  go_enter Tryz.func175, Tryz.ntmps175
  go_wp2_with fail
  go_ret
  exact ⟨rfl, allocs_below w [(.cells #[.int .i64 ax, .int .i64 ay] 158), (.cells #[.int .i64 bx, .int .i64 by_] 158)]⟩

set_option maxRecDepth 100000 in
set_option maxHeartbeats 1000000 in
theorem rminus_any (w : World) (ax ay bx by_ : Int) (h1 : Co ax) (h2 : Co ay) (h3 : Co bx) (h4 : Co by_) :
    Calls Tryz.prog 128 #[.agg #[.int .i64 ax, .int .i64 ay], .agg #[.int .i64 bx, .int .i64 by_]] w fun e w' => e = .returned (.agg #[.int .i64 (ax - bx), .int .i64 (ay - by_)]) ∧ Below w.heap.size w w' := by
  go_enter Tryz.func128, Tryz.ntmps128
  go_wp2_with fail
  exact bodyPost_ret (v := .agg #[.int .i64 (ax - bx), .int .i64 (ay - by_)]) (by simp [results, Tryz.results128, go_sem]) rfl ⟨rfl, allocs_below w [(.cells #[.int .i64 ax, .int .i64 ay] 24), (.cells #[.int .i64 bx, .int .i64 by_] 24), (.cells #[.int .i64 (ax - bx), .int .i64 (ay - by_)] 24)]⟩

set_option maxRecDepth 100000 in
set_option maxHeartbeats 1000000 in
theorem rtimes_any (w : World) (ax ay bx by_ : Int) (h1 : Df ax) (h2 : Df ay) (h3 : Df bx) (h4 : Df by_) :
    Calls Tryz.prog 129 #[.agg #[.int .i64 ax, .int .i64 ay], .agg #[.int .i64 bx, .int .i64 by_]] w fun e w' => e = .returned (.int .i64 (ax * bx + ay * by_)) ∧ Below w.heap.size w w' := by
  obtain ⟨m0a, m0b⟩ := mulB (x := ax) (y := bx) (M := 200000) (N := 200000) (by omega) (by omega)
  obtain ⟨m1a, m1b⟩ := mulB (x := ay) (y := by_) (M := 200000) (N := 200000) (by omega) (by omega)
  go_enter Tryz.func129, Tryz.ntmps129
  go_wp2_with fail
  go_ret
  exact ⟨rfl, allocs_below w [(.cells #[.int .i64 ax, .int .i64 ay] 24), (.cells #[.int .i64 bx, .int .i64 by_] 24)]⟩

set_option maxRecDepth 100000 in
set_option maxHeartbeats 1000000 in
theorem rturn_any (w : World) (ax ay bx by_ : Int) (h1 : Df ax) (h2 : Df ay) (h3 : Df bx) (h4 : Df by_) :
    Calls Tryz.prog 150 #[.agg #[.int .i64 ax, .int .i64 ay], .agg #[.int .i64 bx, .int .i64 by_]] w fun e w' => e = .returned (.int .i64 (ax * by_ - ay * bx)) ∧ Below w.heap.size w w' := by
  obtain ⟨m0a, m0b⟩ := mulB (x := ax) (y := by_) (M := 200000) (N := 200000) (by omega) (by omega)
  obtain ⟨m1a, m1b⟩ := mulB (x := ay) (y := bx) (M := 200000) (N := 200000) (by omega) (by omega)
  go_enter Tryz.func150, Tryz.ntmps150
  go_wp2_with fail
  go_ret
  exact ⟨rfl, allocs_below w [(.cells #[.int .i64 ax, .int .i64 ay] 24), (.cells #[.int .i64 bx, .int .i64 by_] 24)]⟩

end Go.Proofs.YtendaaghmeoddaaGreatDoor

namespace Go.Proofs.YtendaaghmeoddaaGreatDoor
open Go.RowKit MLab
set_option maxRecDepth 100000 in
set_option maxHeartbeats 1000000 in
theorem cross_any (w : World) (ax ay bx by_ cx cy : Int) (h1 : Co ax) (h2 : Co ay) (h3 : Co bx) (h4 : Co by_) (h5 : Co cx) (h6 : Co cy) :
    Calls Tryz.prog 156 #[.agg #[.int .i64 ax, .int .i64 ay], .agg #[.int .i64 bx, .int .i64 by_], .agg #[.int .i64 cx, .int .i64 cy]] w fun e w' => e = .returned (.int .i64 ((bx - ax) * (cy - ay) - (by_ - ay) * (cx - ax))) ∧ Below w.heap.size w w' := by
  go_enter Tryz.func156, Tryz.ntmps156
  go_upto_region 1 with (fail)
  have hb0 : Below w.heap.size w (((w.alloc (.cells #[.int .i64 ax, .int .i64 ay] 24)).alloc (.cells #[.int .i64 bx, .int .i64 by_] 24)).alloc (.cells #[.int .i64 cx, .int .i64 cy] 24)) := allocs_below w [(.cells #[.int .i64 ax, .int .i64 ay] 24), (.cells #[.int .i64 bx, .int .i64 by_] 24), (.cells #[.int .i64 cx, .int .i64 cy] 24)]
  have s0 : w.heap.size + 3 ≤ (((w.alloc (.cells #[.int .i64 ax, .int .i64 ay] 24)).alloc (.cells #[.int .i64 bx, .int .i64 by_] 24)).alloc (.cells #[.int .i64 cx, .int .i64 cy] 24)).heap.size := Nat.le_of_eq (allocs_size w [(.cells #[.int .i64 ax, .int .i64 ay] 24), (.cells #[.int .i64 bx, .int .i64 by_] 24), (.cells #[.int .i64 cx, .int .i64 cy] 24)]).symm
  have kb0 : (((w.alloc (.cells #[.int .i64 ax, .int .i64 ay] 24)).alloc (.cells #[.int .i64 bx, .int .i64 by_] 24)).alloc (.cells #[.int .i64 cx, .int .i64 cy] 24)).heap[w.heap.size + 0]? = some (.cells #[.int .i64 ax, .int .i64 ay] 24) := allocs_at w [(.cells #[.int .i64 ax, .int .i64 ay] 24), (.cells #[.int .i64 bx, .int .i64 by_] 24), (.cells #[.int .i64 cx, .int .i64 cy] 24)] 0 rfl
  have kb1 : (((w.alloc (.cells #[.int .i64 ax, .int .i64 ay] 24)).alloc (.cells #[.int .i64 bx, .int .i64 by_] 24)).alloc (.cells #[.int .i64 cx, .int .i64 cy] 24)).heap[w.heap.size + 1]? = some (.cells #[.int .i64 bx, .int .i64 by_] 24) := allocs_at w [(.cells #[.int .i64 ax, .int .i64 ay] 24), (.cells #[.int .i64 bx, .int .i64 by_] 24), (.cells #[.int .i64 cx, .int .i64 cy] 24)] 1 rfl
  have kb2 : (((w.alloc (.cells #[.int .i64 ax, .int .i64 ay] 24)).alloc (.cells #[.int .i64 bx, .int .i64 by_] 24)).alloc (.cells #[.int .i64 cx, .int .i64 cy] 24)).heap[w.heap.size + 2]? = some (.cells #[.int .i64 cx, .int .i64 cy] 24) := allocs_at w [(.cells #[.int .i64 ax, .int .i64 ay] 24), (.cells #[.int .i64 bx, .int .i64 by_] 24), (.cells #[.int .i64 cx, .int .i64 cy] 24)] 2 rfl
  generalize (((w.alloc (.cells #[.int .i64 ax, .int .i64 ay] 24)).alloc (.cells #[.int .i64 bx, .int .i64 by_] 24)).alloc (.cells #[.int .i64 cx, .int .i64 cy] 24)) = w0 at *
  have k0_0 : w0.cell? ⟨w.heap.size, 0, none⟩ = some (.int .i64 ax) := (Blk.cell kb0 0).trans rfl
  have k0_1 : w0.cell? ⟨w.heap.size, 1, none⟩ = some (.int .i64 ay) := (Blk.cell kb0 1).trans rfl
  have k1_0 : w0.cell? ⟨w.heap.size + 1, 0, none⟩ = some (.int .i64 bx) := (Blk.cell kb1 0).trans rfl
  have k1_1 : w0.cell? ⟨w.heap.size + 1, 1, none⟩ = some (.int .i64 by_) := (Blk.cell kb1 1).trans rfl
  have k2_0 : w0.cell? ⟨w.heap.size + 1 + 1, 0, none⟩ = some (.int .i64 cx) := (Blk.cell kb2 0).trans rfl
  have k2_1 : w0.cell? ⟨w.heap.size + 1 + 1, 1, none⟩ = some (.int .i64 cy) := (Blk.cell kb2 1).trans rfl
  clear kb0 kb1 kb2
  have SK : ∀ w', Below w0.heap.size w0 w' → Below w0.heap.size w0 w' ∧ w'.cell? ⟨w.heap.size, 0, none⟩ = some (.int .i64 ax) ∧ w'.cell? ⟨w.heap.size, 1, none⟩ = some (.int .i64 ay) ∧ w'.cell? ⟨w.heap.size + 1, 0, none⟩ = some (.int .i64 bx) ∧ w'.cell? ⟨w.heap.size + 1, 1, none⟩ = some (.int .i64 by_) ∧ w'.cell? ⟨w.heap.size + 1 + 1, 0, none⟩ = some (.int .i64 cx) ∧ w'.cell? ⟨w.heap.size + 1 + 1, 1, none⟩ = some (.int .i64 cy) := fun w' h => ⟨h, (bcell h _ _ (by omega)).trans k0_0, (bcell h _ _ (by omega)).trans k0_1, (bcell h _ _ (by omega)).trans k1_0, (bcell h _ _ (by omega)).trans k1_1, (bcell h _ _ (by omega)).trans k2_0, (bcell h _ _ (by omega)).trans k2_1⟩
  go_region_held3 (fun w' => Below w0.heap.size w0 w' ∧ w'.cell? ⟨w.heap.size, 0, none⟩ = some (.int .i64 ax) ∧ w'.cell? ⟨w.heap.size, 1, none⟩ = some (.int .i64 ay) ∧ w'.cell? ⟨w.heap.size + 1, 0, none⟩ = some (.int .i64 bx) ∧ w'.cell? ⟨w.heap.size + 1, 1, none⟩ = some (.int .i64 by_) ∧ w'.cell? ⟨w.heap.size + 1 + 1, 0, none⟩ = some (.int .i64 cx) ∧ w'.cell? ⟨w.heap.size + 1 + 1, 1, none⟩ = some (.int .i64 cy)) (first | exact SK _ (Below.refl _ _).drew | exact SK _ (bel_next (by assumption) (by assumption) (Nat.le_refl _)))
    (first
      | (go_at_call_of 124 ((.agg #[.int .i64 bx, .int .i64 by_] : Value)); refine (to_any _ ax ay bx by_ h1 h2 h3 h4).mono ?_; rintro e w1 ⟨rfl, hb1⟩)
      | (go_at_call_of 124 ((.agg #[.int .i64 cx, .int .i64 cy] : Value)); refine (to_any _ ax ay cx cy h1 h2 h5 h6).mono ?_; rintro e w1 ⟨rfl, hb1⟩)
      | (go_at_call 175; refine (aturn_any _ (bx - ax) (by_ - ay) (cx - ax) (cy - ay) (by omega) (by omega) (by omega) (by omega)).mono ?_; rintro e w1 ⟨rfl, hb1⟩))
  go_wp2_with fail
  go_ret
  exact ⟨rfl, hb0.trans (Below.mono (And.left (by assumption)) hb0.size)⟩


/-- Block d is a row of three cells of this type, none frozen. -/
def Dst3 (w : World) (d : Nat) (t : TypeId) : Prop := ∃ a b c, w.heap[d]? = some (.cells #[a, b, c] t (0, 0))
theorem Dst3.below {w w1 : World} {d : Nat} {t : TypeId} (h : Dst3 w d t) (k : Below w.heap.size w w1) : Dst3 w1 d t := by
  obtain ⟨a, b, c, h⟩ := h
  exact ⟨a, b, c, (k.block d (Blk.lt h)).trans h⟩
theorem Dst3.set_ {w : World} {d : Nat} {t : TypeId} (h : Dst3 w d t) (i : Nat) (v : Value) : Dst3 (w.setCell ⟨d, i, none⟩ v) d t := by
  obtain ⟨a, b, c, h⟩ := h
  have k := heap_setCell_same w d i #[a, b, c] t v h
  match i with
  | 0 => exact ⟨v, b, c, k⟩
  | 1 => exact ⟨a, v, c, k⟩
  | 2 => exact ⟨a, b, v, k⟩
  | j + 3 => exact ⟨a, b, c, by rw [k, Array.setIfInBounds_eq_of_size_le (by simp)]⟩
theorem Dst3.facts {w : World} {d : Nat} {t : TypeId} (h : Dst3 w d t) : ∃ a b c, w.cell? ⟨d, 0, none⟩ = some a ∧ w.cell? ⟨d, 1, none⟩ = some b ∧ w.cell? ⟨d, 2, none⟩ = some c ∧ w.frozen? ⟨d, 0, none⟩ = false ∧ w.frozen? ⟨d, 1, none⟩ = false ∧ w.frozen? ⟨d, 2, none⟩ = false := by
  obtain ⟨a, b, c, h⟩ := h
  exact ⟨a, b, c, Blk.cell h 0, Blk.cell h 1, Blk.cell h 2, Blk.frozen h 0, Blk.frozen h 1, Blk.frozen h 2⟩
theorem dst_next {B : Nat} {w0 w w1 : World} {d : Nat} {t : TypeId} {R : Prop} (h : Below B w0 w ∧ Dst3 w d t ∧ R) (k : Below w.heap.size w w1) (hB : B ≤ d) : Below B w0 w1 ∧ Dst3 w1 d t := by
  have hd := h.2.1
  obtain ⟨a, b, c, hh⟩ := hd
  have := Blk.lt hh
  exact ⟨h.1.trans (k.mono (by omega)), h.2.1.below k⟩
theorem dst_drew {B : Nat} {w0 w : World} {d : Nat} {t : TypeId} (h : Below B w0 w ∧ Dst3 w d t) : Below B w0 w.drew ∧ Dst3 w.drew d t := ⟨h.1.drew, h.2⟩
theorem dst_set {B : Nat} {w0 w : World} {d : Nat} {t : TypeId} (h : Below B w0 w ∧ Dst3 w d t) (i : Nat) (v : Value) (hB : B ≤ d) : Below B w0 (w.setCell ⟨d, i, none⟩ v) ∧ Dst3 (w.setCell ⟨d, i, none⟩ v) d t :=
  ⟨h.1.setCell (p := ⟨d, i, none⟩) hB v, h.2.set_ i v⟩
theorem dst_now {B : Nat} {w0 w : World} {d : Nat} {t : TypeId} {R : Prop} (h : Below B w0 w ∧ Dst3 w d t ∧ R) : Below B w0 w ∧ Dst3 w d t := ⟨h.1, h.2.1⟩

end Go.Proofs.YtendaaghmeoddaaGreatDoor

namespace Go.Proofs.YtendaaghmeoddaaGreatDoor
open Go.RowKit MLab


/-- A number and an error number, by whether the arguments are right. -/
abbrev R2 (v : Int) (ok : Prop) [Decidable ok] : Value := .tuple #[.int .i64 (if ok then v else 0), .int .i64 (if ok then 0 else 2)]
theorem R2_pos (v : Int) {ok : Prop} [Decidable ok] (h : ok) : R2 v ok = .tuple #[.int .i64 v, .int .i64 0] := by simp [R2, h]
theorem R2_neg (v : Int) {ok : Prop} [Decidable ok] (h : ¬ ok) : R2 v ok = .tuple #[.int .i64 0, .int .i64 2] := by simp [R2, h]

theorem Pts2 (w : World) (a b : Int × Int) (t : TypeId) (cap : Nat) : Pts (w.alloc (.cells #[.int .i64 a.1, .int .i64 a.2, .int .i64 b.1, .int .i64 b.2] t)) (.slice (some ⟨w.heap.size, 0, none⟩) 2 cap) [a, b] :=
  Pts.new w [a, b] t _ (fun i p hi => match i, hi with | 0, hi => by cases hi; exact ⟨rfl, rfl⟩ | 1, hi => by cases hi; exact ⟨rfl, rfl⟩ | j + 2, hi => by simp at hi) cap
theorem Pts3 (w : World) (a b c : Int × Int) (t : TypeId) (cap : Nat) : Pts (w.alloc (.cells #[.int .i64 a.1, .int .i64 a.2, .int .i64 b.1, .int .i64 b.2, .int .i64 c.1, .int .i64 c.2] t)) (.slice (some ⟨w.heap.size, 0, none⟩) 3 cap) [a, b, c] :=
  Pts.new w [a, b, c] t _ (fun i p hi => match i, hi with | 0, hi => by cases hi; exact ⟨rfl, rfl⟩ | 1, hi => by cases hi; exact ⟨rfl, rfl⟩ | 2, hi => by cases hi; exact ⟨rfl, rfl⟩ | j + 3, hi => by simp at hi) cap
theorem Sps2 (w : World) (a b : Int × Int × Int) (t : TypeId) (cap : Nat) : Sps (w.alloc (.cells #[.int .i64 a.1, .int .i64 a.2.1, .int .i64 a.2.2, .int .i64 b.1, .int .i64 b.2.1, .int .i64 b.2.2] t)) (.slice (some ⟨w.heap.size, 0, none⟩) 2 cap) [a, b] :=
  Sps.new w [a, b] t _ (fun i p hi => match i, hi with | 0, hi => by cases hi; exact ⟨rfl, rfl, rfl⟩ | 1, hi => by cases hi; exact ⟨rfl, rfl, rfl⟩ | j + 2, hi => by simp at hi) cap
theorem Sps3 (w : World) (a b c : Int × Int × Int) (t : TypeId) (cap : Nat) : Sps (w.alloc (.cells #[.int .i64 a.1, .int .i64 a.2.1, .int .i64 a.2.2, .int .i64 b.1, .int .i64 b.2.1, .int .i64 b.2.2, .int .i64 c.1, .int .i64 c.2.1, .int .i64 c.2.2] t)) (.slice (some ⟨w.heap.size, 0, none⟩) 3 cap) [a, b, c] :=
  Sps.new w [a, b, c] t _ (fun i p hi => match i, hi with | 0, hi => by cases hi; exact ⟨rfl, rfl, rfl⟩ | 1, hi => by cases hi; exact ⟨rfl, rfl, rfl⟩ | 2, hi => by cases hi; exact ⟨rfl, rfl, rfl⟩ | j + 3, hi => by simp at hi) cap
theorem Sps4 (w : World) (a b c d : Int × Int × Int) (t : TypeId) (cap : Nat) : Sps (w.alloc (.cells #[.int .i64 a.1, .int .i64 a.2.1, .int .i64 a.2.2, .int .i64 b.1, .int .i64 b.2.1, .int .i64 b.2.2, .int .i64 c.1, .int .i64 c.2.1, .int .i64 c.2.2, .int .i64 d.1, .int .i64 d.2.1, .int .i64 d.2.2] t)) (.slice (some ⟨w.heap.size, 0, none⟩) 4 cap) [a, b, c, d] :=
  Sps.new w [a, b, c, d] t _ (fun i p hi => match i, hi with | 0, hi => by cases hi; exact ⟨rfl, rfl, rfl⟩ | 1, hi => by cases hi; exact ⟨rfl, rfl, rfl⟩ | 2, hi => by cases hi; exact ⟨rfl, rfl, rfl⟩ | 3, hi => by cases hi; exact ⟨rfl, rfl, rfl⟩ | j + 4, hi => by simp at hi) cap
end Go.Proofs.YtendaaghmeoddaaGreatDoor

namespace Go.Proofs.YtendaaghmeoddaaGreatDoor
open Go.RowKit MLab
theorem cmp_sign (x : Int) : Lib.compareInt x 0 = Int.sign x := by
  unfold Lib.compareInt
  rcases Int.lt_trichotomy x 0 with h | h | h
  · rw [if_pos h, Int.sign_eq_neg_one_of_neg h]
  · subst h; rfl
  · rw [if_neg (by omega), if_pos (by omega), Int.sign_eq_one_of_pos h]

set_option maxRecDepth 100000 in
theorem rsignum_any (w : World) (x : Int) : Calls Tryz.prog 172 #[.int .i64 x] w fun e w' => e = .returned (.int .i64 (Int.sign x)) ∧ w = w' := by
  go_enter Tryz.func172, Tryz.ntmps172
  rcases Int.lt_trichotomy x 0 with h | h | h
  · rw [Int.sign_eq_neg_one_of_neg h]
    go_wp2_with fail
    go_ret
    exact ⟨rfl, rfl⟩
  · subst h
    go_wp2_with fail
    go_ret
    exact ⟨rfl, rfl⟩
  · rw [Int.sign_eq_one_of_pos h]
    have h2 : ¬ x < 0 := by omega
    go_wp2_with fail
    go_ret
    exact ⟨rfl, rfl⟩

set_option maxRecDepth 100000 in
set_option maxHeartbeats 1000000 in
theorem rleft_any (w : World) (ax ay bx by_ cx cy : Int) (hax : Co ax) (hay : Co ay) (hbx : Co bx) (hby_ : Co by_) (hcx : Co cx) (hcy : Co cy) :
    Calls Tryz.prog 116 #[.agg #[.int .i64 ax, .int .i64 ay], .agg #[.int .i64 bx, .int .i64 by_], .agg #[.int .i64 cx, .int .i64 cy]] w fun e w' => e = .returned (.int .i64 ((bx - ax) * (cy - ay) - (by_ - ay) * (cx - ax))) ∧ Below w.heap.size w w' := by
  go_enter Tryz.func116, Tryz.ntmps116
  go_upto_region 1 with (fail)
  have hb0 : Below w.heap.size w (((w.alloc (.cells #[.int .i64 ax, .int .i64 ay] 24)).alloc (.cells #[.int .i64 bx, .int .i64 by_] 24)).alloc (.cells #[.int .i64 cx, .int .i64 cy] 24)) := allocs_below w [(.cells #[.int .i64 ax, .int .i64 ay] 24), (.cells #[.int .i64 bx, .int .i64 by_] 24), (.cells #[.int .i64 cx, .int .i64 cy] 24)]
  have s0 : w.heap.size + 3 ≤ (((w.alloc (.cells #[.int .i64 ax, .int .i64 ay] 24)).alloc (.cells #[.int .i64 bx, .int .i64 by_] 24)).alloc (.cells #[.int .i64 cx, .int .i64 cy] 24)).heap.size := Nat.le_of_eq (allocs_size w [(.cells #[.int .i64 ax, .int .i64 ay] 24), (.cells #[.int .i64 bx, .int .i64 by_] 24), (.cells #[.int .i64 cx, .int .i64 cy] 24)]).symm
  have kb0 : (((w.alloc (.cells #[.int .i64 ax, .int .i64 ay] 24)).alloc (.cells #[.int .i64 bx, .int .i64 by_] 24)).alloc (.cells #[.int .i64 cx, .int .i64 cy] 24)).heap[w.heap.size + 0]? = some (.cells #[.int .i64 ax, .int .i64 ay] 24) := allocs_at w [(.cells #[.int .i64 ax, .int .i64 ay] 24), (.cells #[.int .i64 bx, .int .i64 by_] 24), (.cells #[.int .i64 cx, .int .i64 cy] 24)] 0 rfl
  have kb1 : (((w.alloc (.cells #[.int .i64 ax, .int .i64 ay] 24)).alloc (.cells #[.int .i64 bx, .int .i64 by_] 24)).alloc (.cells #[.int .i64 cx, .int .i64 cy] 24)).heap[w.heap.size + 1]? = some (.cells #[.int .i64 bx, .int .i64 by_] 24) := allocs_at w [(.cells #[.int .i64 ax, .int .i64 ay] 24), (.cells #[.int .i64 bx, .int .i64 by_] 24), (.cells #[.int .i64 cx, .int .i64 cy] 24)] 1 rfl
  have kb2 : (((w.alloc (.cells #[.int .i64 ax, .int .i64 ay] 24)).alloc (.cells #[.int .i64 bx, .int .i64 by_] 24)).alloc (.cells #[.int .i64 cx, .int .i64 cy] 24)).heap[w.heap.size + 2]? = some (.cells #[.int .i64 cx, .int .i64 cy] 24) := allocs_at w [(.cells #[.int .i64 ax, .int .i64 ay] 24), (.cells #[.int .i64 bx, .int .i64 by_] 24), (.cells #[.int .i64 cx, .int .i64 cy] 24)] 2 rfl
  generalize (((w.alloc (.cells #[.int .i64 ax, .int .i64 ay] 24)).alloc (.cells #[.int .i64 bx, .int .i64 by_] 24)).alloc (.cells #[.int .i64 cx, .int .i64 cy] 24)) = w0 at *
  have k0_0 : w0.cell? ⟨w.heap.size, 0, none⟩ = some (.int .i64 ax) := (Blk.cell kb0 0).trans rfl
  have k0_1 : w0.cell? ⟨w.heap.size, 1, none⟩ = some (.int .i64 ay) := (Blk.cell kb0 1).trans rfl
  have k1_0 : w0.cell? ⟨w.heap.size + 1, 0, none⟩ = some (.int .i64 bx) := (Blk.cell kb1 0).trans rfl
  have k1_1 : w0.cell? ⟨w.heap.size + 1, 1, none⟩ = some (.int .i64 by_) := (Blk.cell kb1 1).trans rfl
  have k2_0 : w0.cell? ⟨w.heap.size + 1 + 1, 0, none⟩ = some (.int .i64 cx) := (Blk.cell kb2 0).trans rfl
  have k2_1 : w0.cell? ⟨w.heap.size + 1 + 1, 1, none⟩ = some (.int .i64 cy) := (Blk.cell kb2 1).trans rfl
  clear kb0 kb1 kb2
  have SK : ∀ w', Below w0.heap.size w0 w' → Below w0.heap.size w0 w' ∧ w'.cell? ⟨w.heap.size, 0, none⟩ = some (.int .i64 ax) ∧ w'.cell? ⟨w.heap.size, 1, none⟩ = some (.int .i64 ay) ∧ w'.cell? ⟨w.heap.size + 1, 0, none⟩ = some (.int .i64 bx) ∧ w'.cell? ⟨w.heap.size + 1, 1, none⟩ = some (.int .i64 by_) ∧ w'.cell? ⟨w.heap.size + 1 + 1, 0, none⟩ = some (.int .i64 cx) ∧ w'.cell? ⟨w.heap.size + 1 + 1, 1, none⟩ = some (.int .i64 cy) := fun w' h => ⟨h, (bcell h _ _ (by omega)).trans k0_0, (bcell h _ _ (by omega)).trans k0_1, (bcell h _ _ (by omega)).trans k1_0, (bcell h _ _ (by omega)).trans k1_1, (bcell h _ _ (by omega)).trans k2_0, (bcell h _ _ (by omega)).trans k2_1⟩
  go_region_held3 (fun w' => Below w0.heap.size w0 w' ∧ w'.cell? ⟨w.heap.size, 0, none⟩ = some (.int .i64 ax) ∧ w'.cell? ⟨w.heap.size, 1, none⟩ = some (.int .i64 ay) ∧ w'.cell? ⟨w.heap.size + 1, 0, none⟩ = some (.int .i64 bx) ∧ w'.cell? ⟨w.heap.size + 1, 1, none⟩ = some (.int .i64 by_) ∧ w'.cell? ⟨w.heap.size + 1 + 1, 0, none⟩ = some (.int .i64 cx) ∧ w'.cell? ⟨w.heap.size + 1 + 1, 1, none⟩ = some (.int .i64 cy)) (first | exact SK _ (Below.refl _ _).drew | exact SK _ (bel_next (by assumption) (by assumption) (Nat.le_refl _)))
    (first
      | (go_at_call_of 128 ((.agg #[.int .i64 bx, .int .i64 by_] : Value)); refine (rminus_any _ bx by_ ax ay hbx hby_ hax hay).mono ?_; rintro e wx ⟨rfl, hbW⟩)
      | (go_at_call_of 128 ((.agg #[.int .i64 cx, .int .i64 cy] : Value)); refine (rminus_any _ cx cy ax ay hcx hcy hax hay).mono ?_; rintro e wx ⟨rfl, hbW⟩)
      | (go_at_call 150; refine (rturn_any _ (bx - ax) (by_ - ay) (cx - ax) (cy - ay) (by omega) (by omega) (by omega) (by omega)).mono ?_; rintro e wx ⟨rfl, hbW⟩))
  go_wp2_with fail
  go_ret
  exact ⟨rfl, hb0.trans (Below.mono (And.left (by assumption)) hb0.size)⟩

set_option maxRecDepth 100000 in
set_option maxHeartbeats 1000000 in
theorem rfar_any (w : World) (ax ay bx by_ : Int) (hax : Co ax) (hay : Co ay) (hbx : Co bx) (hby_ : Co by_) :
    Calls Tryz.prog 130 #[.agg #[.int .i64 ax, .int .i64 ay], .agg #[.int .i64 bx, .int .i64 by_]] w fun e w' => e = .returned (.int .i64 ((ax - bx) * (ax - bx) + (ay - by_) * (ay - by_))) ∧ Below w.heap.size w w' := by
  go_enter Tryz.func130, Tryz.ntmps130
  go_upto_region 1 with (fail)
  have hb0 : Below w.heap.size w ((w.alloc (.cells #[.int .i64 ax, .int .i64 ay] 24)).alloc (.cells #[.int .i64 bx, .int .i64 by_] 24)) := allocs_below w [(.cells #[.int .i64 ax, .int .i64 ay] 24), (.cells #[.int .i64 bx, .int .i64 by_] 24)]
  have s0 : w.heap.size + 2 ≤ ((w.alloc (.cells #[.int .i64 ax, .int .i64 ay] 24)).alloc (.cells #[.int .i64 bx, .int .i64 by_] 24)).heap.size := Nat.le_of_eq (allocs_size w [(.cells #[.int .i64 ax, .int .i64 ay] 24), (.cells #[.int .i64 bx, .int .i64 by_] 24)]).symm
  have kb0 : ((w.alloc (.cells #[.int .i64 ax, .int .i64 ay] 24)).alloc (.cells #[.int .i64 bx, .int .i64 by_] 24)).heap[w.heap.size + 0]? = some (.cells #[.int .i64 ax, .int .i64 ay] 24) := allocs_at w [(.cells #[.int .i64 ax, .int .i64 ay] 24), (.cells #[.int .i64 bx, .int .i64 by_] 24)] 0 rfl
  have kb1 : ((w.alloc (.cells #[.int .i64 ax, .int .i64 ay] 24)).alloc (.cells #[.int .i64 bx, .int .i64 by_] 24)).heap[w.heap.size + 1]? = some (.cells #[.int .i64 bx, .int .i64 by_] 24) := allocs_at w [(.cells #[.int .i64 ax, .int .i64 ay] 24), (.cells #[.int .i64 bx, .int .i64 by_] 24)] 1 rfl
  generalize ((w.alloc (.cells #[.int .i64 ax, .int .i64 ay] 24)).alloc (.cells #[.int .i64 bx, .int .i64 by_] 24)) = w0 at *
  have k0_0 : w0.cell? ⟨w.heap.size, 0, none⟩ = some (.int .i64 ax) := (Blk.cell kb0 0).trans rfl
  have k0_1 : w0.cell? ⟨w.heap.size, 1, none⟩ = some (.int .i64 ay) := (Blk.cell kb0 1).trans rfl
  have k1_0 : w0.cell? ⟨w.heap.size + 1, 0, none⟩ = some (.int .i64 bx) := (Blk.cell kb1 0).trans rfl
  have k1_1 : w0.cell? ⟨w.heap.size + 1, 1, none⟩ = some (.int .i64 by_) := (Blk.cell kb1 1).trans rfl
  clear kb0 kb1
  have SK : ∀ w', Below w0.heap.size w0 w' → Below w0.heap.size w0 w' ∧ w'.cell? ⟨w.heap.size, 0, none⟩ = some (.int .i64 ax) ∧ w'.cell? ⟨w.heap.size, 1, none⟩ = some (.int .i64 ay) ∧ w'.cell? ⟨w.heap.size + 1, 0, none⟩ = some (.int .i64 bx) ∧ w'.cell? ⟨w.heap.size + 1, 1, none⟩ = some (.int .i64 by_) := fun w' h => ⟨h, (bcell h _ _ (by omega)).trans k0_0, (bcell h _ _ (by omega)).trans k0_1, (bcell h _ _ (by omega)).trans k1_0, (bcell h _ _ (by omega)).trans k1_1⟩
  go_region_held3 (fun w' => Below w0.heap.size w0 w' ∧ w'.cell? ⟨w.heap.size, 0, none⟩ = some (.int .i64 ax) ∧ w'.cell? ⟨w.heap.size, 1, none⟩ = some (.int .i64 ay) ∧ w'.cell? ⟨w.heap.size + 1, 0, none⟩ = some (.int .i64 bx) ∧ w'.cell? ⟨w.heap.size + 1, 1, none⟩ = some (.int .i64 by_)) (first | exact SK _ (Below.refl _ _).drew | exact SK _ (bel_next (by assumption) (by assumption) (Nat.le_refl _)))
    (first
      | (go_at_call 128; refine (rminus_any _ ax ay bx by_ hax hay hbx hby_).mono ?_; rintro e wx ⟨rfl, hbW⟩)
      | (go_at_call 129; refine (rtimes_any _ (ax - bx) (ay - by_) (ax - bx) (ay - by_) (by omega) (by omega) (by omega) (by omega)).mono ?_; rintro e wx ⟨rfl, hbW⟩))
  go_wp2_with fail
  go_ret
  exact ⟨rfl, hb0.trans (Below.mono (And.left (by assumption)) hb0.size)⟩

end Go.Proofs.YtendaaghmeoddaaGreatDoor

namespace Go.Proofs.YtendaaghmeoddaaGreatDoor
open Go.RowKit MLab


/-- A normal and an error number, by whether the arguments are right. -/
abbrev RN (x y z : Int) (ok : Prop) [Decidable ok] : Value := .tuple #[.agg #[.int .i64 (if ok then x else 0), .int .i64 (if ok then y else 0), .int .i64 (if ok then z else 0)], .int .i64 (if ok then 0 else 2)]
theorem RN_pos (x y z : Int) {ok : Prop} [Decidable ok] (h : ok) : RN x y z ok = .tuple #[.agg #[.int .i64 x, .int .i64 y, .int .i64 z], .int .i64 0] := by simp [RN, h]
theorem RN_neg (x y z : Int) {ok : Prop} [Decidable ok] (h : ¬ ok) : RN x y z ok = .tuple #[.agg #[.int .i64 0, .int .i64 0, .int .i64 0], .int .i64 2] := by simp [RN, h]

end Go.Proofs.YtendaaghmeoddaaGreatDoor
