/- vector: ToSegment. -/
import Derived.Test.YtendaaghmeoddaaGreatDoorDist
namespace Go.Proofs.YtendaaghmeoddaaGreatDoor
open Go.RowKit MLab

/-- What ToSegment returns. -/
def segR (px py ax ay bx by_ : Int) : Except Int Rat :=
  if Co px ∧ Co py ∧ Co ax ∧ Co ay ∧ Co bx ∧ Co by_ then (if 0 < (bx - ax) * (px - bx) + (by_ - ay) * (py - by_) then .ok (((px - bx) * (px - bx) + (py - by_) * (py - by_) : Int) : Rat) else if (bx - ax) * (px - ax) + (by_ - ay) * (py - ay) ≤ 0 then .ok (((px - ax) * (px - ax) + (py - ay) * (py - ay) : Int) : Rat) else lineR px py ax ay bx by_) else .error 2

/-- The text of what is returned, and its error number. -/
def RRs : Except Int Rat → ByteArray
  | .ok q => ⟨(RT q).toArray⟩
  | .error _ => ⟨#[]⟩
def RRe : Except Int Rat → Int
  | .ok _ => 0
  | .error e => e
theorem RR_tuple (r : Except Int Rat) : RR r = .tuple #[.string (RRs r), .int .i64 (RRe r)] := by cases r <;> rfl

theorem blk_set2 {w : World} {d : Nat} {t : TypeId} {a b : Value} (h : Blk w d t #[a, b]) (x y : Value) : Blk ((w.setCell ⟨d, 0, none⟩ x).setCell ⟨d, 1, none⟩ y) d t #[x, y] := by
  have := (h.set_ 0 x).set_ 1 y; simpa using this
theorem below_set2 (w : World) (d : Nat) (x y : Value) : Below d w ((w.setCell ⟨d, 0, none⟩ x).setCell ⟨d, 1, none⟩ y) :=
  ((Below.refl _ _).setCell (p := ⟨d, 0, none⟩) (Nat.le_refl _) x).setCell (p := ⟨d, 1, none⟩) (Nat.le_refl _) y

set_option maxRecDepth 100000 in
set_option maxHeartbeats 1000000 in
theorem seg_one (w : World) (px py ax ay bx by_ : Int) (hs : Std w) (hok : Co px ∧ Co py ∧ Co ax ∧ Co ay ∧ Co bx ∧ Co by_) (hc1 : 0 < (bx - ax) * (px - bx) + (by_ - ay) * (py - by_)) (hc2 : 0 < (bx - ax) * (px - ax) + (by_ - ay) * (py - ay)) :
    Calls Tryz.prog 93 #[.agg #[.int .i64 px, .int .i64 py], .agg #[.int .i64 ax, .int .i64 ay], .agg #[.int .i64 bx, .int .i64 by_]] w fun e w' => e = .returned (RR (.ok (((px - bx) * (px - bx) + (py - by_) * (py - by_) : Int) : Rat))) ∧ Below w.heap.size w w' := by
  have HS := hide hs
  clear hs
  have hchk : chkPts [(px, py), (ax, ay), (bx, by_)] = 0 := by simp [chkPts, okPts, hok]
  obtain ⟨hpx, hpy, hax, hay, hbx, hby_⟩ := id hok
  clear hok
  obtain ⟨m0a, m0b⟩ := mulB (x := (px - bx)) (y := (px - bx)) (M := 200000) (N := 200000) (by omega) (by omega)
  obtain ⟨m1a, m1b⟩ := mulB (x := (py - by_)) (y := (py - by_)) (M := 200000) (N := 200000) (by omega) (by omega)
  have QB0 := hide (p := -9223372036854775808 ≤ (px - bx) * (px - bx) + (py - by_) * (py - by_)) (by omega)
  have QB1 := hide (p := (px - bx) * (px - bx) + (py - by_) * (py - by_) ≤ 9223372036854775807) (by omega)
  clear m0a m0b m1a m1b
  generalize hqr : (((px - bx) * (px - bx) + (py - by_) * (py - by_) : Int) : Rat) = qr
  have hd : decide ((bx - ax) * (px - ax) + (by_ - ay) * (py - ay) ≤ 0) = false := decide_eq_false (by omega)
  go_enter Tryz.func93, Tryz.ntmps93
  go_upto_region 1 with (fail)
  have hb0 : Below w.heap.size w (((w.alloc (.cells #[.int .i64 px, .int .i64 py] 24)).alloc (.cells #[.int .i64 ax, .int .i64 ay] 24)).alloc (.cells #[.int .i64 bx, .int .i64 by_] 24)) := allocs_below w [(.cells #[.int .i64 px, .int .i64 py] 24), (.cells #[.int .i64 ax, .int .i64 ay] 24), (.cells #[.int .i64 bx, .int .i64 by_] 24)]
  have s0 : w.heap.size + 3 ≤ (((w.alloc (.cells #[.int .i64 px, .int .i64 py] 24)).alloc (.cells #[.int .i64 ax, .int .i64 ay] 24)).alloc (.cells #[.int .i64 bx, .int .i64 by_] 24)).heap.size := Nat.le_of_eq (allocs_size w [(.cells #[.int .i64 px, .int .i64 py] 24), (.cells #[.int .i64 ax, .int .i64 ay] 24), (.cells #[.int .i64 bx, .int .i64 by_] 24)]).symm
  have kb0 : (((w.alloc (.cells #[.int .i64 px, .int .i64 py] 24)).alloc (.cells #[.int .i64 ax, .int .i64 ay] 24)).alloc (.cells #[.int .i64 bx, .int .i64 by_] 24)).heap[w.heap.size + 0]? = some (.cells #[.int .i64 px, .int .i64 py] 24) := allocs_at w [(.cells #[.int .i64 px, .int .i64 py] 24), (.cells #[.int .i64 ax, .int .i64 ay] 24), (.cells #[.int .i64 bx, .int .i64 by_] 24)] 0 rfl
  have kb1 : (((w.alloc (.cells #[.int .i64 px, .int .i64 py] 24)).alloc (.cells #[.int .i64 ax, .int .i64 ay] 24)).alloc (.cells #[.int .i64 bx, .int .i64 by_] 24)).heap[w.heap.size + 1]? = some (.cells #[.int .i64 ax, .int .i64 ay] 24) := allocs_at w [(.cells #[.int .i64 px, .int .i64 py] 24), (.cells #[.int .i64 ax, .int .i64 ay] 24), (.cells #[.int .i64 bx, .int .i64 by_] 24)] 1 rfl
  have kb2 : (((w.alloc (.cells #[.int .i64 px, .int .i64 py] 24)).alloc (.cells #[.int .i64 ax, .int .i64 ay] 24)).alloc (.cells #[.int .i64 bx, .int .i64 by_] 24)).heap[w.heap.size + 2]? = some (.cells #[.int .i64 bx, .int .i64 by_] 24) := allocs_at w [(.cells #[.int .i64 px, .int .i64 py] 24), (.cells #[.int .i64 ax, .int .i64 ay] 24), (.cells #[.int .i64 bx, .int .i64 by_] 24)] 2 rfl
  generalize (((w.alloc (.cells #[.int .i64 px, .int .i64 py] 24)).alloc (.cells #[.int .i64 ax, .int .i64 ay] 24)).alloc (.cells #[.int .i64 bx, .int .i64 by_] 24)) = w0 at *
  have k0_0 : w0.cell? ⟨w.heap.size, 0, none⟩ = some (.int .i64 px) := (Blk.cell kb0 0).trans rfl
  have k0_1 : w0.cell? ⟨w.heap.size, 1, none⟩ = some (.int .i64 py) := (Blk.cell kb0 1).trans rfl
  have k1_0 : w0.cell? ⟨w.heap.size + 1, 0, none⟩ = some (.int .i64 ax) := (Blk.cell kb1 0).trans rfl
  have k1_1 : w0.cell? ⟨w.heap.size + 1, 1, none⟩ = some (.int .i64 ay) := (Blk.cell kb1 1).trans rfl
  have k2_0 : w0.cell? ⟨w.heap.size + 1 + 1, 0, none⟩ = some (.int .i64 bx) := (Blk.cell kb2 0).trans rfl
  have k2_1 : w0.cell? ⟨w.heap.size + 1 + 1, 1, none⟩ = some (.int .i64 by_) := (Blk.cell kb2 1).trans rfl
  clear kb0 kb1 kb2
  have SK : ∀ w', Below w0.heap.size w0 w' → Below w0.heap.size w0 w' ∧ w'.cell? ⟨w.heap.size, 0, none⟩ = some (.int .i64 px) ∧ w'.cell? ⟨w.heap.size, 1, none⟩ = some (.int .i64 py) ∧ w'.cell? ⟨w.heap.size + 1, 0, none⟩ = some (.int .i64 ax) ∧ w'.cell? ⟨w.heap.size + 1, 1, none⟩ = some (.int .i64 ay) ∧ w'.cell? ⟨w.heap.size + 1 + 1, 0, none⟩ = some (.int .i64 bx) ∧ w'.cell? ⟨w.heap.size + 1 + 1, 1, none⟩ = some (.int .i64 by_) := fun w' h => ⟨h, (bcell h _ _ (by omega)).trans k0_0, (bcell h _ _ (by omega)).trans k0_1, (bcell h _ _ (by omega)).trans k1_0, (bcell h _ _ (by omega)).trans k1_1, (bcell h _ _ (by omega)).trans k2_0, (bcell h _ _ (by omega)).trans k2_1⟩
  go_wp2_with fail
  refine (allp_any _ _ [(px, py), (ax, ay), (bx, by_)] (Pts3 w0 (px, py) (ax, ay) (bx, by_) _ _) (by simp)).mono ?_
  rintro e w1 ⟨rfl, hb1⟩
  have hb1' := (allocs_below w0 [_]).trans (hb1.mono (by simp))
  rw [hchk]
  have hL1 : Below w0.heap.size w0 w1 := hb1'
  obtain ⟨-, c1_0, c1_1, c1_2, c1_3, c1_4, c1_5⟩ := SK _ hL1
  go_wp2_with fail
  refine (to_any _ ax ay bx by_ hax hay hbx hby_).mono ?_
  rintro e w2 ⟨rfl, hb2⟩
  have hL2 : Below w0.heap.size w0 w2 := hL1.trans (hb2.mono hL1.size)
  obtain ⟨-, c2_0, c2_1, c2_2, c2_3, c2_4, c2_5⟩ := SK _ hL2
  go_upto_region 5 with (fail)
  have hL3 : Below w0.heap.size w0 (w2.alloc (.cells #[.int .i64 (bx - ax), .int .i64 (by_ - ay)] 158)) := hL2.alloc hL2.size _
  have hA3 := Blk.new w2 158 #[.int .i64 (bx - ax), .int .i64 (by_ - ay)]
  have sA3 : w2.heap.size < (w2.alloc (.cells #[.int .i64 (bx - ax), .int .i64 (by_ - ay)] 158)).heap.size := by simp
  have kA3_0 : (w2.alloc (.cells #[.int .i64 (bx - ax), .int .i64 (by_ - ay)] 158)).cell? ⟨w2.heap.size, 0, none⟩ = some (.int .i64 (bx - ax)) := (Blk.cell hA3 0).trans rfl
  have kA3_1 : (w2.alloc (.cells #[.int .i64 (bx - ax), .int .i64 (by_ - ay)] 158)).cell? ⟨w2.heap.size, 1, none⟩ = some (.int .i64 (by_ - ay)) := (Blk.cell hA3 1).trans rfl
  have fA3_0 : (w2.alloc (.cells #[.int .i64 (bx - ax), .int .i64 (by_ - ay)] 158)).frozen? ⟨w2.heap.size, 0, none⟩ = false := Blk.frozen hA3 0
  have fA3_1 : (w2.alloc (.cells #[.int .i64 (bx - ax), .int .i64 (by_ - ay)] 158)).frozen? ⟨w2.heap.size, 1, none⟩ = false := Blk.frozen hA3 1
  have gA3 : Below w2.heap.size w2 (w2.alloc (.cells #[.int .i64 (bx - ax), .int .i64 (by_ - ay)] 158)) := (Below.refl _ _).alloc (Nat.le_refl _) _
  generalize (w2.alloc (.cells #[.int .i64 (bx - ax), .int .i64 (by_ - ay)] 158)) = w3 at *
  have c3_0 := (bcell gA3 _ _ (block_lt_of_cell c2_0)).trans c2_0
  have c3_1 := (bcell gA3 _ _ (block_lt_of_cell c2_1)).trans c2_1
  have c3_2 := (bcell gA3 _ _ (block_lt_of_cell c2_2)).trans c2_2
  have c3_3 := (bcell gA3 _ _ (block_lt_of_cell c2_3)).trans c2_3
  have c3_4 := (bcell gA3 _ _ (block_lt_of_cell c2_4)).trans c2_4
  have c3_5 := (bcell gA3 _ _ (block_lt_of_cell c2_5)).trans c2_5
  go_upto_region 6 with (fail)
  have hL4 : Below w0.heap.size w0 (w3.alloc (.cells #[.int .i64 ax, .int .i64 ay] 24)) := hL3.alloc hL3.size _
  have hA4 := Blk.new w3 24 #[.int .i64 ax, .int .i64 ay]
  have sA4 : w3.heap.size < (w3.alloc (.cells #[.int .i64 ax, .int .i64 ay] 24)).heap.size := by simp
  have kA4_0 : (w3.alloc (.cells #[.int .i64 ax, .int .i64 ay] 24)).cell? ⟨w3.heap.size, 0, none⟩ = some (.int .i64 (ax)) := (Blk.cell hA4 0).trans rfl
  have kA4_1 : (w3.alloc (.cells #[.int .i64 ax, .int .i64 ay] 24)).cell? ⟨w3.heap.size, 1, none⟩ = some (.int .i64 (ay)) := (Blk.cell hA4 1).trans rfl
  have fA4_0 : (w3.alloc (.cells #[.int .i64 ax, .int .i64 ay] 24)).frozen? ⟨w3.heap.size, 0, none⟩ = false := Blk.frozen hA4 0
  have fA4_1 : (w3.alloc (.cells #[.int .i64 ax, .int .i64 ay] 24)).frozen? ⟨w3.heap.size, 1, none⟩ = false := Blk.frozen hA4 1
  have gA4 : Below w3.heap.size w3 (w3.alloc (.cells #[.int .i64 ax, .int .i64 ay] 24)) := (Below.refl _ _).alloc (Nat.le_refl _) _
  generalize (w3.alloc (.cells #[.int .i64 ax, .int .i64 ay] 24)) = w4 at *
  have c4_0 := (bcell gA4 _ _ (block_lt_of_cell c3_0)).trans c3_0
  have c4_1 := (bcell gA4 _ _ (block_lt_of_cell c3_1)).trans c3_1
  have c4_2 := (bcell gA4 _ _ (block_lt_of_cell c3_2)).trans c3_2
  have c4_3 := (bcell gA4 _ _ (block_lt_of_cell c3_3)).trans c3_3
  have c4_4 := (bcell gA4 _ _ (block_lt_of_cell c3_4)).trans c3_4
  have c4_5 := (bcell gA4 _ _ (block_lt_of_cell c3_5)).trans c3_5
  have c4_6 := (bcell gA4 _ _ (block_lt_of_cell kA3_0)).trans kA3_0
  have c4_7 := (bcell gA4 _ _ (block_lt_of_cell kA3_1)).trans kA3_1
  have q4 : w0.heap.size ≤ w4.heap.size := hL4.size
  have SQ4 : ∀ w', Below w4.heap.size w4 w' → Below w4.heap.size w4 w' ∧ w'.cell? ⟨w.heap.size, 0, none⟩ = some (.int .i64 px) ∧ w'.cell? ⟨w.heap.size, 1, none⟩ = some (.int .i64 py) ∧ w'.cell? ⟨w.heap.size + 1, 0, none⟩ = some (.int .i64 ax) ∧ w'.cell? ⟨w.heap.size + 1, 1, none⟩ = some (.int .i64 ay) ∧ w'.cell? ⟨w.heap.size + 1 + 1, 0, none⟩ = some (.int .i64 bx) ∧ w'.cell? ⟨w.heap.size + 1 + 1, 1, none⟩ = some (.int .i64 by_) ∧ w'.cell? ⟨w2.heap.size, 0, none⟩ = some (.int .i64 (bx - ax)) ∧ w'.cell? ⟨w2.heap.size, 1, none⟩ = some (.int .i64 (by_ - ay)) ∧ w'.cell? ⟨w3.heap.size, 0, none⟩ = some (.int .i64 (ax)) ∧ w'.cell? ⟨w3.heap.size, 1, none⟩ = some (.int .i64 (ay)) := fun w' h => ⟨h, (bcell h _ _ (block_lt_of_cell c4_0)).trans c4_0, (bcell h _ _ (block_lt_of_cell c4_1)).trans c4_1, (bcell h _ _ (block_lt_of_cell c4_2)).trans c4_2, (bcell h _ _ (block_lt_of_cell c4_3)).trans c4_3, (bcell h _ _ (block_lt_of_cell c4_4)).trans c4_4, (bcell h _ _ (block_lt_of_cell c4_5)).trans c4_5, (bcell h _ _ (block_lt_of_cell c4_6)).trans c4_6, (bcell h _ _ (block_lt_of_cell c4_7)).trans c4_7, (bcell h _ _ (block_lt_of_cell kA4_0)).trans kA4_0, (bcell h _ _ (block_lt_of_cell kA4_1)).trans kA4_1⟩
  go_region_held3 (fun w' => Below w4.heap.size w4 w' ∧ w'.cell? ⟨w.heap.size, 0, none⟩ = some (.int .i64 px) ∧ w'.cell? ⟨w.heap.size, 1, none⟩ = some (.int .i64 py) ∧ w'.cell? ⟨w.heap.size + 1, 0, none⟩ = some (.int .i64 ax) ∧ w'.cell? ⟨w.heap.size + 1, 1, none⟩ = some (.int .i64 ay) ∧ w'.cell? ⟨w.heap.size + 1 + 1, 0, none⟩ = some (.int .i64 bx) ∧ w'.cell? ⟨w.heap.size + 1 + 1, 1, none⟩ = some (.int .i64 by_) ∧ w'.cell? ⟨w2.heap.size, 0, none⟩ = some (.int .i64 (bx - ax)) ∧ w'.cell? ⟨w2.heap.size, 1, none⟩ = some (.int .i64 (by_ - ay)) ∧ w'.cell? ⟨w3.heap.size, 0, none⟩ = some (.int .i64 (ax)) ∧ w'.cell? ⟨w3.heap.size, 1, none⟩ = some (.int .i64 (ay))) (first | exact SQ4 _ (Below.refl _ _).drew | exact SQ4 _ (bel_next (by assumption) (by assumption) (Nat.le_refl _)))
    (first
      | (go_at_call 124; refine (to_any _ bx by_ px py hbx hby_ hpx hpy).mono ?_; rintro e w5 ⟨rfl, hbW⟩)
      | (go_at_call 125; refine (adot_any _ (bx - ax) (by_ - ay) (px - bx) (py - by_) (by omega) (by omega) (by omega) (by omega)).mono ?_; rintro e w5 ⟨rfl, hbW⟩))
  obtain ⟨hH5, c5_0, c5_1, c5_2, c5_3, c5_4, c5_5, c5_6, c5_7, c5_8, c5_9⟩ : Below w4.heap.size w4 w5 ∧ w5.cell? ⟨w.heap.size, 0, none⟩ = some (.int .i64 px) ∧ w5.cell? ⟨w.heap.size, 1, none⟩ = some (.int .i64 py) ∧ w5.cell? ⟨w.heap.size + 1, 0, none⟩ = some (.int .i64 ax) ∧ w5.cell? ⟨w.heap.size + 1, 1, none⟩ = some (.int .i64 ay) ∧ w5.cell? ⟨w.heap.size + 1 + 1, 0, none⟩ = some (.int .i64 bx) ∧ w5.cell? ⟨w.heap.size + 1 + 1, 1, none⟩ = some (.int .i64 by_) ∧ w5.cell? ⟨w2.heap.size, 0, none⟩ = some (.int .i64 (bx - ax)) ∧ w5.cell? ⟨w2.heap.size, 1, none⟩ = some (.int .i64 (by_ - ay)) ∧ w5.cell? ⟨w3.heap.size, 0, none⟩ = some (.int .i64 (ax)) ∧ w5.cell? ⟨w3.heap.size, 1, none⟩ = some (.int .i64 (ay)) := by assumption
  have hL5 : Below w0.heap.size w0 w5 := hL4.trans (hH5.mono hL4.size)
  have hN := (hH5.block _ (Blk.lt hA4)).trans hA4
  have kN0 : w5.cell? ⟨w3.heap.size, 0, none⟩ = some (.int .i64 ax) := (Blk.cell hN 0).trans rfl
  have kN1 : w5.cell? ⟨w3.heap.size, 1, none⟩ = some (.int .i64 ay) := (Blk.cell hN 1).trans rfl
  have fN0 : w5.frozen? ⟨w3.heap.size, 0, none⟩ = false := Blk.frozen hN 0
  have fN1 : w5.frozen? ⟨w3.heap.size, 1, none⟩ = false := Blk.frozen hN 1
  go_upto_region 8 with (fail)
  have hN6 := blk_set2 hN (.int .i64 bx) (.int .i64 by_)
  have gB6 := below_set2 w5 w3.heap.size (.int .i64 bx) (.int .i64 by_)
  generalize ((w5.setCell ⟨w3.heap.size, 0, none⟩ (.int .i64 bx)).setCell ⟨w3.heap.size, 1, none⟩ (.int .i64 by_)) = w6 at *
  have c6_0 := (bcell gB6 _ _ (block_lt_of_cell c3_0)).trans c5_0
  have c6_1 := (bcell gB6 _ _ (block_lt_of_cell c3_1)).trans c5_1
  have c6_2 := (bcell gB6 _ _ (block_lt_of_cell c3_2)).trans c5_2
  have c6_3 := (bcell gB6 _ _ (block_lt_of_cell c3_3)).trans c5_3
  have c6_4 := (bcell gB6 _ _ (block_lt_of_cell c3_4)).trans c5_4
  have c6_5 := (bcell gB6 _ _ (block_lt_of_cell c3_5)).trans c5_5
  have c6_6 := (bcell gB6 _ _ (block_lt_of_cell kA3_0)).trans c5_6
  have c6_7 := (bcell gB6 _ _ (block_lt_of_cell kA3_1)).trans c5_7
  have c6_8 : w6.cell? ⟨w3.heap.size, 0, none⟩ = some (.int .i64 bx) := (Blk.cell hN6 0).trans rfl
  have c6_9 : w6.cell? ⟨w3.heap.size, 1, none⟩ = some (.int .i64 by_) := (Blk.cell hN6 1).trans rfl
  have hL6 : Below w0.heap.size w0 w6 := hL5.trans (gB6.mono hL3.size)
  have q6 : w0.heap.size ≤ w6.heap.size := hL6.size
  have SQ6 : ∀ w', Below w6.heap.size w6 w' → Below w6.heap.size w6 w' ∧ w'.cell? ⟨w.heap.size, 0, none⟩ = some (.int .i64 px) ∧ w'.cell? ⟨w.heap.size, 1, none⟩ = some (.int .i64 py) ∧ w'.cell? ⟨w.heap.size + 1, 0, none⟩ = some (.int .i64 ax) ∧ w'.cell? ⟨w.heap.size + 1, 1, none⟩ = some (.int .i64 ay) ∧ w'.cell? ⟨w.heap.size + 1 + 1, 0, none⟩ = some (.int .i64 bx) ∧ w'.cell? ⟨w.heap.size + 1 + 1, 1, none⟩ = some (.int .i64 by_) ∧ w'.cell? ⟨w2.heap.size, 0, none⟩ = some (.int .i64 (bx - ax)) ∧ w'.cell? ⟨w2.heap.size, 1, none⟩ = some (.int .i64 (by_ - ay)) ∧ w'.cell? ⟨w3.heap.size, 0, none⟩ = some (.int .i64 bx) ∧ w'.cell? ⟨w3.heap.size, 1, none⟩ = some (.int .i64 by_) := fun w' h => ⟨h, (bcell h _ _ (block_lt_of_cell c6_0)).trans c6_0, (bcell h _ _ (block_lt_of_cell c6_1)).trans c6_1, (bcell h _ _ (block_lt_of_cell c6_2)).trans c6_2, (bcell h _ _ (block_lt_of_cell c6_3)).trans c6_3, (bcell h _ _ (block_lt_of_cell c6_4)).trans c6_4, (bcell h _ _ (block_lt_of_cell c6_5)).trans c6_5, (bcell h _ _ (block_lt_of_cell c6_6)).trans c6_6, (bcell h _ _ (block_lt_of_cell c6_7)).trans c6_7, (bcell h _ _ (block_lt_of_cell c6_8)).trans c6_8, (bcell h _ _ (block_lt_of_cell c6_9)).trans c6_9⟩
  go_region_held3 (fun w' => Below w6.heap.size w6 w' ∧ w'.cell? ⟨w.heap.size, 0, none⟩ = some (.int .i64 px) ∧ w'.cell? ⟨w.heap.size, 1, none⟩ = some (.int .i64 py) ∧ w'.cell? ⟨w.heap.size + 1, 0, none⟩ = some (.int .i64 ax) ∧ w'.cell? ⟨w.heap.size + 1, 1, none⟩ = some (.int .i64 ay) ∧ w'.cell? ⟨w.heap.size + 1 + 1, 0, none⟩ = some (.int .i64 bx) ∧ w'.cell? ⟨w.heap.size + 1 + 1, 1, none⟩ = some (.int .i64 by_) ∧ w'.cell? ⟨w2.heap.size, 0, none⟩ = some (.int .i64 (bx - ax)) ∧ w'.cell? ⟨w2.heap.size, 1, none⟩ = some (.int .i64 (by_ - ay)) ∧ w'.cell? ⟨w3.heap.size, 0, none⟩ = some (.int .i64 bx) ∧ w'.cell? ⟨w3.heap.size, 1, none⟩ = some (.int .i64 by_)) (first | exact SQ6 _ (Below.refl _ _).drew | exact SQ6 _ (bel_next (by assumption) (by assumption) (Nat.le_refl _)))
    (first
      | (go_at_call 124; refine (to_any _ ax ay px py hax hay hpx hpy).mono ?_; rintro e w7 ⟨rfl, hbW⟩)
      | (go_at_call 125; refine (adot_any _ (bx - ax) (by_ - ay) (px - ax) (py - ay) (by omega) (by omega) (by omega) (by omega)).mono ?_; rintro e w7 ⟨rfl, hbW⟩))
  obtain ⟨hH7, c7_0, c7_1, c7_2, c7_3, c7_4, c7_5, c7_6, c7_7, c7_8, c7_9⟩ : Below w6.heap.size w6 w7 ∧ w7.cell? ⟨w.heap.size, 0, none⟩ = some (.int .i64 px) ∧ w7.cell? ⟨w.heap.size, 1, none⟩ = some (.int .i64 py) ∧ w7.cell? ⟨w.heap.size + 1, 0, none⟩ = some (.int .i64 ax) ∧ w7.cell? ⟨w.heap.size + 1, 1, none⟩ = some (.int .i64 ay) ∧ w7.cell? ⟨w.heap.size + 1 + 1, 0, none⟩ = some (.int .i64 bx) ∧ w7.cell? ⟨w.heap.size + 1 + 1, 1, none⟩ = some (.int .i64 by_) ∧ w7.cell? ⟨w2.heap.size, 0, none⟩ = some (.int .i64 (bx - ax)) ∧ w7.cell? ⟨w2.heap.size, 1, none⟩ = some (.int .i64 (by_ - ay)) ∧ w7.cell? ⟨w3.heap.size, 0, none⟩ = some (.int .i64 bx) ∧ w7.cell? ⟨w3.heap.size, 1, none⟩ = some (.int .i64 by_) := by assumption
  have hL7 : Below w0.heap.size w0 w7 := hL6.trans (hH7.mono hL6.size)
  go_upto_region 9 with (fail)
  go_wp2_with fail
  refine (to_any _ bx by_ px py hbx hby_ hpx hpy).mono ?_
  rintro e w8 ⟨rfl, hb8⟩
  have hL8 : Below w0.heap.size w0 w8 := hL7.trans (hb8.mono hL7.size)
  obtain ⟨-, c8_0, c8_1, c8_2, c8_3, c8_4, c8_5⟩ := SK _ hL8
  go_upto_region 10 with (fail)
  have hL9 : Below w0.heap.size w0 (w8.alloc (.cells #[.int .i64 (px - bx), .int .i64 (py - by_)] 158)) := hL8.alloc hL8.size _
  have hA9 := Blk.new w8 158 #[.int .i64 (px - bx), .int .i64 (py - by_)]
  have sA9 : w8.heap.size < (w8.alloc (.cells #[.int .i64 (px - bx), .int .i64 (py - by_)] 158)).heap.size := by simp
  have kA9_0 : (w8.alloc (.cells #[.int .i64 (px - bx), .int .i64 (py - by_)] 158)).cell? ⟨w8.heap.size, 0, none⟩ = some (.int .i64 (px - bx)) := (Blk.cell hA9 0).trans rfl
  have kA9_1 : (w8.alloc (.cells #[.int .i64 (px - bx), .int .i64 (py - by_)] 158)).cell? ⟨w8.heap.size, 1, none⟩ = some (.int .i64 (py - by_)) := (Blk.cell hA9 1).trans rfl
  have fA9_0 : (w8.alloc (.cells #[.int .i64 (px - bx), .int .i64 (py - by_)] 158)).frozen? ⟨w8.heap.size, 0, none⟩ = false := Blk.frozen hA9 0
  have fA9_1 : (w8.alloc (.cells #[.int .i64 (px - bx), .int .i64 (py - by_)] 158)).frozen? ⟨w8.heap.size, 1, none⟩ = false := Blk.frozen hA9 1
  have gA9 : Below w8.heap.size w8 (w8.alloc (.cells #[.int .i64 (px - bx), .int .i64 (py - by_)] 158)) := (Below.refl _ _).alloc (Nat.le_refl _) _
  generalize (w8.alloc (.cells #[.int .i64 (px - bx), .int .i64 (py - by_)] 158)) = w9 at *
  have c9_0 := (bcell gA9 _ _ (block_lt_of_cell c8_0)).trans c8_0
  have c9_1 := (bcell gA9 _ _ (block_lt_of_cell c8_1)).trans c8_1
  have c9_2 := (bcell gA9 _ _ (block_lt_of_cell c8_2)).trans c8_2
  have c9_3 := (bcell gA9 _ _ (block_lt_of_cell c8_3)).trans c8_3
  have c9_4 := (bcell gA9 _ _ (block_lt_of_cell c8_4)).trans c8_4
  have c9_5 := (bcell gA9 _ _ (block_lt_of_cell c8_5)).trans c8_5
  go_wp2_with fail
  refine (adot_any _ (px - bx) (py - by_) (px - bx) (py - by_) (by omega) (by omega) (by omega) (by omega)).mono ?_
  rintro e w10 ⟨rfl, hb10⟩
  have hL10 : Below w0.heap.size w0 w10 := hL9.trans (hb10.mono hL9.size)
  obtain ⟨-, c10_0, c10_1, c10_2, c10_3, c10_4, c10_5⟩ := SK _ hL10
  have HS10 := HS.out.below (hb0.trans (hL10.mono hb0.size)) (Nat.le_refl _)
  go_wp2_with fail
  refine (rwhole_any ((px - bx) * (px - bx) + (py - by_) * (py - by_)) QB0.out QB1.out _ HS10).mono ?_
  rintro e w11 ⟨rfl, hb11⟩
  have hL11 : Below w0.heap.size w0 w11 := hL10.trans (hb11.mono hL10.size)
  obtain ⟨-, c11_0, c11_1, c11_2, c11_3, c11_4, c11_5⟩ := SK _ hL11
  rw [hqr]
  go_wp2_with fail
  go_ret2
  exact ⟨rfl, hb0.trans (hL11.mono hb0.size)⟩

set_option maxRecDepth 100000 in
set_option maxHeartbeats 8000000 in
theorem seg_two (w : World) (px py ax ay bx by_ : Int) (hs : Std w) (hok : Co px ∧ Co py ∧ Co ax ∧ Co ay ∧ Co bx ∧ Co by_) (hc1 : ¬ 0 < (bx - ax) * (px - bx) + (by_ - ay) * (py - by_)) (hc2 : (bx - ax) * (px - ax) + (by_ - ay) * (py - ay) ≤ 0) :
    Calls Tryz.prog 93 #[.agg #[.int .i64 px, .int .i64 py], .agg #[.int .i64 ax, .int .i64 ay], .agg #[.int .i64 bx, .int .i64 by_]] w fun e w' => e = .returned (RR (.ok (((px - ax) * (px - ax) + (py - ay) * (py - ay) : Int) : Rat))) ∧ Below w.heap.size w w' := by
  have HS := hide hs
  clear hs
  have hchk : chkPts [(px, py), (ax, ay), (bx, by_)] = 0 := by simp [chkPts, okPts, hok]
  obtain ⟨hpx, hpy, hax, hay, hbx, hby_⟩ := id hok
  clear hok
  obtain ⟨m0a, m0b⟩ := mulB (x := (px - ax)) (y := (px - ax)) (M := 200000) (N := 200000) (by omega) (by omega)
  obtain ⟨m1a, m1b⟩ := mulB (x := (py - ay)) (y := (py - ay)) (M := 200000) (N := 200000) (by omega) (by omega)
  have QA0 := hide (p := -9223372036854775808 ≤ (px - ax) * (px - ax) + (py - ay) * (py - ay)) (by omega)
  have QA1 := hide (p := (px - ax) * (px - ax) + (py - ay) * (py - ay) ≤ 9223372036854775807) (by omega)
  clear m0a m0b m1a m1b
  generalize hqr : (((px - ax) * (px - ax) + (py - ay) * (py - ay) : Int) : Rat) = qr
  have hd : decide ((bx - ax) * (px - ax) + (by_ - ay) * (py - ay) ≤ 0) = true := decide_eq_true hc2
  go_enter Tryz.func93, Tryz.ntmps93
  go_upto_region 1 with (fail)
  have hb0 : Below w.heap.size w (((w.alloc (.cells #[.int .i64 px, .int .i64 py] 24)).alloc (.cells #[.int .i64 ax, .int .i64 ay] 24)).alloc (.cells #[.int .i64 bx, .int .i64 by_] 24)) := allocs_below w [(.cells #[.int .i64 px, .int .i64 py] 24), (.cells #[.int .i64 ax, .int .i64 ay] 24), (.cells #[.int .i64 bx, .int .i64 by_] 24)]
  have s0 : w.heap.size + 3 ≤ (((w.alloc (.cells #[.int .i64 px, .int .i64 py] 24)).alloc (.cells #[.int .i64 ax, .int .i64 ay] 24)).alloc (.cells #[.int .i64 bx, .int .i64 by_] 24)).heap.size := Nat.le_of_eq (allocs_size w [(.cells #[.int .i64 px, .int .i64 py] 24), (.cells #[.int .i64 ax, .int .i64 ay] 24), (.cells #[.int .i64 bx, .int .i64 by_] 24)]).symm
  have kb0 : (((w.alloc (.cells #[.int .i64 px, .int .i64 py] 24)).alloc (.cells #[.int .i64 ax, .int .i64 ay] 24)).alloc (.cells #[.int .i64 bx, .int .i64 by_] 24)).heap[w.heap.size + 0]? = some (.cells #[.int .i64 px, .int .i64 py] 24) := allocs_at w [(.cells #[.int .i64 px, .int .i64 py] 24), (.cells #[.int .i64 ax, .int .i64 ay] 24), (.cells #[.int .i64 bx, .int .i64 by_] 24)] 0 rfl
  have kb1 : (((w.alloc (.cells #[.int .i64 px, .int .i64 py] 24)).alloc (.cells #[.int .i64 ax, .int .i64 ay] 24)).alloc (.cells #[.int .i64 bx, .int .i64 by_] 24)).heap[w.heap.size + 1]? = some (.cells #[.int .i64 ax, .int .i64 ay] 24) := allocs_at w [(.cells #[.int .i64 px, .int .i64 py] 24), (.cells #[.int .i64 ax, .int .i64 ay] 24), (.cells #[.int .i64 bx, .int .i64 by_] 24)] 1 rfl
  have kb2 : (((w.alloc (.cells #[.int .i64 px, .int .i64 py] 24)).alloc (.cells #[.int .i64 ax, .int .i64 ay] 24)).alloc (.cells #[.int .i64 bx, .int .i64 by_] 24)).heap[w.heap.size + 2]? = some (.cells #[.int .i64 bx, .int .i64 by_] 24) := allocs_at w [(.cells #[.int .i64 px, .int .i64 py] 24), (.cells #[.int .i64 ax, .int .i64 ay] 24), (.cells #[.int .i64 bx, .int .i64 by_] 24)] 2 rfl
  generalize (((w.alloc (.cells #[.int .i64 px, .int .i64 py] 24)).alloc (.cells #[.int .i64 ax, .int .i64 ay] 24)).alloc (.cells #[.int .i64 bx, .int .i64 by_] 24)) = w0 at *
  have k0_0 : w0.cell? ⟨w.heap.size, 0, none⟩ = some (.int .i64 px) := (Blk.cell kb0 0).trans rfl
  have k0_1 : w0.cell? ⟨w.heap.size, 1, none⟩ = some (.int .i64 py) := (Blk.cell kb0 1).trans rfl
  have k1_0 : w0.cell? ⟨w.heap.size + 1, 0, none⟩ = some (.int .i64 ax) := (Blk.cell kb1 0).trans rfl
  have k1_1 : w0.cell? ⟨w.heap.size + 1, 1, none⟩ = some (.int .i64 ay) := (Blk.cell kb1 1).trans rfl
  have k2_0 : w0.cell? ⟨w.heap.size + 1 + 1, 0, none⟩ = some (.int .i64 bx) := (Blk.cell kb2 0).trans rfl
  have k2_1 : w0.cell? ⟨w.heap.size + 1 + 1, 1, none⟩ = some (.int .i64 by_) := (Blk.cell kb2 1).trans rfl
  clear kb0 kb1 kb2
  have SK : ∀ w', Below w0.heap.size w0 w' → Below w0.heap.size w0 w' ∧ w'.cell? ⟨w.heap.size, 0, none⟩ = some (.int .i64 px) ∧ w'.cell? ⟨w.heap.size, 1, none⟩ = some (.int .i64 py) ∧ w'.cell? ⟨w.heap.size + 1, 0, none⟩ = some (.int .i64 ax) ∧ w'.cell? ⟨w.heap.size + 1, 1, none⟩ = some (.int .i64 ay) ∧ w'.cell? ⟨w.heap.size + 1 + 1, 0, none⟩ = some (.int .i64 bx) ∧ w'.cell? ⟨w.heap.size + 1 + 1, 1, none⟩ = some (.int .i64 by_) := fun w' h => ⟨h, (bcell h _ _ (by omega)).trans k0_0, (bcell h _ _ (by omega)).trans k0_1, (bcell h _ _ (by omega)).trans k1_0, (bcell h _ _ (by omega)).trans k1_1, (bcell h _ _ (by omega)).trans k2_0, (bcell h _ _ (by omega)).trans k2_1⟩
  go_wp2_with fail
  refine (allp_any _ _ [(px, py), (ax, ay), (bx, by_)] (Pts3 w0 (px, py) (ax, ay) (bx, by_) _ _) (by simp)).mono ?_
  rintro e w1 ⟨rfl, hb1⟩
  have hb1' := (allocs_below w0 [_]).trans (hb1.mono (by simp))
  rw [hchk]
  have hL1 : Below w0.heap.size w0 w1 := hb1'
  obtain ⟨-, c1_0, c1_1, c1_2, c1_3, c1_4, c1_5⟩ := SK _ hL1
  go_wp2_with fail
  refine (to_any _ ax ay bx by_ hax hay hbx hby_).mono ?_
  rintro e w2 ⟨rfl, hb2⟩
  have hL2 : Below w0.heap.size w0 w2 := hL1.trans (hb2.mono hL1.size)
  obtain ⟨-, c2_0, c2_1, c2_2, c2_3, c2_4, c2_5⟩ := SK _ hL2
  go_upto_region 5 with (fail)
  have hL3 : Below w0.heap.size w0 (w2.alloc (.cells #[.int .i64 (bx - ax), .int .i64 (by_ - ay)] 158)) := hL2.alloc hL2.size _
  have hA3 := Blk.new w2 158 #[.int .i64 (bx - ax), .int .i64 (by_ - ay)]
  have sA3 : w2.heap.size < (w2.alloc (.cells #[.int .i64 (bx - ax), .int .i64 (by_ - ay)] 158)).heap.size := by simp
  have kA3_0 : (w2.alloc (.cells #[.int .i64 (bx - ax), .int .i64 (by_ - ay)] 158)).cell? ⟨w2.heap.size, 0, none⟩ = some (.int .i64 (bx - ax)) := (Blk.cell hA3 0).trans rfl
  have kA3_1 : (w2.alloc (.cells #[.int .i64 (bx - ax), .int .i64 (by_ - ay)] 158)).cell? ⟨w2.heap.size, 1, none⟩ = some (.int .i64 (by_ - ay)) := (Blk.cell hA3 1).trans rfl
  have fA3_0 : (w2.alloc (.cells #[.int .i64 (bx - ax), .int .i64 (by_ - ay)] 158)).frozen? ⟨w2.heap.size, 0, none⟩ = false := Blk.frozen hA3 0
  have fA3_1 : (w2.alloc (.cells #[.int .i64 (bx - ax), .int .i64 (by_ - ay)] 158)).frozen? ⟨w2.heap.size, 1, none⟩ = false := Blk.frozen hA3 1
  have gA3 : Below w2.heap.size w2 (w2.alloc (.cells #[.int .i64 (bx - ax), .int .i64 (by_ - ay)] 158)) := (Below.refl _ _).alloc (Nat.le_refl _) _
  generalize (w2.alloc (.cells #[.int .i64 (bx - ax), .int .i64 (by_ - ay)] 158)) = w3 at *
  have c3_0 := (bcell gA3 _ _ (block_lt_of_cell c2_0)).trans c2_0
  have c3_1 := (bcell gA3 _ _ (block_lt_of_cell c2_1)).trans c2_1
  have c3_2 := (bcell gA3 _ _ (block_lt_of_cell c2_2)).trans c2_2
  have c3_3 := (bcell gA3 _ _ (block_lt_of_cell c2_3)).trans c2_3
  have c3_4 := (bcell gA3 _ _ (block_lt_of_cell c2_4)).trans c2_4
  have c3_5 := (bcell gA3 _ _ (block_lt_of_cell c2_5)).trans c2_5
  go_upto_region 6 with (fail)
  have hL4 : Below w0.heap.size w0 (w3.alloc (.cells #[.int .i64 ax, .int .i64 ay] 24)) := hL3.alloc hL3.size _
  have hA4 := Blk.new w3 24 #[.int .i64 ax, .int .i64 ay]
  have sA4 : w3.heap.size < (w3.alloc (.cells #[.int .i64 ax, .int .i64 ay] 24)).heap.size := by simp
  have kA4_0 : (w3.alloc (.cells #[.int .i64 ax, .int .i64 ay] 24)).cell? ⟨w3.heap.size, 0, none⟩ = some (.int .i64 (ax)) := (Blk.cell hA4 0).trans rfl
  have kA4_1 : (w3.alloc (.cells #[.int .i64 ax, .int .i64 ay] 24)).cell? ⟨w3.heap.size, 1, none⟩ = some (.int .i64 (ay)) := (Blk.cell hA4 1).trans rfl
  have fA4_0 : (w3.alloc (.cells #[.int .i64 ax, .int .i64 ay] 24)).frozen? ⟨w3.heap.size, 0, none⟩ = false := Blk.frozen hA4 0
  have fA4_1 : (w3.alloc (.cells #[.int .i64 ax, .int .i64 ay] 24)).frozen? ⟨w3.heap.size, 1, none⟩ = false := Blk.frozen hA4 1
  have gA4 : Below w3.heap.size w3 (w3.alloc (.cells #[.int .i64 ax, .int .i64 ay] 24)) := (Below.refl _ _).alloc (Nat.le_refl _) _
  generalize (w3.alloc (.cells #[.int .i64 ax, .int .i64 ay] 24)) = w4 at *
  have c4_0 := (bcell gA4 _ _ (block_lt_of_cell c3_0)).trans c3_0
  have c4_1 := (bcell gA4 _ _ (block_lt_of_cell c3_1)).trans c3_1
  have c4_2 := (bcell gA4 _ _ (block_lt_of_cell c3_2)).trans c3_2
  have c4_3 := (bcell gA4 _ _ (block_lt_of_cell c3_3)).trans c3_3
  have c4_4 := (bcell gA4 _ _ (block_lt_of_cell c3_4)).trans c3_4
  have c4_5 := (bcell gA4 _ _ (block_lt_of_cell c3_5)).trans c3_5
  have c4_6 := (bcell gA4 _ _ (block_lt_of_cell kA3_0)).trans kA3_0
  have c4_7 := (bcell gA4 _ _ (block_lt_of_cell kA3_1)).trans kA3_1
  have q4 : w0.heap.size ≤ w4.heap.size := hL4.size
  have SQ4 : ∀ w', Below w4.heap.size w4 w' → Below w4.heap.size w4 w' ∧ w'.cell? ⟨w.heap.size, 0, none⟩ = some (.int .i64 px) ∧ w'.cell? ⟨w.heap.size, 1, none⟩ = some (.int .i64 py) ∧ w'.cell? ⟨w.heap.size + 1, 0, none⟩ = some (.int .i64 ax) ∧ w'.cell? ⟨w.heap.size + 1, 1, none⟩ = some (.int .i64 ay) ∧ w'.cell? ⟨w.heap.size + 1 + 1, 0, none⟩ = some (.int .i64 bx) ∧ w'.cell? ⟨w.heap.size + 1 + 1, 1, none⟩ = some (.int .i64 by_) ∧ w'.cell? ⟨w2.heap.size, 0, none⟩ = some (.int .i64 (bx - ax)) ∧ w'.cell? ⟨w2.heap.size, 1, none⟩ = some (.int .i64 (by_ - ay)) ∧ w'.cell? ⟨w3.heap.size, 0, none⟩ = some (.int .i64 (ax)) ∧ w'.cell? ⟨w3.heap.size, 1, none⟩ = some (.int .i64 (ay)) := fun w' h => ⟨h, (bcell h _ _ (block_lt_of_cell c4_0)).trans c4_0, (bcell h _ _ (block_lt_of_cell c4_1)).trans c4_1, (bcell h _ _ (block_lt_of_cell c4_2)).trans c4_2, (bcell h _ _ (block_lt_of_cell c4_3)).trans c4_3, (bcell h _ _ (block_lt_of_cell c4_4)).trans c4_4, (bcell h _ _ (block_lt_of_cell c4_5)).trans c4_5, (bcell h _ _ (block_lt_of_cell c4_6)).trans c4_6, (bcell h _ _ (block_lt_of_cell c4_7)).trans c4_7, (bcell h _ _ (block_lt_of_cell kA4_0)).trans kA4_0, (bcell h _ _ (block_lt_of_cell kA4_1)).trans kA4_1⟩
  go_region_held3 (fun w' => Below w4.heap.size w4 w' ∧ w'.cell? ⟨w.heap.size, 0, none⟩ = some (.int .i64 px) ∧ w'.cell? ⟨w.heap.size, 1, none⟩ = some (.int .i64 py) ∧ w'.cell? ⟨w.heap.size + 1, 0, none⟩ = some (.int .i64 ax) ∧ w'.cell? ⟨w.heap.size + 1, 1, none⟩ = some (.int .i64 ay) ∧ w'.cell? ⟨w.heap.size + 1 + 1, 0, none⟩ = some (.int .i64 bx) ∧ w'.cell? ⟨w.heap.size + 1 + 1, 1, none⟩ = some (.int .i64 by_) ∧ w'.cell? ⟨w2.heap.size, 0, none⟩ = some (.int .i64 (bx - ax)) ∧ w'.cell? ⟨w2.heap.size, 1, none⟩ = some (.int .i64 (by_ - ay)) ∧ w'.cell? ⟨w3.heap.size, 0, none⟩ = some (.int .i64 (ax)) ∧ w'.cell? ⟨w3.heap.size, 1, none⟩ = some (.int .i64 (ay))) (first | exact SQ4 _ (Below.refl _ _).drew | exact SQ4 _ (bel_next (by assumption) (by assumption) (Nat.le_refl _)))
    (first
      | (go_at_call 124; refine (to_any _ bx by_ px py hbx hby_ hpx hpy).mono ?_; rintro e w5 ⟨rfl, hbW⟩)
      | (go_at_call 125; refine (adot_any _ (bx - ax) (by_ - ay) (px - bx) (py - by_) (by omega) (by omega) (by omega) (by omega)).mono ?_; rintro e w5 ⟨rfl, hbW⟩))
  obtain ⟨hH5, c5_0, c5_1, c5_2, c5_3, c5_4, c5_5, c5_6, c5_7, c5_8, c5_9⟩ : Below w4.heap.size w4 w5 ∧ w5.cell? ⟨w.heap.size, 0, none⟩ = some (.int .i64 px) ∧ w5.cell? ⟨w.heap.size, 1, none⟩ = some (.int .i64 py) ∧ w5.cell? ⟨w.heap.size + 1, 0, none⟩ = some (.int .i64 ax) ∧ w5.cell? ⟨w.heap.size + 1, 1, none⟩ = some (.int .i64 ay) ∧ w5.cell? ⟨w.heap.size + 1 + 1, 0, none⟩ = some (.int .i64 bx) ∧ w5.cell? ⟨w.heap.size + 1 + 1, 1, none⟩ = some (.int .i64 by_) ∧ w5.cell? ⟨w2.heap.size, 0, none⟩ = some (.int .i64 (bx - ax)) ∧ w5.cell? ⟨w2.heap.size, 1, none⟩ = some (.int .i64 (by_ - ay)) ∧ w5.cell? ⟨w3.heap.size, 0, none⟩ = some (.int .i64 (ax)) ∧ w5.cell? ⟨w3.heap.size, 1, none⟩ = some (.int .i64 (ay)) := by assumption
  have hL5 : Below w0.heap.size w0 w5 := hL4.trans (hH5.mono hL4.size)
  go_upto_region 8 with (fail)
  have hsz0 := hL5.size
  go_region_with (first
    | (go_at_call 124; refine (to_any _ ax ay px py hax hay hpx hpy).mono ?_; rintro e w6 ⟨rfl, hb6⟩; have e6 := (bcell hb6 _ _ (block_lt_of_cell c5_6)).trans c5_6; have e7 := (bcell hb6 _ _ (block_lt_of_cell c5_7)).trans c5_7)
    | (go_at_call 125; refine (adot_any _ (bx - ax) (by_ - ay) (px - ax) (py - ay) (by omega) (by omega) (by omega) (by omega)).mono ?_; rintro e w7 ⟨rfl, hb7⟩))
  all_goals
    have g6 : Below w5.heap.size w5 w6 := ((Below.refl w5.heap.size w5).drew).trans hb6
    have g7 : Below w5.heap.size w5 w7 := g6.trans (hb7.mono g6.size)
    have hL7 : Below w0.heap.size w0 w7 := hL5.trans (g7.mono hsz0)
    have c7_0 := (bcell g7 _ _ (block_lt_of_cell c5_0)).trans c5_0
    have c7_1 := (bcell g7 _ _ (block_lt_of_cell c5_1)).trans c5_1
    have c7_2 := (bcell g7 _ _ (block_lt_of_cell c5_2)).trans c5_2
    have c7_3 := (bcell g7 _ _ (block_lt_of_cell c5_3)).trans c5_3
    have c7_4 := (bcell g7 _ _ (block_lt_of_cell c5_4)).trans c5_4
    have c7_5 := (bcell g7 _ _ (block_lt_of_cell c5_5)).trans c5_5
    have c7_6 := (bcell g7 _ _ (block_lt_of_cell c5_6)).trans c5_6
    have c7_7 := (bcell g7 _ _ (block_lt_of_cell c5_7)).trans c5_7
    have c7_8 := (bcell g7 _ _ (block_lt_of_cell c5_8)).trans c5_8
    have c7_9 := (bcell g7 _ _ (block_lt_of_cell c5_9)).trans c5_9
    clear c5_0 c5_1 c5_2 c5_3 c5_4 c5_5 c5_6 c5_7 c5_8 c5_9 e6 e7
    go_upto_region 9 with (fail)
    go_wp2_with fail
    refine (to_any _ ax ay px py hax hay hpx hpy).mono ?_
    rintro e w8 ⟨rfl, hb8⟩
    have hL8 : Below w0.heap.size w0 w8 := hL7.trans (hb8.mono hL7.size)
    obtain ⟨-, c8_0, c8_1, c8_2, c8_3, c8_4, c8_5⟩ := SK _ hL8
    go_upto_region 10 with (fail)
    have hL9 : Below w0.heap.size w0 (w8.alloc (.cells #[.int .i64 (px - ax), .int .i64 (py - ay)] 158)) := hL8.alloc hL8.size _
    have hA9 := Blk.new w8 158 #[.int .i64 (px - ax), .int .i64 (py - ay)]
    have sA9 : w8.heap.size < (w8.alloc (.cells #[.int .i64 (px - ax), .int .i64 (py - ay)] 158)).heap.size := by simp
    have kA9_0 : (w8.alloc (.cells #[.int .i64 (px - ax), .int .i64 (py - ay)] 158)).cell? ⟨w8.heap.size, 0, none⟩ = some (.int .i64 (px - ax)) := (Blk.cell hA9 0).trans rfl
    have kA9_1 : (w8.alloc (.cells #[.int .i64 (px - ax), .int .i64 (py - ay)] 158)).cell? ⟨w8.heap.size, 1, none⟩ = some (.int .i64 (py - ay)) := (Blk.cell hA9 1).trans rfl
    have fA9_0 : (w8.alloc (.cells #[.int .i64 (px - ax), .int .i64 (py - ay)] 158)).frozen? ⟨w8.heap.size, 0, none⟩ = false := Blk.frozen hA9 0
    have fA9_1 : (w8.alloc (.cells #[.int .i64 (px - ax), .int .i64 (py - ay)] 158)).frozen? ⟨w8.heap.size, 1, none⟩ = false := Blk.frozen hA9 1
    have gA9 : Below w8.heap.size w8 (w8.alloc (.cells #[.int .i64 (px - ax), .int .i64 (py - ay)] 158)) := (Below.refl _ _).alloc (Nat.le_refl _) _
    generalize (w8.alloc (.cells #[.int .i64 (px - ax), .int .i64 (py - ay)] 158)) = w9 at *
    have c9_0 := (bcell gA9 _ _ (block_lt_of_cell c8_0)).trans c8_0
    have c9_1 := (bcell gA9 _ _ (block_lt_of_cell c8_1)).trans c8_1
    have c9_2 := (bcell gA9 _ _ (block_lt_of_cell c8_2)).trans c8_2
    have c9_3 := (bcell gA9 _ _ (block_lt_of_cell c8_3)).trans c8_3
    have c9_4 := (bcell gA9 _ _ (block_lt_of_cell c8_4)).trans c8_4
    have c9_5 := (bcell gA9 _ _ (block_lt_of_cell c8_5)).trans c8_5
    go_wp2_with fail
    refine (adot_any _ (px - ax) (py - ay) (px - ax) (py - ay) (by omega) (by omega) (by omega) (by omega)).mono ?_
    rintro e w10 ⟨rfl, hb10⟩
    have hL10 : Below w0.heap.size w0 w10 := hL9.trans (hb10.mono hL9.size)
    obtain ⟨-, c10_0, c10_1, c10_2, c10_3, c10_4, c10_5⟩ := SK _ hL10
    have HS10 := HS.out.below (hb0.trans (hL10.mono hb0.size)) (Nat.le_refl _)
    go_wp2_with fail
    refine (rwhole_any ((px - ax) * (px - ax) + (py - ay) * (py - ay)) QA0.out QA1.out _ HS10).mono ?_
    rintro e w11 ⟨rfl, hb11⟩
    have hL11 : Below w0.heap.size w0 w11 := hL10.trans (hb11.mono hL10.size)
    obtain ⟨-, c11_0, c11_1, c11_2, c11_3, c11_4, c11_5⟩ := SK _ hL11
    rw [hqr]
    go_wp2_with fail
    go_ret2
    exact ⟨rfl, hb0.trans (hL11.mono hb0.size)⟩

set_option maxRecDepth 100000 in
set_option maxHeartbeats 2000000 in
theorem seg_three (w : World) (px py ax ay bx by_ : Int) (hs : Std w) (hok : Co px ∧ Co py ∧ Co ax ∧ Co ay ∧ Co bx ∧ Co by_) (hc1 : ¬ 0 < (bx - ax) * (px - bx) + (by_ - ay) * (py - by_)) (hc2 : ¬ (bx - ax) * (px - ax) + (by_ - ay) * (py - ay) ≤ 0) :
    Calls Tryz.prog 93 #[.agg #[.int .i64 px, .int .i64 py], .agg #[.int .i64 ax, .int .i64 ay], .agg #[.int .i64 bx, .int .i64 by_]] w fun e w' => e = .returned (RR (lineR px py ax ay bx by_)) ∧ Below w.heap.size w w' := by
  have HS := hide hs
  clear hs
  have hchk : chkPts [(px, py), (ax, ay), (bx, by_)] = 0 := by simp [chkPts, okPts, hok]
  obtain ⟨hpx, hpy, hax, hay, hbx, hby_⟩ := id hok
  clear hok
  have hd : decide ((bx - ax) * (px - ax) + (by_ - ay) * (py - ay) ≤ 0) = false := decide_eq_false hc2
  by_cases heq1 : ax = bx
  · have heq2 : ¬ ay = by_ := by
      rintro rfl
      subst heq1
      exact hc2 (by simp)
    have hq1 := eq_true heq1
    clear heq1
    rw [RR_tuple]
    go_enter Tryz.func93, Tryz.ntmps93
    go_upto_region 1 with (fail)
    have hb0 : Below w.heap.size w (((w.alloc (.cells #[.int .i64 px, .int .i64 py] 24)).alloc (.cells #[.int .i64 ax, .int .i64 ay] 24)).alloc (.cells #[.int .i64 bx, .int .i64 by_] 24)) := allocs_below w [(.cells #[.int .i64 px, .int .i64 py] 24), (.cells #[.int .i64 ax, .int .i64 ay] 24), (.cells #[.int .i64 bx, .int .i64 by_] 24)]
    have s0 : w.heap.size + 3 ≤ (((w.alloc (.cells #[.int .i64 px, .int .i64 py] 24)).alloc (.cells #[.int .i64 ax, .int .i64 ay] 24)).alloc (.cells #[.int .i64 bx, .int .i64 by_] 24)).heap.size := Nat.le_of_eq (allocs_size w [(.cells #[.int .i64 px, .int .i64 py] 24), (.cells #[.int .i64 ax, .int .i64 ay] 24), (.cells #[.int .i64 bx, .int .i64 by_] 24)]).symm
    have kb0 : (((w.alloc (.cells #[.int .i64 px, .int .i64 py] 24)).alloc (.cells #[.int .i64 ax, .int .i64 ay] 24)).alloc (.cells #[.int .i64 bx, .int .i64 by_] 24)).heap[w.heap.size + 0]? = some (.cells #[.int .i64 px, .int .i64 py] 24) := allocs_at w [(.cells #[.int .i64 px, .int .i64 py] 24), (.cells #[.int .i64 ax, .int .i64 ay] 24), (.cells #[.int .i64 bx, .int .i64 by_] 24)] 0 rfl
    have kb1 : (((w.alloc (.cells #[.int .i64 px, .int .i64 py] 24)).alloc (.cells #[.int .i64 ax, .int .i64 ay] 24)).alloc (.cells #[.int .i64 bx, .int .i64 by_] 24)).heap[w.heap.size + 1]? = some (.cells #[.int .i64 ax, .int .i64 ay] 24) := allocs_at w [(.cells #[.int .i64 px, .int .i64 py] 24), (.cells #[.int .i64 ax, .int .i64 ay] 24), (.cells #[.int .i64 bx, .int .i64 by_] 24)] 1 rfl
    have kb2 : (((w.alloc (.cells #[.int .i64 px, .int .i64 py] 24)).alloc (.cells #[.int .i64 ax, .int .i64 ay] 24)).alloc (.cells #[.int .i64 bx, .int .i64 by_] 24)).heap[w.heap.size + 2]? = some (.cells #[.int .i64 bx, .int .i64 by_] 24) := allocs_at w [(.cells #[.int .i64 px, .int .i64 py] 24), (.cells #[.int .i64 ax, .int .i64 ay] 24), (.cells #[.int .i64 bx, .int .i64 by_] 24)] 2 rfl
    generalize (((w.alloc (.cells #[.int .i64 px, .int .i64 py] 24)).alloc (.cells #[.int .i64 ax, .int .i64 ay] 24)).alloc (.cells #[.int .i64 bx, .int .i64 by_] 24)) = w0 at *
    have k0_0 : w0.cell? ⟨w.heap.size, 0, none⟩ = some (.int .i64 px) := (Blk.cell kb0 0).trans rfl
    have k0_1 : w0.cell? ⟨w.heap.size, 1, none⟩ = some (.int .i64 py) := (Blk.cell kb0 1).trans rfl
    have k1_0 : w0.cell? ⟨w.heap.size + 1, 0, none⟩ = some (.int .i64 ax) := (Blk.cell kb1 0).trans rfl
    have k1_1 : w0.cell? ⟨w.heap.size + 1, 1, none⟩ = some (.int .i64 ay) := (Blk.cell kb1 1).trans rfl
    have k2_0 : w0.cell? ⟨w.heap.size + 1 + 1, 0, none⟩ = some (.int .i64 bx) := (Blk.cell kb2 0).trans rfl
    have k2_1 : w0.cell? ⟨w.heap.size + 1 + 1, 1, none⟩ = some (.int .i64 by_) := (Blk.cell kb2 1).trans rfl
    clear kb0 kb1 kb2
    have SK : ∀ w', Below w0.heap.size w0 w' → Below w0.heap.size w0 w' ∧ w'.cell? ⟨w.heap.size, 0, none⟩ = some (.int .i64 px) ∧ w'.cell? ⟨w.heap.size, 1, none⟩ = some (.int .i64 py) ∧ w'.cell? ⟨w.heap.size + 1, 0, none⟩ = some (.int .i64 ax) ∧ w'.cell? ⟨w.heap.size + 1, 1, none⟩ = some (.int .i64 ay) ∧ w'.cell? ⟨w.heap.size + 1 + 1, 0, none⟩ = some (.int .i64 bx) ∧ w'.cell? ⟨w.heap.size + 1 + 1, 1, none⟩ = some (.int .i64 by_) := fun w' h => ⟨h, (bcell h _ _ (by omega)).trans k0_0, (bcell h _ _ (by omega)).trans k0_1, (bcell h _ _ (by omega)).trans k1_0, (bcell h _ _ (by omega)).trans k1_1, (bcell h _ _ (by omega)).trans k2_0, (bcell h _ _ (by omega)).trans k2_1⟩
    go_wp2_with fail
    refine (allp_any _ _ [(px, py), (ax, ay), (bx, by_)] (Pts3 w0 (px, py) (ax, ay) (bx, by_) _ _) (by simp)).mono ?_
    rintro e w1 ⟨rfl, hb1⟩
    have hb1' := (allocs_below w0 [_]).trans (hb1.mono (by simp))
    rw [hchk]
    have hL1 : Below w0.heap.size w0 w1 := hb1'
    obtain ⟨-, c1_0, c1_1, c1_2, c1_3, c1_4, c1_5⟩ := SK _ hL1
    go_wp2_with fail
    refine (to_any _ ax ay bx by_ hax hay hbx hby_).mono ?_
    rintro e w2 ⟨rfl, hb2⟩
    have hL2 : Below w0.heap.size w0 w2 := hL1.trans (hb2.mono hL1.size)
    obtain ⟨-, c2_0, c2_1, c2_2, c2_3, c2_4, c2_5⟩ := SK _ hL2
    go_upto_region 5 with (fail)
    have hL3 : Below w0.heap.size w0 (w2.alloc (.cells #[.int .i64 (bx - ax), .int .i64 (by_ - ay)] 158)) := hL2.alloc hL2.size _
    have hA3 := Blk.new w2 158 #[.int .i64 (bx - ax), .int .i64 (by_ - ay)]
    have sA3 : w2.heap.size < (w2.alloc (.cells #[.int .i64 (bx - ax), .int .i64 (by_ - ay)] 158)).heap.size := by simp
    have kA3_0 : (w2.alloc (.cells #[.int .i64 (bx - ax), .int .i64 (by_ - ay)] 158)).cell? ⟨w2.heap.size, 0, none⟩ = some (.int .i64 (bx - ax)) := (Blk.cell hA3 0).trans rfl
    have kA3_1 : (w2.alloc (.cells #[.int .i64 (bx - ax), .int .i64 (by_ - ay)] 158)).cell? ⟨w2.heap.size, 1, none⟩ = some (.int .i64 (by_ - ay)) := (Blk.cell hA3 1).trans rfl
    have fA3_0 : (w2.alloc (.cells #[.int .i64 (bx - ax), .int .i64 (by_ - ay)] 158)).frozen? ⟨w2.heap.size, 0, none⟩ = false := Blk.frozen hA3 0
    have fA3_1 : (w2.alloc (.cells #[.int .i64 (bx - ax), .int .i64 (by_ - ay)] 158)).frozen? ⟨w2.heap.size, 1, none⟩ = false := Blk.frozen hA3 1
    have gA3 : Below w2.heap.size w2 (w2.alloc (.cells #[.int .i64 (bx - ax), .int .i64 (by_ - ay)] 158)) := (Below.refl _ _).alloc (Nat.le_refl _) _
    generalize (w2.alloc (.cells #[.int .i64 (bx - ax), .int .i64 (by_ - ay)] 158)) = w3 at *
    have c3_0 := (bcell gA3 _ _ (block_lt_of_cell c2_0)).trans c2_0
    have c3_1 := (bcell gA3 _ _ (block_lt_of_cell c2_1)).trans c2_1
    have c3_2 := (bcell gA3 _ _ (block_lt_of_cell c2_2)).trans c2_2
    have c3_3 := (bcell gA3 _ _ (block_lt_of_cell c2_3)).trans c2_3
    have c3_4 := (bcell gA3 _ _ (block_lt_of_cell c2_4)).trans c2_4
    have c3_5 := (bcell gA3 _ _ (block_lt_of_cell c2_5)).trans c2_5
    go_upto_region 6 with (fail)
    have hL4 : Below w0.heap.size w0 (w3.alloc (.cells #[.int .i64 ax, .int .i64 ay] 24)) := hL3.alloc hL3.size _
    have hA4 := Blk.new w3 24 #[.int .i64 ax, .int .i64 ay]
    have sA4 : w3.heap.size < (w3.alloc (.cells #[.int .i64 ax, .int .i64 ay] 24)).heap.size := by simp
    have kA4_0 : (w3.alloc (.cells #[.int .i64 ax, .int .i64 ay] 24)).cell? ⟨w3.heap.size, 0, none⟩ = some (.int .i64 (ax)) := (Blk.cell hA4 0).trans rfl
    have kA4_1 : (w3.alloc (.cells #[.int .i64 ax, .int .i64 ay] 24)).cell? ⟨w3.heap.size, 1, none⟩ = some (.int .i64 (ay)) := (Blk.cell hA4 1).trans rfl
    have fA4_0 : (w3.alloc (.cells #[.int .i64 ax, .int .i64 ay] 24)).frozen? ⟨w3.heap.size, 0, none⟩ = false := Blk.frozen hA4 0
    have fA4_1 : (w3.alloc (.cells #[.int .i64 ax, .int .i64 ay] 24)).frozen? ⟨w3.heap.size, 1, none⟩ = false := Blk.frozen hA4 1
    have gA4 : Below w3.heap.size w3 (w3.alloc (.cells #[.int .i64 ax, .int .i64 ay] 24)) := (Below.refl _ _).alloc (Nat.le_refl _) _
    generalize (w3.alloc (.cells #[.int .i64 ax, .int .i64 ay] 24)) = w4 at *
    have c4_0 := (bcell gA4 _ _ (block_lt_of_cell c3_0)).trans c3_0
    have c4_1 := (bcell gA4 _ _ (block_lt_of_cell c3_1)).trans c3_1
    have c4_2 := (bcell gA4 _ _ (block_lt_of_cell c3_2)).trans c3_2
    have c4_3 := (bcell gA4 _ _ (block_lt_of_cell c3_3)).trans c3_3
    have c4_4 := (bcell gA4 _ _ (block_lt_of_cell c3_4)).trans c3_4
    have c4_5 := (bcell gA4 _ _ (block_lt_of_cell c3_5)).trans c3_5
    have c4_6 := (bcell gA4 _ _ (block_lt_of_cell kA3_0)).trans kA3_0
    have c4_7 := (bcell gA4 _ _ (block_lt_of_cell kA3_1)).trans kA3_1
    have q4 : w0.heap.size ≤ w4.heap.size := hL4.size
    have SQ4 : ∀ w', Below w4.heap.size w4 w' → Below w4.heap.size w4 w' ∧ w'.cell? ⟨w.heap.size, 0, none⟩ = some (.int .i64 px) ∧ w'.cell? ⟨w.heap.size, 1, none⟩ = some (.int .i64 py) ∧ w'.cell? ⟨w.heap.size + 1, 0, none⟩ = some (.int .i64 ax) ∧ w'.cell? ⟨w.heap.size + 1, 1, none⟩ = some (.int .i64 ay) ∧ w'.cell? ⟨w.heap.size + 1 + 1, 0, none⟩ = some (.int .i64 bx) ∧ w'.cell? ⟨w.heap.size + 1 + 1, 1, none⟩ = some (.int .i64 by_) ∧ w'.cell? ⟨w2.heap.size, 0, none⟩ = some (.int .i64 (bx - ax)) ∧ w'.cell? ⟨w2.heap.size, 1, none⟩ = some (.int .i64 (by_ - ay)) ∧ w'.cell? ⟨w3.heap.size, 0, none⟩ = some (.int .i64 (ax)) ∧ w'.cell? ⟨w3.heap.size, 1, none⟩ = some (.int .i64 (ay)) := fun w' h => ⟨h, (bcell h _ _ (block_lt_of_cell c4_0)).trans c4_0, (bcell h _ _ (block_lt_of_cell c4_1)).trans c4_1, (bcell h _ _ (block_lt_of_cell c4_2)).trans c4_2, (bcell h _ _ (block_lt_of_cell c4_3)).trans c4_3, (bcell h _ _ (block_lt_of_cell c4_4)).trans c4_4, (bcell h _ _ (block_lt_of_cell c4_5)).trans c4_5, (bcell h _ _ (block_lt_of_cell c4_6)).trans c4_6, (bcell h _ _ (block_lt_of_cell c4_7)).trans c4_7, (bcell h _ _ (block_lt_of_cell kA4_0)).trans kA4_0, (bcell h _ _ (block_lt_of_cell kA4_1)).trans kA4_1⟩
    go_region_held3 (fun w' => Below w4.heap.size w4 w' ∧ w'.cell? ⟨w.heap.size, 0, none⟩ = some (.int .i64 px) ∧ w'.cell? ⟨w.heap.size, 1, none⟩ = some (.int .i64 py) ∧ w'.cell? ⟨w.heap.size + 1, 0, none⟩ = some (.int .i64 ax) ∧ w'.cell? ⟨w.heap.size + 1, 1, none⟩ = some (.int .i64 ay) ∧ w'.cell? ⟨w.heap.size + 1 + 1, 0, none⟩ = some (.int .i64 bx) ∧ w'.cell? ⟨w.heap.size + 1 + 1, 1, none⟩ = some (.int .i64 by_) ∧ w'.cell? ⟨w2.heap.size, 0, none⟩ = some (.int .i64 (bx - ax)) ∧ w'.cell? ⟨w2.heap.size, 1, none⟩ = some (.int .i64 (by_ - ay)) ∧ w'.cell? ⟨w3.heap.size, 0, none⟩ = some (.int .i64 (ax)) ∧ w'.cell? ⟨w3.heap.size, 1, none⟩ = some (.int .i64 (ay))) (first | exact SQ4 _ (Below.refl _ _).drew | exact SQ4 _ (bel_next (by assumption) (by assumption) (Nat.le_refl _)))
      (first
        | (go_at_call 124; refine (to_any _ bx by_ px py hbx hby_ hpx hpy).mono ?_; rintro e w5 ⟨rfl, hbW⟩)
        | (go_at_call 125; refine (adot_any _ (bx - ax) (by_ - ay) (px - bx) (py - by_) (by omega) (by omega) (by omega) (by omega)).mono ?_; rintro e w5 ⟨rfl, hbW⟩))
    obtain ⟨hH5, c5_0, c5_1, c5_2, c5_3, c5_4, c5_5, c5_6, c5_7, c5_8, c5_9⟩ : Below w4.heap.size w4 w5 ∧ w5.cell? ⟨w.heap.size, 0, none⟩ = some (.int .i64 px) ∧ w5.cell? ⟨w.heap.size, 1, none⟩ = some (.int .i64 py) ∧ w5.cell? ⟨w.heap.size + 1, 0, none⟩ = some (.int .i64 ax) ∧ w5.cell? ⟨w.heap.size + 1, 1, none⟩ = some (.int .i64 ay) ∧ w5.cell? ⟨w.heap.size + 1 + 1, 0, none⟩ = some (.int .i64 bx) ∧ w5.cell? ⟨w.heap.size + 1 + 1, 1, none⟩ = some (.int .i64 by_) ∧ w5.cell? ⟨w2.heap.size, 0, none⟩ = some (.int .i64 (bx - ax)) ∧ w5.cell? ⟨w2.heap.size, 1, none⟩ = some (.int .i64 (by_ - ay)) ∧ w5.cell? ⟨w3.heap.size, 0, none⟩ = some (.int .i64 (ax)) ∧ w5.cell? ⟨w3.heap.size, 1, none⟩ = some (.int .i64 (ay)) := by assumption
    have hL5 : Below w0.heap.size w0 w5 := hL4.trans (hH5.mono hL4.size)
    go_upto_region 8 with (fail)
    have q5 : w0.heap.size ≤ w5.heap.size := hL5.size
    have SQ5 : ∀ w', Below w5.heap.size w5 w' → Below w5.heap.size w5 w' ∧ w'.cell? ⟨w.heap.size, 0, none⟩ = some (.int .i64 px) ∧ w'.cell? ⟨w.heap.size, 1, none⟩ = some (.int .i64 py) ∧ w'.cell? ⟨w.heap.size + 1, 0, none⟩ = some (.int .i64 ax) ∧ w'.cell? ⟨w.heap.size + 1, 1, none⟩ = some (.int .i64 ay) ∧ w'.cell? ⟨w.heap.size + 1 + 1, 0, none⟩ = some (.int .i64 bx) ∧ w'.cell? ⟨w.heap.size + 1 + 1, 1, none⟩ = some (.int .i64 by_) ∧ w'.cell? ⟨w2.heap.size, 0, none⟩ = some (.int .i64 (bx - ax)) ∧ w'.cell? ⟨w2.heap.size, 1, none⟩ = some (.int .i64 (by_ - ay)) ∧ w'.cell? ⟨w3.heap.size, 0, none⟩ = some (.int .i64 (ax)) ∧ w'.cell? ⟨w3.heap.size, 1, none⟩ = some (.int .i64 (ay)) := fun w' h => ⟨h, (bcell h _ _ (block_lt_of_cell c5_0)).trans c5_0, (bcell h _ _ (block_lt_of_cell c5_1)).trans c5_1, (bcell h _ _ (block_lt_of_cell c5_2)).trans c5_2, (bcell h _ _ (block_lt_of_cell c5_3)).trans c5_3, (bcell h _ _ (block_lt_of_cell c5_4)).trans c5_4, (bcell h _ _ (block_lt_of_cell c5_5)).trans c5_5, (bcell h _ _ (block_lt_of_cell c5_6)).trans c5_6, (bcell h _ _ (block_lt_of_cell c5_7)).trans c5_7, (bcell h _ _ (block_lt_of_cell c5_8)).trans c5_8, (bcell h _ _ (block_lt_of_cell c5_9)).trans c5_9⟩
    go_region_held3 (fun w' => Below w5.heap.size w5 w' ∧ w'.cell? ⟨w.heap.size, 0, none⟩ = some (.int .i64 px) ∧ w'.cell? ⟨w.heap.size, 1, none⟩ = some (.int .i64 py) ∧ w'.cell? ⟨w.heap.size + 1, 0, none⟩ = some (.int .i64 ax) ∧ w'.cell? ⟨w.heap.size + 1, 1, none⟩ = some (.int .i64 ay) ∧ w'.cell? ⟨w.heap.size + 1 + 1, 0, none⟩ = some (.int .i64 bx) ∧ w'.cell? ⟨w.heap.size + 1 + 1, 1, none⟩ = some (.int .i64 by_) ∧ w'.cell? ⟨w2.heap.size, 0, none⟩ = some (.int .i64 (bx - ax)) ∧ w'.cell? ⟨w2.heap.size, 1, none⟩ = some (.int .i64 (by_ - ay)) ∧ w'.cell? ⟨w3.heap.size, 0, none⟩ = some (.int .i64 (ax)) ∧ w'.cell? ⟨w3.heap.size, 1, none⟩ = some (.int .i64 (ay))) (first | exact SQ5 _ (Below.refl _ _).drew | exact SQ5 _ (bel_next (by assumption) (by assumption) (Nat.le_refl _)))
      (first
        | (go_at_call 124; refine (to_any _ ax ay px py hax hay hpx hpy).mono ?_; rintro e w7 ⟨rfl, hbW⟩)
        | (go_at_call 125; refine (adot_any _ (bx - ax) (by_ - ay) (px - ax) (py - ay) (by omega) (by omega) (by omega) (by omega)).mono ?_; rintro e w7 ⟨rfl, hbW⟩))
    obtain ⟨hH6, c6_0, c6_1, c6_2, c6_3, c6_4, c6_5, c6_6, c6_7, c6_8, c6_9⟩ : Below w5.heap.size w5 w7 ∧ w7.cell? ⟨w.heap.size, 0, none⟩ = some (.int .i64 px) ∧ w7.cell? ⟨w.heap.size, 1, none⟩ = some (.int .i64 py) ∧ w7.cell? ⟨w.heap.size + 1, 0, none⟩ = some (.int .i64 ax) ∧ w7.cell? ⟨w.heap.size + 1, 1, none⟩ = some (.int .i64 ay) ∧ w7.cell? ⟨w.heap.size + 1 + 1, 0, none⟩ = some (.int .i64 bx) ∧ w7.cell? ⟨w.heap.size + 1 + 1, 1, none⟩ = some (.int .i64 by_) ∧ w7.cell? ⟨w2.heap.size, 0, none⟩ = some (.int .i64 (bx - ax)) ∧ w7.cell? ⟨w2.heap.size, 1, none⟩ = some (.int .i64 (by_ - ay)) ∧ w7.cell? ⟨w3.heap.size, 0, none⟩ = some (.int .i64 (ax)) ∧ w7.cell? ⟨w3.heap.size, 1, none⟩ = some (.int .i64 (ay)) := by assumption
    have hL6 : Below w0.heap.size w0 w7 := hL5.trans (hH6.mono hL5.size)
    have HS7 := HS.out.below (hb0.trans (hL6.mono hb0.size)) (Nat.le_refl _)
    go_wp2_with fail
    refine (ToLine_any _ px py ax ay bx by_ HS7).mono ?_
    rw [RR_tuple]
    rintro e w8 ⟨rfl, hb8⟩
    have hL7 : Below w0.heap.size w0 w8 := hL6.trans (hb8.mono hL6.size)
    obtain ⟨-, c7_0, c7_1, c7_2, c7_3, c7_4, c7_5⟩ := SK _ hL7
    go_wp2_with fail
    go_ret2
    exact ⟨rfl, hb0.trans (hL7.mono hb0.size)⟩
  · rw [RR_tuple]
    go_enter Tryz.func93, Tryz.ntmps93
    go_upto_region 1 with (fail)
    have hb0 : Below w.heap.size w (((w.alloc (.cells #[.int .i64 px, .int .i64 py] 24)).alloc (.cells #[.int .i64 ax, .int .i64 ay] 24)).alloc (.cells #[.int .i64 bx, .int .i64 by_] 24)) := allocs_below w [(.cells #[.int .i64 px, .int .i64 py] 24), (.cells #[.int .i64 ax, .int .i64 ay] 24), (.cells #[.int .i64 bx, .int .i64 by_] 24)]
    have s0 : w.heap.size + 3 ≤ (((w.alloc (.cells #[.int .i64 px, .int .i64 py] 24)).alloc (.cells #[.int .i64 ax, .int .i64 ay] 24)).alloc (.cells #[.int .i64 bx, .int .i64 by_] 24)).heap.size := Nat.le_of_eq (allocs_size w [(.cells #[.int .i64 px, .int .i64 py] 24), (.cells #[.int .i64 ax, .int .i64 ay] 24), (.cells #[.int .i64 bx, .int .i64 by_] 24)]).symm
    have kb0 : (((w.alloc (.cells #[.int .i64 px, .int .i64 py] 24)).alloc (.cells #[.int .i64 ax, .int .i64 ay] 24)).alloc (.cells #[.int .i64 bx, .int .i64 by_] 24)).heap[w.heap.size + 0]? = some (.cells #[.int .i64 px, .int .i64 py] 24) := allocs_at w [(.cells #[.int .i64 px, .int .i64 py] 24), (.cells #[.int .i64 ax, .int .i64 ay] 24), (.cells #[.int .i64 bx, .int .i64 by_] 24)] 0 rfl
    have kb1 : (((w.alloc (.cells #[.int .i64 px, .int .i64 py] 24)).alloc (.cells #[.int .i64 ax, .int .i64 ay] 24)).alloc (.cells #[.int .i64 bx, .int .i64 by_] 24)).heap[w.heap.size + 1]? = some (.cells #[.int .i64 ax, .int .i64 ay] 24) := allocs_at w [(.cells #[.int .i64 px, .int .i64 py] 24), (.cells #[.int .i64 ax, .int .i64 ay] 24), (.cells #[.int .i64 bx, .int .i64 by_] 24)] 1 rfl
    have kb2 : (((w.alloc (.cells #[.int .i64 px, .int .i64 py] 24)).alloc (.cells #[.int .i64 ax, .int .i64 ay] 24)).alloc (.cells #[.int .i64 bx, .int .i64 by_] 24)).heap[w.heap.size + 2]? = some (.cells #[.int .i64 bx, .int .i64 by_] 24) := allocs_at w [(.cells #[.int .i64 px, .int .i64 py] 24), (.cells #[.int .i64 ax, .int .i64 ay] 24), (.cells #[.int .i64 bx, .int .i64 by_] 24)] 2 rfl
    generalize (((w.alloc (.cells #[.int .i64 px, .int .i64 py] 24)).alloc (.cells #[.int .i64 ax, .int .i64 ay] 24)).alloc (.cells #[.int .i64 bx, .int .i64 by_] 24)) = w0 at *
    have k0_0 : w0.cell? ⟨w.heap.size, 0, none⟩ = some (.int .i64 px) := (Blk.cell kb0 0).trans rfl
    have k0_1 : w0.cell? ⟨w.heap.size, 1, none⟩ = some (.int .i64 py) := (Blk.cell kb0 1).trans rfl
    have k1_0 : w0.cell? ⟨w.heap.size + 1, 0, none⟩ = some (.int .i64 ax) := (Blk.cell kb1 0).trans rfl
    have k1_1 : w0.cell? ⟨w.heap.size + 1, 1, none⟩ = some (.int .i64 ay) := (Blk.cell kb1 1).trans rfl
    have k2_0 : w0.cell? ⟨w.heap.size + 1 + 1, 0, none⟩ = some (.int .i64 bx) := (Blk.cell kb2 0).trans rfl
    have k2_1 : w0.cell? ⟨w.heap.size + 1 + 1, 1, none⟩ = some (.int .i64 by_) := (Blk.cell kb2 1).trans rfl
    clear kb0 kb1 kb2
    have SK : ∀ w', Below w0.heap.size w0 w' → Below w0.heap.size w0 w' ∧ w'.cell? ⟨w.heap.size, 0, none⟩ = some (.int .i64 px) ∧ w'.cell? ⟨w.heap.size, 1, none⟩ = some (.int .i64 py) ∧ w'.cell? ⟨w.heap.size + 1, 0, none⟩ = some (.int .i64 ax) ∧ w'.cell? ⟨w.heap.size + 1, 1, none⟩ = some (.int .i64 ay) ∧ w'.cell? ⟨w.heap.size + 1 + 1, 0, none⟩ = some (.int .i64 bx) ∧ w'.cell? ⟨w.heap.size + 1 + 1, 1, none⟩ = some (.int .i64 by_) := fun w' h => ⟨h, (bcell h _ _ (by omega)).trans k0_0, (bcell h _ _ (by omega)).trans k0_1, (bcell h _ _ (by omega)).trans k1_0, (bcell h _ _ (by omega)).trans k1_1, (bcell h _ _ (by omega)).trans k2_0, (bcell h _ _ (by omega)).trans k2_1⟩
    go_wp2_with fail
    refine (allp_any _ _ [(px, py), (ax, ay), (bx, by_)] (Pts3 w0 (px, py) (ax, ay) (bx, by_) _ _) (by simp)).mono ?_
    rintro e w1 ⟨rfl, hb1⟩
    have hb1' := (allocs_below w0 [_]).trans (hb1.mono (by simp))
    rw [hchk]
    have hL1 : Below w0.heap.size w0 w1 := hb1'
    obtain ⟨-, c1_0, c1_1, c1_2, c1_3, c1_4, c1_5⟩ := SK _ hL1
    go_wp2_with fail
    refine (to_any _ ax ay bx by_ hax hay hbx hby_).mono ?_
    rintro e w2 ⟨rfl, hb2⟩
    have hL2 : Below w0.heap.size w0 w2 := hL1.trans (hb2.mono hL1.size)
    obtain ⟨-, c2_0, c2_1, c2_2, c2_3, c2_4, c2_5⟩ := SK _ hL2
    go_upto_region 5 with (fail)
    have hL3 : Below w0.heap.size w0 (w2.alloc (.cells #[.int .i64 (bx - ax), .int .i64 (by_ - ay)] 158)) := hL2.alloc hL2.size _
    have hA3 := Blk.new w2 158 #[.int .i64 (bx - ax), .int .i64 (by_ - ay)]
    have sA3 : w2.heap.size < (w2.alloc (.cells #[.int .i64 (bx - ax), .int .i64 (by_ - ay)] 158)).heap.size := by simp
    have kA3_0 : (w2.alloc (.cells #[.int .i64 (bx - ax), .int .i64 (by_ - ay)] 158)).cell? ⟨w2.heap.size, 0, none⟩ = some (.int .i64 (bx - ax)) := (Blk.cell hA3 0).trans rfl
    have kA3_1 : (w2.alloc (.cells #[.int .i64 (bx - ax), .int .i64 (by_ - ay)] 158)).cell? ⟨w2.heap.size, 1, none⟩ = some (.int .i64 (by_ - ay)) := (Blk.cell hA3 1).trans rfl
    have fA3_0 : (w2.alloc (.cells #[.int .i64 (bx - ax), .int .i64 (by_ - ay)] 158)).frozen? ⟨w2.heap.size, 0, none⟩ = false := Blk.frozen hA3 0
    have fA3_1 : (w2.alloc (.cells #[.int .i64 (bx - ax), .int .i64 (by_ - ay)] 158)).frozen? ⟨w2.heap.size, 1, none⟩ = false := Blk.frozen hA3 1
    have gA3 : Below w2.heap.size w2 (w2.alloc (.cells #[.int .i64 (bx - ax), .int .i64 (by_ - ay)] 158)) := (Below.refl _ _).alloc (Nat.le_refl _) _
    generalize (w2.alloc (.cells #[.int .i64 (bx - ax), .int .i64 (by_ - ay)] 158)) = w3 at *
    have c3_0 := (bcell gA3 _ _ (block_lt_of_cell c2_0)).trans c2_0
    have c3_1 := (bcell gA3 _ _ (block_lt_of_cell c2_1)).trans c2_1
    have c3_2 := (bcell gA3 _ _ (block_lt_of_cell c2_2)).trans c2_2
    have c3_3 := (bcell gA3 _ _ (block_lt_of_cell c2_3)).trans c2_3
    have c3_4 := (bcell gA3 _ _ (block_lt_of_cell c2_4)).trans c2_4
    have c3_5 := (bcell gA3 _ _ (block_lt_of_cell c2_5)).trans c2_5
    go_upto_region 6 with (fail)
    have hL4 : Below w0.heap.size w0 (w3.alloc (.cells #[.int .i64 ax, .int .i64 ay] 24)) := hL3.alloc hL3.size _
    have hA4 := Blk.new w3 24 #[.int .i64 ax, .int .i64 ay]
    have sA4 : w3.heap.size < (w3.alloc (.cells #[.int .i64 ax, .int .i64 ay] 24)).heap.size := by simp
    have kA4_0 : (w3.alloc (.cells #[.int .i64 ax, .int .i64 ay] 24)).cell? ⟨w3.heap.size, 0, none⟩ = some (.int .i64 (ax)) := (Blk.cell hA4 0).trans rfl
    have kA4_1 : (w3.alloc (.cells #[.int .i64 ax, .int .i64 ay] 24)).cell? ⟨w3.heap.size, 1, none⟩ = some (.int .i64 (ay)) := (Blk.cell hA4 1).trans rfl
    have fA4_0 : (w3.alloc (.cells #[.int .i64 ax, .int .i64 ay] 24)).frozen? ⟨w3.heap.size, 0, none⟩ = false := Blk.frozen hA4 0
    have fA4_1 : (w3.alloc (.cells #[.int .i64 ax, .int .i64 ay] 24)).frozen? ⟨w3.heap.size, 1, none⟩ = false := Blk.frozen hA4 1
    have gA4 : Below w3.heap.size w3 (w3.alloc (.cells #[.int .i64 ax, .int .i64 ay] 24)) := (Below.refl _ _).alloc (Nat.le_refl _) _
    generalize (w3.alloc (.cells #[.int .i64 ax, .int .i64 ay] 24)) = w4 at *
    have c4_0 := (bcell gA4 _ _ (block_lt_of_cell c3_0)).trans c3_0
    have c4_1 := (bcell gA4 _ _ (block_lt_of_cell c3_1)).trans c3_1
    have c4_2 := (bcell gA4 _ _ (block_lt_of_cell c3_2)).trans c3_2
    have c4_3 := (bcell gA4 _ _ (block_lt_of_cell c3_3)).trans c3_3
    have c4_4 := (bcell gA4 _ _ (block_lt_of_cell c3_4)).trans c3_4
    have c4_5 := (bcell gA4 _ _ (block_lt_of_cell c3_5)).trans c3_5
    have c4_6 := (bcell gA4 _ _ (block_lt_of_cell kA3_0)).trans kA3_0
    have c4_7 := (bcell gA4 _ _ (block_lt_of_cell kA3_1)).trans kA3_1
    have q4 : w0.heap.size ≤ w4.heap.size := hL4.size
    have SQ4 : ∀ w', Below w4.heap.size w4 w' → Below w4.heap.size w4 w' ∧ w'.cell? ⟨w.heap.size, 0, none⟩ = some (.int .i64 px) ∧ w'.cell? ⟨w.heap.size, 1, none⟩ = some (.int .i64 py) ∧ w'.cell? ⟨w.heap.size + 1, 0, none⟩ = some (.int .i64 ax) ∧ w'.cell? ⟨w.heap.size + 1, 1, none⟩ = some (.int .i64 ay) ∧ w'.cell? ⟨w.heap.size + 1 + 1, 0, none⟩ = some (.int .i64 bx) ∧ w'.cell? ⟨w.heap.size + 1 + 1, 1, none⟩ = some (.int .i64 by_) ∧ w'.cell? ⟨w2.heap.size, 0, none⟩ = some (.int .i64 (bx - ax)) ∧ w'.cell? ⟨w2.heap.size, 1, none⟩ = some (.int .i64 (by_ - ay)) ∧ w'.cell? ⟨w3.heap.size, 0, none⟩ = some (.int .i64 (ax)) ∧ w'.cell? ⟨w3.heap.size, 1, none⟩ = some (.int .i64 (ay)) := fun w' h => ⟨h, (bcell h _ _ (block_lt_of_cell c4_0)).trans c4_0, (bcell h _ _ (block_lt_of_cell c4_1)).trans c4_1, (bcell h _ _ (block_lt_of_cell c4_2)).trans c4_2, (bcell h _ _ (block_lt_of_cell c4_3)).trans c4_3, (bcell h _ _ (block_lt_of_cell c4_4)).trans c4_4, (bcell h _ _ (block_lt_of_cell c4_5)).trans c4_5, (bcell h _ _ (block_lt_of_cell c4_6)).trans c4_6, (bcell h _ _ (block_lt_of_cell c4_7)).trans c4_7, (bcell h _ _ (block_lt_of_cell kA4_0)).trans kA4_0, (bcell h _ _ (block_lt_of_cell kA4_1)).trans kA4_1⟩
    go_region_held3 (fun w' => Below w4.heap.size w4 w' ∧ w'.cell? ⟨w.heap.size, 0, none⟩ = some (.int .i64 px) ∧ w'.cell? ⟨w.heap.size, 1, none⟩ = some (.int .i64 py) ∧ w'.cell? ⟨w.heap.size + 1, 0, none⟩ = some (.int .i64 ax) ∧ w'.cell? ⟨w.heap.size + 1, 1, none⟩ = some (.int .i64 ay) ∧ w'.cell? ⟨w.heap.size + 1 + 1, 0, none⟩ = some (.int .i64 bx) ∧ w'.cell? ⟨w.heap.size + 1 + 1, 1, none⟩ = some (.int .i64 by_) ∧ w'.cell? ⟨w2.heap.size, 0, none⟩ = some (.int .i64 (bx - ax)) ∧ w'.cell? ⟨w2.heap.size, 1, none⟩ = some (.int .i64 (by_ - ay)) ∧ w'.cell? ⟨w3.heap.size, 0, none⟩ = some (.int .i64 (ax)) ∧ w'.cell? ⟨w3.heap.size, 1, none⟩ = some (.int .i64 (ay))) (first | exact SQ4 _ (Below.refl _ _).drew | exact SQ4 _ (bel_next (by assumption) (by assumption) (Nat.le_refl _)))
      (first
        | (go_at_call 124; refine (to_any _ bx by_ px py hbx hby_ hpx hpy).mono ?_; rintro e w5 ⟨rfl, hbW⟩)
        | (go_at_call 125; refine (adot_any _ (bx - ax) (by_ - ay) (px - bx) (py - by_) (by omega) (by omega) (by omega) (by omega)).mono ?_; rintro e w5 ⟨rfl, hbW⟩))
    obtain ⟨hH5, c5_0, c5_1, c5_2, c5_3, c5_4, c5_5, c5_6, c5_7, c5_8, c5_9⟩ : Below w4.heap.size w4 w5 ∧ w5.cell? ⟨w.heap.size, 0, none⟩ = some (.int .i64 px) ∧ w5.cell? ⟨w.heap.size, 1, none⟩ = some (.int .i64 py) ∧ w5.cell? ⟨w.heap.size + 1, 0, none⟩ = some (.int .i64 ax) ∧ w5.cell? ⟨w.heap.size + 1, 1, none⟩ = some (.int .i64 ay) ∧ w5.cell? ⟨w.heap.size + 1 + 1, 0, none⟩ = some (.int .i64 bx) ∧ w5.cell? ⟨w.heap.size + 1 + 1, 1, none⟩ = some (.int .i64 by_) ∧ w5.cell? ⟨w2.heap.size, 0, none⟩ = some (.int .i64 (bx - ax)) ∧ w5.cell? ⟨w2.heap.size, 1, none⟩ = some (.int .i64 (by_ - ay)) ∧ w5.cell? ⟨w3.heap.size, 0, none⟩ = some (.int .i64 (ax)) ∧ w5.cell? ⟨w3.heap.size, 1, none⟩ = some (.int .i64 (ay)) := by assumption
    have hL5 : Below w0.heap.size w0 w5 := hL4.trans (hH5.mono hL4.size)
    go_upto_region 8 with (fail)
    have q5 : w0.heap.size ≤ w5.heap.size := hL5.size
    have SQ5 : ∀ w', Below w5.heap.size w5 w' → Below w5.heap.size w5 w' ∧ w'.cell? ⟨w.heap.size, 0, none⟩ = some (.int .i64 px) ∧ w'.cell? ⟨w.heap.size, 1, none⟩ = some (.int .i64 py) ∧ w'.cell? ⟨w.heap.size + 1, 0, none⟩ = some (.int .i64 ax) ∧ w'.cell? ⟨w.heap.size + 1, 1, none⟩ = some (.int .i64 ay) ∧ w'.cell? ⟨w.heap.size + 1 + 1, 0, none⟩ = some (.int .i64 bx) ∧ w'.cell? ⟨w.heap.size + 1 + 1, 1, none⟩ = some (.int .i64 by_) ∧ w'.cell? ⟨w2.heap.size, 0, none⟩ = some (.int .i64 (bx - ax)) ∧ w'.cell? ⟨w2.heap.size, 1, none⟩ = some (.int .i64 (by_ - ay)) ∧ w'.cell? ⟨w3.heap.size, 0, none⟩ = some (.int .i64 (ax)) ∧ w'.cell? ⟨w3.heap.size, 1, none⟩ = some (.int .i64 (ay)) := fun w' h => ⟨h, (bcell h _ _ (block_lt_of_cell c5_0)).trans c5_0, (bcell h _ _ (block_lt_of_cell c5_1)).trans c5_1, (bcell h _ _ (block_lt_of_cell c5_2)).trans c5_2, (bcell h _ _ (block_lt_of_cell c5_3)).trans c5_3, (bcell h _ _ (block_lt_of_cell c5_4)).trans c5_4, (bcell h _ _ (block_lt_of_cell c5_5)).trans c5_5, (bcell h _ _ (block_lt_of_cell c5_6)).trans c5_6, (bcell h _ _ (block_lt_of_cell c5_7)).trans c5_7, (bcell h _ _ (block_lt_of_cell c5_8)).trans c5_8, (bcell h _ _ (block_lt_of_cell c5_9)).trans c5_9⟩
    go_region_held3 (fun w' => Below w5.heap.size w5 w' ∧ w'.cell? ⟨w.heap.size, 0, none⟩ = some (.int .i64 px) ∧ w'.cell? ⟨w.heap.size, 1, none⟩ = some (.int .i64 py) ∧ w'.cell? ⟨w.heap.size + 1, 0, none⟩ = some (.int .i64 ax) ∧ w'.cell? ⟨w.heap.size + 1, 1, none⟩ = some (.int .i64 ay) ∧ w'.cell? ⟨w.heap.size + 1 + 1, 0, none⟩ = some (.int .i64 bx) ∧ w'.cell? ⟨w.heap.size + 1 + 1, 1, none⟩ = some (.int .i64 by_) ∧ w'.cell? ⟨w2.heap.size, 0, none⟩ = some (.int .i64 (bx - ax)) ∧ w'.cell? ⟨w2.heap.size, 1, none⟩ = some (.int .i64 (by_ - ay)) ∧ w'.cell? ⟨w3.heap.size, 0, none⟩ = some (.int .i64 (ax)) ∧ w'.cell? ⟨w3.heap.size, 1, none⟩ = some (.int .i64 (ay))) (first | exact SQ5 _ (Below.refl _ _).drew | exact SQ5 _ (bel_next (by assumption) (by assumption) (Nat.le_refl _)))
      (first
        | (go_at_call 124; refine (to_any _ ax ay px py hax hay hpx hpy).mono ?_; rintro e w7 ⟨rfl, hbW⟩)
        | (go_at_call 125; refine (adot_any _ (bx - ax) (by_ - ay) (px - ax) (py - ay) (by omega) (by omega) (by omega) (by omega)).mono ?_; rintro e w7 ⟨rfl, hbW⟩))
    obtain ⟨hH6, c6_0, c6_1, c6_2, c6_3, c6_4, c6_5, c6_6, c6_7, c6_8, c6_9⟩ : Below w5.heap.size w5 w7 ∧ w7.cell? ⟨w.heap.size, 0, none⟩ = some (.int .i64 px) ∧ w7.cell? ⟨w.heap.size, 1, none⟩ = some (.int .i64 py) ∧ w7.cell? ⟨w.heap.size + 1, 0, none⟩ = some (.int .i64 ax) ∧ w7.cell? ⟨w.heap.size + 1, 1, none⟩ = some (.int .i64 ay) ∧ w7.cell? ⟨w.heap.size + 1 + 1, 0, none⟩ = some (.int .i64 bx) ∧ w7.cell? ⟨w.heap.size + 1 + 1, 1, none⟩ = some (.int .i64 by_) ∧ w7.cell? ⟨w2.heap.size, 0, none⟩ = some (.int .i64 (bx - ax)) ∧ w7.cell? ⟨w2.heap.size, 1, none⟩ = some (.int .i64 (by_ - ay)) ∧ w7.cell? ⟨w3.heap.size, 0, none⟩ = some (.int .i64 (ax)) ∧ w7.cell? ⟨w3.heap.size, 1, none⟩ = some (.int .i64 (ay)) := by assumption
    have hL6 : Below w0.heap.size w0 w7 := hL5.trans (hH6.mono hL5.size)
    have HS7 := HS.out.below (hb0.trans (hL6.mono hb0.size)) (Nat.le_refl _)
    go_wp2_with fail
    refine (ToLine_any _ px py ax ay bx by_ HS7).mono ?_
    rw [RR_tuple]
    rintro e w8 ⟨rfl, hb8⟩
    have hL7 : Below w0.heap.size w0 w8 := hL6.trans (hb8.mono hL6.size)
    obtain ⟨-, c7_0, c7_1, c7_2, c7_3, c7_4, c7_5⟩ := SK _ hL7
    go_wp2_with fail
    go_ret2
    exact ⟨rfl, hb0.trans (hL7.mono hb0.size)⟩

set_option maxRecDepth 100000 in
set_option maxHeartbeats 1000000 in
theorem ToSegment_any (w : World) (px py ax ay bx by_ : Int) (hs : Std w) :
    Calls Tryz.prog 93 #[.agg #[.int .i64 px, .int .i64 py], .agg #[.int .i64 ax, .int .i64 ay], .agg #[.int .i64 bx, .int .i64 by_]] w fun e w' => e = .returned (RR (segR px py ax ay bx by_)) ∧ Below w.heap.size w w' := by
  have HS := hide hs
  clear hs
  by_cases hok : Co px ∧ Co py ∧ Co ax ∧ Co ay ∧ Co bx ∧ Co by_
  · rw [segR, if_pos hok]
    have hV : (bx - ax) * (px - ax) + (by_ - ay) * (py - ay) = (bx - ax) * (px - bx) + (by_ - ay) * (py - by_) + ((bx - ax) * (bx - ax) + (by_ - ay) * (by_ - ay)) := by grind
    have hs1 := sq_nn (bx - ax)
    have hs2 := sq_nn (by_ - ay)
    by_cases hc1 : 0 < (bx - ax) * (px - bx) + (by_ - ay) * (py - by_)
    · rw [if_pos hc1]
      exact seg_one w px py ax ay bx by_ HS.out hok hc1 (by omega)
    · rw [if_neg hc1]
      by_cases hc2 : (bx - ax) * (px - ax) + (by_ - ay) * (py - ay) ≤ 0
      · rw [if_pos hc2]
        exact seg_two w px py ax ay bx by_ HS.out hok hc1 hc2
      · rw [if_neg hc2]
        exact seg_three w px py ax ay bx by_ HS.out hok hc1 hc2
  · have hchk : chkPts [(px, py), (ax, ay), (bx, by_)] = 2 := by rw [chkPts, if_neg]; intro h; exact hok (by simpa [okPts, and_assoc] using h)
    rw [segR, if_neg hok]
    go_enter Tryz.func93, Tryz.ntmps93
    go_upto_region 1 with (fail)
    have hb0 : Below w.heap.size w (((w.alloc (.cells #[.int .i64 px, .int .i64 py] 24)).alloc (.cells #[.int .i64 ax, .int .i64 ay] 24)).alloc (.cells #[.int .i64 bx, .int .i64 by_] 24)) := allocs_below w [(.cells #[.int .i64 px, .int .i64 py] 24), (.cells #[.int .i64 ax, .int .i64 ay] 24), (.cells #[.int .i64 bx, .int .i64 by_] 24)]
    have s0 : w.heap.size + 3 ≤ (((w.alloc (.cells #[.int .i64 px, .int .i64 py] 24)).alloc (.cells #[.int .i64 ax, .int .i64 ay] 24)).alloc (.cells #[.int .i64 bx, .int .i64 by_] 24)).heap.size := Nat.le_of_eq (allocs_size w [(.cells #[.int .i64 px, .int .i64 py] 24), (.cells #[.int .i64 ax, .int .i64 ay] 24), (.cells #[.int .i64 bx, .int .i64 by_] 24)]).symm
    have kb0 : (((w.alloc (.cells #[.int .i64 px, .int .i64 py] 24)).alloc (.cells #[.int .i64 ax, .int .i64 ay] 24)).alloc (.cells #[.int .i64 bx, .int .i64 by_] 24)).heap[w.heap.size + 0]? = some (.cells #[.int .i64 px, .int .i64 py] 24) := allocs_at w [(.cells #[.int .i64 px, .int .i64 py] 24), (.cells #[.int .i64 ax, .int .i64 ay] 24), (.cells #[.int .i64 bx, .int .i64 by_] 24)] 0 rfl
    have kb1 : (((w.alloc (.cells #[.int .i64 px, .int .i64 py] 24)).alloc (.cells #[.int .i64 ax, .int .i64 ay] 24)).alloc (.cells #[.int .i64 bx, .int .i64 by_] 24)).heap[w.heap.size + 1]? = some (.cells #[.int .i64 ax, .int .i64 ay] 24) := allocs_at w [(.cells #[.int .i64 px, .int .i64 py] 24), (.cells #[.int .i64 ax, .int .i64 ay] 24), (.cells #[.int .i64 bx, .int .i64 by_] 24)] 1 rfl
    have kb2 : (((w.alloc (.cells #[.int .i64 px, .int .i64 py] 24)).alloc (.cells #[.int .i64 ax, .int .i64 ay] 24)).alloc (.cells #[.int .i64 bx, .int .i64 by_] 24)).heap[w.heap.size + 2]? = some (.cells #[.int .i64 bx, .int .i64 by_] 24) := allocs_at w [(.cells #[.int .i64 px, .int .i64 py] 24), (.cells #[.int .i64 ax, .int .i64 ay] 24), (.cells #[.int .i64 bx, .int .i64 by_] 24)] 2 rfl
    generalize (((w.alloc (.cells #[.int .i64 px, .int .i64 py] 24)).alloc (.cells #[.int .i64 ax, .int .i64 ay] 24)).alloc (.cells #[.int .i64 bx, .int .i64 by_] 24)) = w0 at *
    have k0_0 : w0.cell? ⟨w.heap.size, 0, none⟩ = some (.int .i64 px) := (Blk.cell kb0 0).trans rfl
    have k0_1 : w0.cell? ⟨w.heap.size, 1, none⟩ = some (.int .i64 py) := (Blk.cell kb0 1).trans rfl
    have k1_0 : w0.cell? ⟨w.heap.size + 1, 0, none⟩ = some (.int .i64 ax) := (Blk.cell kb1 0).trans rfl
    have k1_1 : w0.cell? ⟨w.heap.size + 1, 1, none⟩ = some (.int .i64 ay) := (Blk.cell kb1 1).trans rfl
    have k2_0 : w0.cell? ⟨w.heap.size + 1 + 1, 0, none⟩ = some (.int .i64 bx) := (Blk.cell kb2 0).trans rfl
    have k2_1 : w0.cell? ⟨w.heap.size + 1 + 1, 1, none⟩ = some (.int .i64 by_) := (Blk.cell kb2 1).trans rfl
    clear kb0 kb1 kb2
    have SK : ∀ w', Below w0.heap.size w0 w' → Below w0.heap.size w0 w' ∧ w'.cell? ⟨w.heap.size, 0, none⟩ = some (.int .i64 px) ∧ w'.cell? ⟨w.heap.size, 1, none⟩ = some (.int .i64 py) ∧ w'.cell? ⟨w.heap.size + 1, 0, none⟩ = some (.int .i64 ax) ∧ w'.cell? ⟨w.heap.size + 1, 1, none⟩ = some (.int .i64 ay) ∧ w'.cell? ⟨w.heap.size + 1 + 1, 0, none⟩ = some (.int .i64 bx) ∧ w'.cell? ⟨w.heap.size + 1 + 1, 1, none⟩ = some (.int .i64 by_) := fun w' h => ⟨h, (bcell h _ _ (by omega)).trans k0_0, (bcell h _ _ (by omega)).trans k0_1, (bcell h _ _ (by omega)).trans k1_0, (bcell h _ _ (by omega)).trans k1_1, (bcell h _ _ (by omega)).trans k2_0, (bcell h _ _ (by omega)).trans k2_1⟩
    go_wp2_with fail
    refine (allp_any _ _ [(px, py), (ax, ay), (bx, by_)] (Pts3 w0 (px, py) (ax, ay) (bx, by_) _ _) (by simp)).mono ?_
    rintro e w1 ⟨rfl, hb1⟩
    have hb1' := (allocs_below w0 [_]).trans (hb1.mono (by simp))
    rw [hchk]
    have hL1 : Below w0.heap.size w0 w1 := hb1'
    obtain ⟨-, c1_0, c1_1, c1_2, c1_3, c1_4, c1_5⟩ := SK _ hL1
    go_wp2_with fail
    go_ret2
    exact ⟨rfl, hb0.trans (hL1.mono hb0.size)⟩

end Go.Proofs.YtendaaghmeoddaaGreatDoor
