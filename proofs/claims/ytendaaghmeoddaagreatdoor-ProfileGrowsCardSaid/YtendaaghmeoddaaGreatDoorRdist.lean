/- The distances of the reference: lines, segments. -/
import Derived.Test.YtendaaghmeoddaaGreatDoorRseven
import Derived.Test.YtendaaghmeoddaaGreatDoorSeg
namespace Go.Proofs.YtendaaghmeoddaaGreatDoor
open Go.RowKit MLab

set_option maxRecDepth 100000 in
set_option maxHeartbeats 1000000 in
theorem rratio_any (w : World) (n d : Int) (hn : n.natAbs ≤ 100000000000000000) (h0 : -9223372036854775808 ≤ d) (h1 : d ≤ 9223372036854775807) (hd : d ≠ 0) :
    Calls Tryz.prog 157 #[.int .i64 n, .int .i64 d] w fun e w' => e = .returned (.string ⟨(RT (Rat.divInt (n * n) d)).toArray⟩) ∧ Below w.heap.size w w' := by
  have T1 := hide (T_len19 (n := n) (by omega) (by omega))
  have T2 := hide (T_len19 h0 h1)
  have T3 := hide (show (T (n * n)).length ≤ 41 from by
    refine T_len_of (k := 40) ?_
    rw [Int.natAbs_mul]
    have h := T1.out
    rw [T_length] at h
    exact Nat.le_trans (dec_len_mul (k := 20) (l := 20) (by decide) (by decide) ((dec_length_le (by decide)).2 (by omega)) ((dec_length_le (by decide)).2 (by omega))) (by decide))
  go_enter Tryz.func157, Tryz.ntmps157
  go_wp2_with fail
  refine (rof_any n (by omega) (by omega) _).mono ?_
  rintro e w1 ⟨rfl, hb1⟩
  have B1 := hide hb1
  clear hb1
  go_wp2_with fail
  refine (rtimes_int _ _ _ n n ⟨rfl, rfl, by rw [ba_size]; exact Nat.le_trans T1.out (by decide), by rw [ba_size]; exact Nat.le_trans T1.out (by decide)⟩).mono ?_
  rintro e w2 ⟨rfl, hb2⟩
  have B2 := hide (B1.out.trans (hb2.mono B1.out.size))
  clear hb2
  go_wp2_with fail
  refine (rof_any d h0 h1 _).mono ?_
  rintro e w3 ⟨rfl, hb3⟩
  have B3 := hide (B2.out.trans (hb3.mono B2.out.size))
  clear hb3
  go_wp2_with fail
  refine (rlowest_any _ _ _ (n * n) d ⟨rfl, rfl, by rw [ba_size]; exact Nat.le_trans T3.out (by decide), by rw [ba_size]; exact Nat.le_trans T2.out (by decide)⟩ hd (by rw [ba_size]; exact Nat.le_trans T3.out (by decide)) (by rw [ba_size]; exact Nat.le_trans T2.out (by decide))).mono ?_
  rintro e w4 ⟨rfl, hb4⟩
  have B4 := hide (B3.out.trans (hb4.mono B3.out.size))
  clear hb4
  go_wp2_with fail
  go_ret
  exact ⟨rfl, B4.out⟩

set_option maxRecDepth 100000 in
set_option maxHeartbeats 1000000 in
theorem rfromline_any (w : World) (px py ax ay bx by_ : Int) (hpx : Co px) (hpy : Co py) (hax : Co ax) (hay : Co ay) (hbx : Co bx) (hby_ : Co by_) (hne : (ax - bx) * (ax - bx) + (ay - by_) * (ay - by_) ≠ 0) :
    Calls Tryz.prog 131 #[.agg #[.int .i64 px, .int .i64 py], .agg #[.int .i64 ax, .int .i64 ay], .agg #[.int .i64 bx, .int .i64 by_]] w fun e w' => e = .returned (.string ⟨(RT (Rat.divInt (((bx - ax) * (py - ay) - (by_ - ay) * (px - ax)) * ((bx - ax) * (py - ay) - (by_ - ay) * (px - ax))) ((ax - bx) * (ax - bx) + (ay - by_) * (ay - by_)))).toArray⟩) ∧ Below w.heap.size w w' := by
  obtain ⟨m0a, m0b⟩ := mulB (x := bx - ax) (y := py - ay) (M := 200000) (N := 200000) (by omega) (by omega)
  obtain ⟨m1a, m1b⟩ := mulB (x := by_ - ay) (y := px - ax) (M := 200000) (N := 200000) (by omega) (by omega)
  obtain ⟨m2a, m2b⟩ := mulB (x := ax - bx) (y := ax - bx) (M := 200000) (N := 200000) (by omega) (by omega)
  obtain ⟨m3a, m3b⟩ := mulB (x := ay - by_) (y := ay - by_) (M := 200000) (N := 200000) (by omega) (by omega)
  have HC := hide (p := ((bx - ax) * (py - ay) - (by_ - ay) * (px - ax)).natAbs ≤ 100000000000000000) (by omega)
  have D0 := hide (p := -9223372036854775808 ≤ (ax - bx) * (ax - bx) + (ay - by_) * (ay - by_)) (by omega)
  have D1 := hide (p := (ax - bx) * (ax - bx) + (ay - by_) * (ay - by_) ≤ 9223372036854775807) (by omega)
  have D2 := hide hne
  clear m0a m0b m1a m1b m2a m2b m3a m3b hne
  go_enter Tryz.func131, Tryz.ntmps131
  go_upto_region 1 with (fail)
  have hb0 : Below w.heap.size w (((w.alloc (.cells #[.int .i64 px, .int .i64 py] 24)).alloc (.cells #[.int .i64 ax, .int .i64 ay] 24)).alloc (.cells #[.int .i64 bx, .int .i64 by_] 24)) := allocs_below w [(.cells #[.int .i64 px, .int .i64 py] 24), (.cells #[.int .i64 ax, .int .i64 ay] 24), (.cells #[.int .i64 bx, .int .i64 by_] 24)]
  have s0 : w.heap.size + 3 ≤ (((w.alloc (.cells #[.int .i64 px, .int .i64 py] 24)).alloc (.cells #[.int .i64 ax, .int .i64 ay] 24)).alloc (.cells #[.int .i64 bx, .int .i64 by_] 24)).heap.size := Nat.le_of_eq (allocs_size w [(.cells #[.int .i64 px, .int .i64 py] 24), (.cells #[.int .i64 ax, .int .i64 ay] 24), (.cells #[.int .i64 bx, .int .i64 by_] 24)]).symm
  have kb0 : (((w.alloc (.cells #[.int .i64 px, .int .i64 py] 24)).alloc (.cells #[.int .i64 ax, .int .i64 ay] 24)).alloc (.cells #[.int .i64 bx, .int .i64 by_] 24)).heap[w.heap.size + 0]? = some (.cells #[.int .i64 px, .int .i64 py] 24) := allocs_at w [(.cells #[.int .i64 px, .int .i64 py] 24), (.cells #[.int .i64 ax, .int .i64 ay] 24), (.cells #[.int .i64 bx, .int .i64 by_] 24)] 0 rfl
  have kb1 : (((w.alloc (.cells #[.int .i64 px, .int .i64 py] 24)).alloc (.cells #[.int .i64 ax, .int .i64 ay] 24)).alloc (.cells #[.int .i64 bx, .int .i64 by_] 24)).heap[w.heap.size + 1]? = some (.cells #[.int .i64 ax, .int .i64 ay] 24) := allocs_at w [(.cells #[.int .i64 px, .int .i64 py] 24), (.cells #[.int .i64 ax, .int .i64 ay] 24), (.cells #[.int .i64 bx, .int .i64 by_] 24)] 1 rfl
  have kb2 : (((w.alloc (.cells #[.int .i64 px, .int .i64 py] 24)).alloc (.cells #[.int .i64 ax, .int .i64 ay] 24)).alloc (.cells #[.int .i64 bx, .int .i64 by_] 24)).heap[w.heap.size + 2]? = some (.cells #[.int .i64 bx, .int .i64 by_] 24) := allocs_at w [(.cells #[.int .i64 px, .int .i64 py] 24), (.cells #[.int .i64 ax, .int .i64 ay] 24), (.cells #[.int .i64 bx, .int .i64 by_] 24)] 2 rfl
  generalize (((w.alloc (.cells #[.int .i64 px, .int .i64 py] 24)).alloc (.cells #[.int .i64 ax, .int .i64 ay] 24)).alloc (.cells #[.int .i64 bx, .int .i64 by_] 24)) = w0 at *
  have k0_0 : w0.cell? ⟨w.heap.size, 0, none⟩ = some (.int .i64 px) := (Blk.cell kb0 0).trans rfl
  have k0_1 : w0.cell? ⟨w.heap.size, 1, none⟩ = some (.int .i64 py) := (Blk.cell kb0 1).trans rfl
  have k1_0 : w0.cell? ⟨w.heap.size + 1, 0, none⟩ = some (.int .i64 ax) := (Blk.cell kb1 0).trans rfl
  have k1_1 : w0.cell? ⟨w.heap.size + 1, 1, none⟩ = some (.int .i64 ay) := (Blk.cell kb1 1).trans rfl
  have k2_0 : w0.cell? ⟨w.heap.size + 1 + 1, 0, none⟩ = some (.int .i64 bx) := (Blk.cell kb2 0).trans rfl
  have k2_1 : w0.cell? ⟨w.heap.size + 1 + 1, 1, none⟩ = some (.int .i64 by_) := (Blk.cell kb2 1).trans rfl
  clear kb0 kb1 kb2
  have SK : ∀ w', Below w0.heap.size w0 w' → Below w0.heap.size w0 w' ∧ w'.cell? ⟨w.heap.size, 0, none⟩ = some (.int .i64 px) ∧ w'.cell? ⟨w.heap.size, 1, none⟩ = some (.int .i64 py) ∧ w'.cell? ⟨w.heap.size + 1, 0, none⟩ = some (.int .i64 ax) ∧ w'.cell? ⟨w.heap.size + 1, 1, none⟩ = some (.int .i64 ay) ∧ w'.cell? ⟨w.heap.size + 1 + 1, 0, none⟩ = some (.int .i64 bx) ∧ w'.cell? ⟨w.heap.size + 1 + 1, 1, none⟩ = some (.int .i64 by_) := fun w' h => ⟨h, (bcell h _ _ (by omega)).trans k0_0, (bcell h _ _ (by omega)).trans k0_1, (bcell h _ _ (by omega)).trans k1_0, (bcell h _ _ (by omega)).trans k1_1, (bcell h _ _ (by omega)).trans k2_0, (bcell h _ _ (by omega)).trans k2_1⟩
  go_region_held3 (fun w' => Below w0.heap.size w0 w' ∧ w'.cell? ⟨w.heap.size, 0, none⟩ = some (.int .i64 px) ∧ w'.cell? ⟨w.heap.size, 1, none⟩ = some (.int .i64 py) ∧ w'.cell? ⟨w.heap.size + 1, 0, none⟩ = some (.int .i64 ax) ∧ w'.cell? ⟨w.heap.size + 1, 1, none⟩ = some (.int .i64 ay) ∧ w'.cell? ⟨w.heap.size + 1 + 1, 0, none⟩ = some (.int .i64 bx) ∧ w'.cell? ⟨w.heap.size + 1 + 1, 1, none⟩ = some (.int .i64 by_)) (first | exact SK _ (Below.refl _ _).drew | exact SK _ (bel_next (by assumption) (by assumption) (Nat.le_refl _)))
    (first
      | (go_at_call 116; refine (rleft_any _ ax ay bx by_ px py hax hay hbx hby_ hpx hpy).mono ?_; rintro e wx ⟨rfl, hbW⟩)
      | (go_at_call 130; refine (rfar_any _ ax ay bx by_ hax hay hbx hby_).mono ?_; rintro e wx ⟨rfl, hbW⟩)
      | (go_at_call 157; refine (rratio_any _ ((bx - ax) * (py - ay) - (by_ - ay) * (px - ax)) ((ax - bx) * (ax - bx) + (ay - by_) * (ay - by_)) HC.out D0.out D1.out D2.out).mono ?_; rintro e wx ⟨rfl, hbW⟩))
  go_wp2_with fail
  go_ret
  exact ⟨rfl, hb0.trans (Below.mono (And.left (by assumption)) hb0.size)⟩

set_option maxRecDepth 100000 in
set_option maxHeartbeats 2000000 in
theorem rfromseg_1 (w : World) (px py ax ay bx by_ : Int) (hpx : Co px) (hpy : Co py) (hax : Co ax) (hay : Co ay) (hbx : Co bx) (hby_ : Co by_) (hc1 : (bx - ax) * (px - ax) + (by_ - ay) * (py - ay) ≤ 0) :
    Calls Tryz.prog 94 #[.agg #[.int .i64 px, .int .i64 py], .agg #[.int .i64 ax, .int .i64 ay], .agg #[.int .i64 bx, .int .i64 by_]] w fun e w' => e = .returned (.string ⟨(RT ((((px - ax) * (px - ax) + (py - ay) * (py - ay) : Int) : Rat))).toArray⟩) ∧ Below w.heap.size w w' := by
  obtain ⟨m0a, m0b⟩ := mulB (x := px - ax) (y := px - ax) (M := 200000) (N := 200000) (by omega) (by omega)
  obtain ⟨m1a, m1b⟩ := mulB (x := py - ay) (y := py - ay) (M := 200000) (N := 200000) (by omega) (by omega)
  have Q0 := hide (p := -9223372036854775808 ≤ (px - ax) * (px - ax) + (py - ay) * (py - ay)) (by omega)
  have Q1 := hide (p := (px - ax) * (px - ax) + (py - ay) * (py - ay) ≤ 9223372036854775807) (by omega)
  clear m0a m0b m1a m1b
  generalize hqr : (((px - ax) * (px - ax) + (py - ay) * (py - ay) : Int) : Rat) = qr
  have HQR := hide hqr
  clear hqr
  have hd1 : decide ((bx - ax) * (px - ax) + (by_ - ay) * (py - ay) ≤ 0) = true := decide_eq_true hc1
  go_enter Tryz.func94, Tryz.ntmps94
  go_upto_region 1 with (fail)
  have hb0 : Below w.heap.size w (((w.alloc (.cells #[.int .i64 px, .int .i64 py] 24)).alloc (.cells #[.int .i64 ax, .int .i64 ay] 24)).alloc (.cells #[.int .i64 bx, .int .i64 by_] 24)) := allocs_below w [(.cells #[.int .i64 px, .int .i64 py] 24), (.cells #[.int .i64 ax, .int .i64 ay] 24), (.cells #[.int .i64 bx, .int .i64 by_] 24)]
  have s0 : w.heap.size + 3 ≤ (((w.alloc (.cells #[.int .i64 px, .int .i64 py] 24)).alloc (.cells #[.int .i64 ax, .int .i64 ay] 24)).alloc (.cells #[.int .i64 bx, .int .i64 by_] 24)).heap.size := Nat.le_of_eq (allocs_size w [(.cells #[.int .i64 px, .int .i64 py] 24), (.cells #[.int .i64 ax, .int .i64 ay] 24), (.cells #[.int .i64 bx, .int .i64 by_] 24)]).symm
  have kb0 : (((w.alloc (.cells #[.int .i64 px, .int .i64 py] 24)).alloc (.cells #[.int .i64 ax, .int .i64 ay] 24)).alloc (.cells #[.int .i64 bx, .int .i64 by_] 24)).heap[w.heap.size + 0]? = some (.cells #[.int .i64 px, .int .i64 py] 24) := allocs_at w [(.cells #[.int .i64 px, .int .i64 py] 24), (.cells #[.int .i64 ax, .int .i64 ay] 24), (.cells #[.int .i64 bx, .int .i64 by_] 24)] 0 rfl
  have kb1 : (((w.alloc (.cells #[.int .i64 px, .int .i64 py] 24)).alloc (.cells #[.int .i64 ax, .int .i64 ay] 24)).alloc (.cells #[.int .i64 bx, .int .i64 by_] 24)).heap[w.heap.size + 1]? = some (.cells #[.int .i64 ax, .int .i64 ay] 24) := allocs_at w [(.cells #[.int .i64 px, .int .i64 py] 24), (.cells #[.int .i64 ax, .int .i64 ay] 24), (.cells #[.int .i64 bx, .int .i64 by_] 24)] 1 rfl
  have kb2 : (((w.alloc (.cells #[.int .i64 px, .int .i64 py] 24)).alloc (.cells #[.int .i64 ax, .int .i64 ay] 24)).alloc (.cells #[.int .i64 bx, .int .i64 by_] 24)).heap[w.heap.size + 2]? = some (.cells #[.int .i64 bx, .int .i64 by_] 24) := allocs_at w [(.cells #[.int .i64 px, .int .i64 py] 24), (.cells #[.int .i64 ax, .int .i64 ay] 24), (.cells #[.int .i64 bx, .int .i64 by_] 24)] 2 rfl
  generalize (((w.alloc (.cells #[.int .i64 px, .int .i64 py] 24)).alloc (.cells #[.int .i64 ax, .int .i64 ay] 24)).alloc (.cells #[.int .i64 bx, .int .i64 by_] 24)) = w0 at *
  have k0_0 : w0.cell? ⟨w.heap.size, 0, none⟩ = some (.int .i64 px) := (Blk.cell kb0 0).trans rfl
  have k0_1 : w0.cell? ⟨w.heap.size, 1, none⟩ = some (.int .i64 py) := (Blk.cell kb0 1).trans rfl
  have k1_0 : w0.cell? ⟨w.heap.size + 1, 0, none⟩ = some (.int .i64 ax) := (Blk.cell kb1 0).trans rfl
  have k1_1 : w0.cell? ⟨w.heap.size + 1, 1, none⟩ = some (.int .i64 ay) := (Blk.cell kb1 1).trans rfl
  have k2_0 : w0.cell? ⟨w.heap.size + 1 + 1, 0, none⟩ = some (.int .i64 bx) := (Blk.cell kb2 0).trans rfl
  have k2_1 : w0.cell? ⟨w.heap.size + 1 + 1, 1, none⟩ = some (.int .i64 by_) := (Blk.cell kb2 1).trans rfl
  clear kb0 kb1 kb2
  have SK : ∀ w', Below w0.heap.size w0 w' → Below w0.heap.size w0 w' ∧ w'.cell? ⟨w.heap.size, 0, none⟩ = some (.int .i64 px) ∧ w'.cell? ⟨w.heap.size, 1, none⟩ = some (.int .i64 py) ∧ w'.cell? ⟨w.heap.size + 1, 0, none⟩ = some (.int .i64 ax) ∧ w'.cell? ⟨w.heap.size + 1, 1, none⟩ = some (.int .i64 ay) ∧ w'.cell? ⟨w.heap.size + 1 + 1, 0, none⟩ = some (.int .i64 bx) ∧ w'.cell? ⟨w.heap.size + 1 + 1, 1, none⟩ = some (.int .i64 by_) := fun w' h => ⟨h, (bcell h _ _ (by omega)).trans k0_0, (bcell h _ _ (by omega)).trans k0_1, (bcell h _ _ (by omega)).trans k1_0, (bcell h _ _ (by omega)).trans k1_1, (bcell h _ _ (by omega)).trans k2_0, (bcell h _ _ (by omega)).trans k2_1⟩
  go_wp2_with fail
  refine (rminus_any _ bx by_ ax ay hbx hby_ hax hay).mono ?_
  rintro e w1 ⟨rfl, hb1⟩
  have hL1 : Below w0.heap.size w0 w1 := hb1
  obtain ⟨-, c1_0, c1_1, c1_2, c1_3, c1_4, c1_5⟩ := SK _ hL1
  go_upto_region 2 with (fail)
  have hL2 : Below w0.heap.size w0 (w1.alloc (.cells #[.int .i64 (bx - ax), .int .i64 (by_ - ay)] 24)) := hL1.alloc hL1.size _
  have hA2 := Blk.new w1 24 #[.int .i64 (bx - ax), .int .i64 (by_ - ay)]
  have sA2 : w1.heap.size < (w1.alloc (.cells #[.int .i64 (bx - ax), .int .i64 (by_ - ay)] 24)).heap.size := by simp
  have kA2_0 : (w1.alloc (.cells #[.int .i64 (bx - ax), .int .i64 (by_ - ay)] 24)).cell? ⟨w1.heap.size, 0, none⟩ = some (.int .i64 (bx - ax)) := (Blk.cell hA2 0).trans rfl
  have kA2_1 : (w1.alloc (.cells #[.int .i64 (bx - ax), .int .i64 (by_ - ay)] 24)).cell? ⟨w1.heap.size, 1, none⟩ = some (.int .i64 (by_ - ay)) := (Blk.cell hA2 1).trans rfl
  have fA2_0 : (w1.alloc (.cells #[.int .i64 (bx - ax), .int .i64 (by_ - ay)] 24)).frozen? ⟨w1.heap.size, 0, none⟩ = false := Blk.frozen hA2 0
  have fA2_1 : (w1.alloc (.cells #[.int .i64 (bx - ax), .int .i64 (by_ - ay)] 24)).frozen? ⟨w1.heap.size, 1, none⟩ = false := Blk.frozen hA2 1
  have gA2 : Below w1.heap.size w1 (w1.alloc (.cells #[.int .i64 (bx - ax), .int .i64 (by_ - ay)] 24)) := (Below.refl _ _).alloc (Nat.le_refl _) _
  generalize (w1.alloc (.cells #[.int .i64 (bx - ax), .int .i64 (by_ - ay)] 24)) = w2 at *
  have c2_0 := (bcell gA2 _ _ (block_lt_of_cell c1_0)).trans c1_0
  have c2_1 := (bcell gA2 _ _ (block_lt_of_cell c1_1)).trans c1_1
  have c2_2 := (bcell gA2 _ _ (block_lt_of_cell c1_2)).trans c1_2
  have c2_3 := (bcell gA2 _ _ (block_lt_of_cell c1_3)).trans c1_3
  have c2_4 := (bcell gA2 _ _ (block_lt_of_cell c1_4)).trans c1_4
  have c2_5 := (bcell gA2 _ _ (block_lt_of_cell c1_5)).trans c1_5
  have q2 : w0.heap.size ≤ w2.heap.size := hL2.size
  have SQ2 : ∀ w', Below w2.heap.size w2 w' → Below w2.heap.size w2 w' ∧ w'.cell? ⟨w.heap.size, 0, none⟩ = some (.int .i64 px) ∧ w'.cell? ⟨w.heap.size, 1, none⟩ = some (.int .i64 py) ∧ w'.cell? ⟨w.heap.size + 1, 0, none⟩ = some (.int .i64 ax) ∧ w'.cell? ⟨w.heap.size + 1, 1, none⟩ = some (.int .i64 ay) ∧ w'.cell? ⟨w.heap.size + 1 + 1, 0, none⟩ = some (.int .i64 bx) ∧ w'.cell? ⟨w.heap.size + 1 + 1, 1, none⟩ = some (.int .i64 by_) ∧ w'.cell? ⟨w1.heap.size, 0, none⟩ = some (.int .i64 (bx - ax)) ∧ w'.cell? ⟨w1.heap.size, 1, none⟩ = some (.int .i64 (by_ - ay)) := fun w' h => ⟨h, (bcell h _ _ (block_lt_of_cell c2_0)).trans c2_0, (bcell h _ _ (block_lt_of_cell c2_1)).trans c2_1, (bcell h _ _ (block_lt_of_cell c2_2)).trans c2_2, (bcell h _ _ (block_lt_of_cell c2_3)).trans c2_3, (bcell h _ _ (block_lt_of_cell c2_4)).trans c2_4, (bcell h _ _ (block_lt_of_cell c2_5)).trans c2_5, (bcell h _ _ (block_lt_of_cell kA2_0)).trans kA2_0, (bcell h _ _ (block_lt_of_cell kA2_1)).trans kA2_1⟩
  go_region_held3 (fun w' => Below w2.heap.size w2 w' ∧ w'.cell? ⟨w.heap.size, 0, none⟩ = some (.int .i64 px) ∧ w'.cell? ⟨w.heap.size, 1, none⟩ = some (.int .i64 py) ∧ w'.cell? ⟨w.heap.size + 1, 0, none⟩ = some (.int .i64 ax) ∧ w'.cell? ⟨w.heap.size + 1, 1, none⟩ = some (.int .i64 ay) ∧ w'.cell? ⟨w.heap.size + 1 + 1, 0, none⟩ = some (.int .i64 bx) ∧ w'.cell? ⟨w.heap.size + 1 + 1, 1, none⟩ = some (.int .i64 by_) ∧ w'.cell? ⟨w1.heap.size, 0, none⟩ = some (.int .i64 (bx - ax)) ∧ w'.cell? ⟨w1.heap.size, 1, none⟩ = some (.int .i64 (by_ - ay))) (first | exact SQ2 _ (Below.refl _ _).drew | exact SQ2 _ (bel_next (by assumption) (by assumption) (Nat.le_refl _)))
    (first
      | (go_at_call 128; refine (rminus_any _ px py ax ay hpx hpy hax hay).mono ?_; rintro e w3 ⟨rfl, hbW⟩)
      | (go_at_call 129; refine (rtimes_any _ (bx - ax) (by_ - ay) (px - ax) (py - ay) (by omega) (by omega) (by omega) (by omega)).mono ?_; rintro e w3 ⟨rfl, hbW⟩))
  obtain ⟨hH3, c3_0, c3_1, c3_2, c3_3, c3_4, c3_5, c3_6, c3_7⟩ : Below w2.heap.size w2 w3 ∧ w3.cell? ⟨w.heap.size, 0, none⟩ = some (.int .i64 px) ∧ w3.cell? ⟨w.heap.size, 1, none⟩ = some (.int .i64 py) ∧ w3.cell? ⟨w.heap.size + 1, 0, none⟩ = some (.int .i64 ax) ∧ w3.cell? ⟨w.heap.size + 1, 1, none⟩ = some (.int .i64 ay) ∧ w3.cell? ⟨w.heap.size + 1 + 1, 0, none⟩ = some (.int .i64 bx) ∧ w3.cell? ⟨w.heap.size + 1 + 1, 1, none⟩ = some (.int .i64 by_) ∧ w3.cell? ⟨w1.heap.size, 0, none⟩ = some (.int .i64 (bx - ax)) ∧ w3.cell? ⟨w1.heap.size, 1, none⟩ = some (.int .i64 (by_ - ay)) := by assumption
  have hL3 : Below w0.heap.size w0 w3 := hL2.trans (hH3.mono hL2.size)
  go_wp2_with fail
  refine (rfar_any _ px py ax ay hpx hpy hax hay).mono ?_
  rintro e w5 ⟨rfl, hb5⟩
  have hL4 : Below w0.heap.size w0 w5 := hL3.trans (hb5.mono hL3.size)
  obtain ⟨-, c4_0, c4_1, c4_2, c4_3, c4_4, c4_5⟩ := SK _ hL4
  go_wp2_with fail
  refine (r2whole_any ((px - ax) * (px - ax) + (py - ay) * (py - ay)) Q0.out Q1.out _).mono ?_
  rw [HQR.out]
  rintro e w6 ⟨rfl, hb6⟩
  have hL5 : Below w0.heap.size w0 w6 := hL4.trans (hb6.mono hL4.size)
  obtain ⟨-, c5_0, c5_1, c5_2, c5_3, c5_4, c5_5⟩ := SK _ hL5
  go_wp2_with fail
  go_ret
  exact ⟨rfl, hb0.trans (hL5.mono hb0.size)⟩

set_option maxRecDepth 100000 in
set_option maxHeartbeats 2000000 in
theorem rfromseg_2 (w : World) (px py ax ay bx by_ : Int) (hpx : Co px) (hpy : Co py) (hax : Co ax) (hay : Co ay) (hbx : Co bx) (hby_ : Co by_) (hc1 : ¬ (bx - ax) * (px - ax) + (by_ - ay) * (py - ay) ≤ 0) (hc2 : 0 ≤ (bx - ax) * (px - bx) + (by_ - ay) * (py - by_)) :
    Calls Tryz.prog 94 #[.agg #[.int .i64 px, .int .i64 py], .agg #[.int .i64 ax, .int .i64 ay], .agg #[.int .i64 bx, .int .i64 by_]] w fun e w' => e = .returned (.string ⟨(RT ((((px - bx) * (px - bx) + (py - by_) * (py - by_) : Int) : Rat))).toArray⟩) ∧ Below w.heap.size w w' := by
  obtain ⟨m0a, m0b⟩ := mulB (x := px - bx) (y := px - bx) (M := 200000) (N := 200000) (by omega) (by omega)
  obtain ⟨m1a, m1b⟩ := mulB (x := py - by_) (y := py - by_) (M := 200000) (N := 200000) (by omega) (by omega)
  have Q0 := hide (p := -9223372036854775808 ≤ (px - bx) * (px - bx) + (py - by_) * (py - by_)) (by omega)
  have Q1 := hide (p := (px - bx) * (px - bx) + (py - by_) * (py - by_) ≤ 9223372036854775807) (by omega)
  clear m0a m0b m1a m1b
  generalize hqr : (((px - bx) * (px - bx) + (py - by_) * (py - by_) : Int) : Rat) = qr
  have HQR := hide hqr
  clear hqr
  have hd1 : decide ((bx - ax) * (px - ax) + (by_ - ay) * (py - ay) ≤ 0) = false := decide_eq_false hc1
  have hd2 : decide (0 ≤ (bx - ax) * (px - bx) + (by_ - ay) * (py - by_)) = true := decide_eq_true hc2
  go_enter Tryz.func94, Tryz.ntmps94
  go_upto_region 1 with (fail)
  have hb0 : Below w.heap.size w (((w.alloc (.cells #[.int .i64 px, .int .i64 py] 24)).alloc (.cells #[.int .i64 ax, .int .i64 ay] 24)).alloc (.cells #[.int .i64 bx, .int .i64 by_] 24)) := allocs_below w [(.cells #[.int .i64 px, .int .i64 py] 24), (.cells #[.int .i64 ax, .int .i64 ay] 24), (.cells #[.int .i64 bx, .int .i64 by_] 24)]
  have s0 : w.heap.size + 3 ≤ (((w.alloc (.cells #[.int .i64 px, .int .i64 py] 24)).alloc (.cells #[.int .i64 ax, .int .i64 ay] 24)).alloc (.cells #[.int .i64 bx, .int .i64 by_] 24)).heap.size := Nat.le_of_eq (allocs_size w [(.cells #[.int .i64 px, .int .i64 py] 24), (.cells #[.int .i64 ax, .int .i64 ay] 24), (.cells #[.int .i64 bx, .int .i64 by_] 24)]).symm
  have kb0 : (((w.alloc (.cells #[.int .i64 px, .int .i64 py] 24)).alloc (.cells #[.int .i64 ax, .int .i64 ay] 24)).alloc (.cells #[.int .i64 bx, .int .i64 by_] 24)).heap[w.heap.size + 0]? = some (.cells #[.int .i64 px, .int .i64 py] 24) := allocs_at w [(.cells #[.int .i64 px, .int .i64 py] 24), (.cells #[.int .i64 ax, .int .i64 ay] 24), (.cells #[.int .i64 bx, .int .i64 by_] 24)] 0 rfl
  have kb1 : (((w.alloc (.cells #[.int .i64 px, .int .i64 py] 24)).alloc (.cells #[.int .i64 ax, .int .i64 ay] 24)).alloc (.cells #[.int .i64 bx, .int .i64 by_] 24)).heap[w.heap.size + 1]? = some (.cells #[.int .i64 ax, .int .i64 ay] 24) := allocs_at w [(.cells #[.int .i64 px, .int .i64 py] 24), (.cells #[.int .i64 ax, .int .i64 ay] 24), (.cells #[.int .i64 bx, .int .i64 by_] 24)] 1 rfl
  have kb2 : (((w.alloc (.cells #[.int .i64 px, .int .i64 py] 24)).alloc (.cells #[.int .i64 ax, .int .i64 ay] 24)).alloc (.cells #[.int .i64 bx, .int .i64 by_] 24)).heap[w.heap.size + 2]? = some (.cells #[.int .i64 bx, .int .i64 by_] 24) := allocs_at w [(.cells #[.int .i64 px, .int .i64 py] 24), (.cells #[.int .i64 ax, .int .i64 ay] 24), (.cells #[.int .i64 bx, .int .i64 by_] 24)] 2 rfl
  generalize (((w.alloc (.cells #[.int .i64 px, .int .i64 py] 24)).alloc (.cells #[.int .i64 ax, .int .i64 ay] 24)).alloc (.cells #[.int .i64 bx, .int .i64 by_] 24)) = w0 at *
  have k0_0 : w0.cell? ⟨w.heap.size, 0, none⟩ = some (.int .i64 px) := (Blk.cell kb0 0).trans rfl
  have k0_1 : w0.cell? ⟨w.heap.size, 1, none⟩ = some (.int .i64 py) := (Blk.cell kb0 1).trans rfl
  have k1_0 : w0.cell? ⟨w.heap.size + 1, 0, none⟩ = some (.int .i64 ax) := (Blk.cell kb1 0).trans rfl
  have k1_1 : w0.cell? ⟨w.heap.size + 1, 1, none⟩ = some (.int .i64 ay) := (Blk.cell kb1 1).trans rfl
  have k2_0 : w0.cell? ⟨w.heap.size + 1 + 1, 0, none⟩ = some (.int .i64 bx) := (Blk.cell kb2 0).trans rfl
  have k2_1 : w0.cell? ⟨w.heap.size + 1 + 1, 1, none⟩ = some (.int .i64 by_) := (Blk.cell kb2 1).trans rfl
  clear kb0 kb1 kb2
  have SK : ∀ w', Below w0.heap.size w0 w' → Below w0.heap.size w0 w' ∧ w'.cell? ⟨w.heap.size, 0, none⟩ = some (.int .i64 px) ∧ w'.cell? ⟨w.heap.size, 1, none⟩ = some (.int .i64 py) ∧ w'.cell? ⟨w.heap.size + 1, 0, none⟩ = some (.int .i64 ax) ∧ w'.cell? ⟨w.heap.size + 1, 1, none⟩ = some (.int .i64 ay) ∧ w'.cell? ⟨w.heap.size + 1 + 1, 0, none⟩ = some (.int .i64 bx) ∧ w'.cell? ⟨w.heap.size + 1 + 1, 1, none⟩ = some (.int .i64 by_) := fun w' h => ⟨h, (bcell h _ _ (by omega)).trans k0_0, (bcell h _ _ (by omega)).trans k0_1, (bcell h _ _ (by omega)).trans k1_0, (bcell h _ _ (by omega)).trans k1_1, (bcell h _ _ (by omega)).trans k2_0, (bcell h _ _ (by omega)).trans k2_1⟩
  go_wp2_with fail
  refine (rminus_any _ bx by_ ax ay hbx hby_ hax hay).mono ?_
  rintro e w1 ⟨rfl, hb1⟩
  have hL1 : Below w0.heap.size w0 w1 := hb1
  obtain ⟨-, c1_0, c1_1, c1_2, c1_3, c1_4, c1_5⟩ := SK _ hL1
  go_upto_region 2 with (fail)
  have hL2 : Below w0.heap.size w0 (w1.alloc (.cells #[.int .i64 (bx - ax), .int .i64 (by_ - ay)] 24)) := hL1.alloc hL1.size _
  have hA2 := Blk.new w1 24 #[.int .i64 (bx - ax), .int .i64 (by_ - ay)]
  have sA2 : w1.heap.size < (w1.alloc (.cells #[.int .i64 (bx - ax), .int .i64 (by_ - ay)] 24)).heap.size := by simp
  have kA2_0 : (w1.alloc (.cells #[.int .i64 (bx - ax), .int .i64 (by_ - ay)] 24)).cell? ⟨w1.heap.size, 0, none⟩ = some (.int .i64 (bx - ax)) := (Blk.cell hA2 0).trans rfl
  have kA2_1 : (w1.alloc (.cells #[.int .i64 (bx - ax), .int .i64 (by_ - ay)] 24)).cell? ⟨w1.heap.size, 1, none⟩ = some (.int .i64 (by_ - ay)) := (Blk.cell hA2 1).trans rfl
  have fA2_0 : (w1.alloc (.cells #[.int .i64 (bx - ax), .int .i64 (by_ - ay)] 24)).frozen? ⟨w1.heap.size, 0, none⟩ = false := Blk.frozen hA2 0
  have fA2_1 : (w1.alloc (.cells #[.int .i64 (bx - ax), .int .i64 (by_ - ay)] 24)).frozen? ⟨w1.heap.size, 1, none⟩ = false := Blk.frozen hA2 1
  have gA2 : Below w1.heap.size w1 (w1.alloc (.cells #[.int .i64 (bx - ax), .int .i64 (by_ - ay)] 24)) := (Below.refl _ _).alloc (Nat.le_refl _) _
  generalize (w1.alloc (.cells #[.int .i64 (bx - ax), .int .i64 (by_ - ay)] 24)) = w2 at *
  have c2_0 := (bcell gA2 _ _ (block_lt_of_cell c1_0)).trans c1_0
  have c2_1 := (bcell gA2 _ _ (block_lt_of_cell c1_1)).trans c1_1
  have c2_2 := (bcell gA2 _ _ (block_lt_of_cell c1_2)).trans c1_2
  have c2_3 := (bcell gA2 _ _ (block_lt_of_cell c1_3)).trans c1_3
  have c2_4 := (bcell gA2 _ _ (block_lt_of_cell c1_4)).trans c1_4
  have c2_5 := (bcell gA2 _ _ (block_lt_of_cell c1_5)).trans c1_5
  have q2 : w0.heap.size ≤ w2.heap.size := hL2.size
  have SQ2 : ∀ w', Below w2.heap.size w2 w' → Below w2.heap.size w2 w' ∧ w'.cell? ⟨w.heap.size, 0, none⟩ = some (.int .i64 px) ∧ w'.cell? ⟨w.heap.size, 1, none⟩ = some (.int .i64 py) ∧ w'.cell? ⟨w.heap.size + 1, 0, none⟩ = some (.int .i64 ax) ∧ w'.cell? ⟨w.heap.size + 1, 1, none⟩ = some (.int .i64 ay) ∧ w'.cell? ⟨w.heap.size + 1 + 1, 0, none⟩ = some (.int .i64 bx) ∧ w'.cell? ⟨w.heap.size + 1 + 1, 1, none⟩ = some (.int .i64 by_) ∧ w'.cell? ⟨w1.heap.size, 0, none⟩ = some (.int .i64 (bx - ax)) ∧ w'.cell? ⟨w1.heap.size, 1, none⟩ = some (.int .i64 (by_ - ay)) := fun w' h => ⟨h, (bcell h _ _ (block_lt_of_cell c2_0)).trans c2_0, (bcell h _ _ (block_lt_of_cell c2_1)).trans c2_1, (bcell h _ _ (block_lt_of_cell c2_2)).trans c2_2, (bcell h _ _ (block_lt_of_cell c2_3)).trans c2_3, (bcell h _ _ (block_lt_of_cell c2_4)).trans c2_4, (bcell h _ _ (block_lt_of_cell c2_5)).trans c2_5, (bcell h _ _ (block_lt_of_cell kA2_0)).trans kA2_0, (bcell h _ _ (block_lt_of_cell kA2_1)).trans kA2_1⟩
  go_region_held3 (fun w' => Below w2.heap.size w2 w' ∧ w'.cell? ⟨w.heap.size, 0, none⟩ = some (.int .i64 px) ∧ w'.cell? ⟨w.heap.size, 1, none⟩ = some (.int .i64 py) ∧ w'.cell? ⟨w.heap.size + 1, 0, none⟩ = some (.int .i64 ax) ∧ w'.cell? ⟨w.heap.size + 1, 1, none⟩ = some (.int .i64 ay) ∧ w'.cell? ⟨w.heap.size + 1 + 1, 0, none⟩ = some (.int .i64 bx) ∧ w'.cell? ⟨w.heap.size + 1 + 1, 1, none⟩ = some (.int .i64 by_) ∧ w'.cell? ⟨w1.heap.size, 0, none⟩ = some (.int .i64 (bx - ax)) ∧ w'.cell? ⟨w1.heap.size, 1, none⟩ = some (.int .i64 (by_ - ay))) (first | exact SQ2 _ (Below.refl _ _).drew | exact SQ2 _ (bel_next (by assumption) (by assumption) (Nat.le_refl _)))
    (first
      | (go_at_call 128; refine (rminus_any _ px py ax ay hpx hpy hax hay).mono ?_; rintro e w3 ⟨rfl, hbW⟩)
      | (go_at_call 129; refine (rtimes_any _ (bx - ax) (by_ - ay) (px - ax) (py - ay) (by omega) (by omega) (by omega) (by omega)).mono ?_; rintro e w3 ⟨rfl, hbW⟩))
  obtain ⟨hH3, c3_0, c3_1, c3_2, c3_3, c3_4, c3_5, c3_6, c3_7⟩ : Below w2.heap.size w2 w3 ∧ w3.cell? ⟨w.heap.size, 0, none⟩ = some (.int .i64 px) ∧ w3.cell? ⟨w.heap.size, 1, none⟩ = some (.int .i64 py) ∧ w3.cell? ⟨w.heap.size + 1, 0, none⟩ = some (.int .i64 ax) ∧ w3.cell? ⟨w.heap.size + 1, 1, none⟩ = some (.int .i64 ay) ∧ w3.cell? ⟨w.heap.size + 1 + 1, 0, none⟩ = some (.int .i64 bx) ∧ w3.cell? ⟨w.heap.size + 1 + 1, 1, none⟩ = some (.int .i64 by_) ∧ w3.cell? ⟨w1.heap.size, 0, none⟩ = some (.int .i64 (bx - ax)) ∧ w3.cell? ⟨w1.heap.size, 1, none⟩ = some (.int .i64 (by_ - ay)) := by assumption
  have hL3 : Below w0.heap.size w0 w3 := hL2.trans (hH3.mono hL2.size)
  go_upto_region 4 with (fail)
  have q3 : w0.heap.size ≤ w3.heap.size := hL3.size
  have SQ3 : ∀ w', Below w3.heap.size w3 w' → Below w3.heap.size w3 w' ∧ w'.cell? ⟨w.heap.size, 0, none⟩ = some (.int .i64 px) ∧ w'.cell? ⟨w.heap.size, 1, none⟩ = some (.int .i64 py) ∧ w'.cell? ⟨w.heap.size + 1, 0, none⟩ = some (.int .i64 ax) ∧ w'.cell? ⟨w.heap.size + 1, 1, none⟩ = some (.int .i64 ay) ∧ w'.cell? ⟨w.heap.size + 1 + 1, 0, none⟩ = some (.int .i64 bx) ∧ w'.cell? ⟨w.heap.size + 1 + 1, 1, none⟩ = some (.int .i64 by_) ∧ w'.cell? ⟨w1.heap.size, 0, none⟩ = some (.int .i64 (bx - ax)) ∧ w'.cell? ⟨w1.heap.size, 1, none⟩ = some (.int .i64 (by_ - ay)) := fun w' h => ⟨h, (bcell h _ _ (block_lt_of_cell c3_0)).trans c3_0, (bcell h _ _ (block_lt_of_cell c3_1)).trans c3_1, (bcell h _ _ (block_lt_of_cell c3_2)).trans c3_2, (bcell h _ _ (block_lt_of_cell c3_3)).trans c3_3, (bcell h _ _ (block_lt_of_cell c3_4)).trans c3_4, (bcell h _ _ (block_lt_of_cell c3_5)).trans c3_5, (bcell h _ _ (block_lt_of_cell c3_6)).trans c3_6, (bcell h _ _ (block_lt_of_cell c3_7)).trans c3_7⟩
  go_region_held3 (fun w' => Below w3.heap.size w3 w' ∧ w'.cell? ⟨w.heap.size, 0, none⟩ = some (.int .i64 px) ∧ w'.cell? ⟨w.heap.size, 1, none⟩ = some (.int .i64 py) ∧ w'.cell? ⟨w.heap.size + 1, 0, none⟩ = some (.int .i64 ax) ∧ w'.cell? ⟨w.heap.size + 1, 1, none⟩ = some (.int .i64 ay) ∧ w'.cell? ⟨w.heap.size + 1 + 1, 0, none⟩ = some (.int .i64 bx) ∧ w'.cell? ⟨w.heap.size + 1 + 1, 1, none⟩ = some (.int .i64 by_) ∧ w'.cell? ⟨w1.heap.size, 0, none⟩ = some (.int .i64 (bx - ax)) ∧ w'.cell? ⟨w1.heap.size, 1, none⟩ = some (.int .i64 (by_ - ay))) (first | exact SQ3 _ (Below.refl _ _).drew | exact SQ3 _ (bel_next (by assumption) (by assumption) (Nat.le_refl _)))
    (first
      | (go_at_call 128; refine (rminus_any _ px py bx by_ hpx hpy hbx hby_).mono ?_; rintro e w4 ⟨rfl, hbW⟩)
      | (go_at_call 129; refine (rtimes_any _ (bx - ax) (by_ - ay) (px - bx) (py - by_) (by omega) (by omega) (by omega) (by omega)).mono ?_; rintro e w4 ⟨rfl, hbW⟩))
  obtain ⟨hH4, c4_0, c4_1, c4_2, c4_3, c4_4, c4_5, c4_6, c4_7⟩ : Below w3.heap.size w3 w4 ∧ w4.cell? ⟨w.heap.size, 0, none⟩ = some (.int .i64 px) ∧ w4.cell? ⟨w.heap.size, 1, none⟩ = some (.int .i64 py) ∧ w4.cell? ⟨w.heap.size + 1, 0, none⟩ = some (.int .i64 ax) ∧ w4.cell? ⟨w.heap.size + 1, 1, none⟩ = some (.int .i64 ay) ∧ w4.cell? ⟨w.heap.size + 1 + 1, 0, none⟩ = some (.int .i64 bx) ∧ w4.cell? ⟨w.heap.size + 1 + 1, 1, none⟩ = some (.int .i64 by_) ∧ w4.cell? ⟨w1.heap.size, 0, none⟩ = some (.int .i64 (bx - ax)) ∧ w4.cell? ⟨w1.heap.size, 1, none⟩ = some (.int .i64 (by_ - ay)) := by assumption
  have hL4 : Below w0.heap.size w0 w4 := hL3.trans (hH4.mono hL3.size)
  go_wp2_with fail
  refine (rfar_any _ px py bx by_ hpx hpy hbx hby_).mono ?_
  rintro e w5 ⟨rfl, hb5⟩
  have hL5 : Below w0.heap.size w0 w5 := hL4.trans (hb5.mono hL4.size)
  obtain ⟨-, c5_0, c5_1, c5_2, c5_3, c5_4, c5_5⟩ := SK _ hL5
  go_wp2_with fail
  refine (r2whole_any ((px - bx) * (px - bx) + (py - by_) * (py - by_)) Q0.out Q1.out _).mono ?_
  rw [HQR.out]
  rintro e w6 ⟨rfl, hb6⟩
  have hL6 : Below w0.heap.size w0 w6 := hL5.trans (hb6.mono hL5.size)
  obtain ⟨-, c6_0, c6_1, c6_2, c6_3, c6_4, c6_5⟩ := SK _ hL6
  go_wp2_with fail
  go_ret
  exact ⟨rfl, hb0.trans (hL6.mono hb0.size)⟩

set_option maxRecDepth 100000 in
set_option maxHeartbeats 2000000 in
theorem rfromseg_3 (w : World) (px py ax ay bx by_ : Int) (hpx : Co px) (hpy : Co py) (hax : Co ax) (hay : Co ay) (hbx : Co bx) (hby_ : Co by_) (hc1 : ¬ (bx - ax) * (px - ax) + (by_ - ay) * (py - ay) ≤ 0) (hc2 : ¬ 0 ≤ (bx - ax) * (px - bx) + (by_ - ay) * (py - by_)) (hne : (ax - bx) * (ax - bx) + (ay - by_) * (ay - by_) ≠ 0) :
    Calls Tryz.prog 94 #[.agg #[.int .i64 px, .int .i64 py], .agg #[.int .i64 ax, .int .i64 ay], .agg #[.int .i64 bx, .int .i64 by_]] w fun e w' => e = .returned (.string ⟨(RT (Rat.divInt (((bx - ax) * (py - ay) - (by_ - ay) * (px - ax)) * ((bx - ax) * (py - ay) - (by_ - ay) * (px - ax))) ((ax - bx) * (ax - bx) + (ay - by_) * (ay - by_)))).toArray⟩) ∧ Below w.heap.size w w' := by
  have D := hide hne
  clear hne
  have hd1 : decide ((bx - ax) * (px - ax) + (by_ - ay) * (py - ay) ≤ 0) = false := decide_eq_false hc1
  have hd2 : decide (0 ≤ (bx - ax) * (px - bx) + (by_ - ay) * (py - by_)) = false := decide_eq_false hc2
  go_enter Tryz.func94, Tryz.ntmps94
  go_upto_region 1 with (fail)
  have hb0 : Below w.heap.size w (((w.alloc (.cells #[.int .i64 px, .int .i64 py] 24)).alloc (.cells #[.int .i64 ax, .int .i64 ay] 24)).alloc (.cells #[.int .i64 bx, .int .i64 by_] 24)) := allocs_below w [(.cells #[.int .i64 px, .int .i64 py] 24), (.cells #[.int .i64 ax, .int .i64 ay] 24), (.cells #[.int .i64 bx, .int .i64 by_] 24)]
  have s0 : w.heap.size + 3 ≤ (((w.alloc (.cells #[.int .i64 px, .int .i64 py] 24)).alloc (.cells #[.int .i64 ax, .int .i64 ay] 24)).alloc (.cells #[.int .i64 bx, .int .i64 by_] 24)).heap.size := Nat.le_of_eq (allocs_size w [(.cells #[.int .i64 px, .int .i64 py] 24), (.cells #[.int .i64 ax, .int .i64 ay] 24), (.cells #[.int .i64 bx, .int .i64 by_] 24)]).symm
  have kb0 : (((w.alloc (.cells #[.int .i64 px, .int .i64 py] 24)).alloc (.cells #[.int .i64 ax, .int .i64 ay] 24)).alloc (.cells #[.int .i64 bx, .int .i64 by_] 24)).heap[w.heap.size + 0]? = some (.cells #[.int .i64 px, .int .i64 py] 24) := allocs_at w [(.cells #[.int .i64 px, .int .i64 py] 24), (.cells #[.int .i64 ax, .int .i64 ay] 24), (.cells #[.int .i64 bx, .int .i64 by_] 24)] 0 rfl
  have kb1 : (((w.alloc (.cells #[.int .i64 px, .int .i64 py] 24)).alloc (.cells #[.int .i64 ax, .int .i64 ay] 24)).alloc (.cells #[.int .i64 bx, .int .i64 by_] 24)).heap[w.heap.size + 1]? = some (.cells #[.int .i64 ax, .int .i64 ay] 24) := allocs_at w [(.cells #[.int .i64 px, .int .i64 py] 24), (.cells #[.int .i64 ax, .int .i64 ay] 24), (.cells #[.int .i64 bx, .int .i64 by_] 24)] 1 rfl
  have kb2 : (((w.alloc (.cells #[.int .i64 px, .int .i64 py] 24)).alloc (.cells #[.int .i64 ax, .int .i64 ay] 24)).alloc (.cells #[.int .i64 bx, .int .i64 by_] 24)).heap[w.heap.size + 2]? = some (.cells #[.int .i64 bx, .int .i64 by_] 24) := allocs_at w [(.cells #[.int .i64 px, .int .i64 py] 24), (.cells #[.int .i64 ax, .int .i64 ay] 24), (.cells #[.int .i64 bx, .int .i64 by_] 24)] 2 rfl
  generalize (((w.alloc (.cells #[.int .i64 px, .int .i64 py] 24)).alloc (.cells #[.int .i64 ax, .int .i64 ay] 24)).alloc (.cells #[.int .i64 bx, .int .i64 by_] 24)) = w0 at *
  have k0_0 : w0.cell? ⟨w.heap.size, 0, none⟩ = some (.int .i64 px) := (Blk.cell kb0 0).trans rfl
  have k0_1 : w0.cell? ⟨w.heap.size, 1, none⟩ = some (.int .i64 py) := (Blk.cell kb0 1).trans rfl
  have k1_0 : w0.cell? ⟨w.heap.size + 1, 0, none⟩ = some (.int .i64 ax) := (Blk.cell kb1 0).trans rfl
  have k1_1 : w0.cell? ⟨w.heap.size + 1, 1, none⟩ = some (.int .i64 ay) := (Blk.cell kb1 1).trans rfl
  have k2_0 : w0.cell? ⟨w.heap.size + 1 + 1, 0, none⟩ = some (.int .i64 bx) := (Blk.cell kb2 0).trans rfl
  have k2_1 : w0.cell? ⟨w.heap.size + 1 + 1, 1, none⟩ = some (.int .i64 by_) := (Blk.cell kb2 1).trans rfl
  clear kb0 kb1 kb2
  have SK : ∀ w', Below w0.heap.size w0 w' → Below w0.heap.size w0 w' ∧ w'.cell? ⟨w.heap.size, 0, none⟩ = some (.int .i64 px) ∧ w'.cell? ⟨w.heap.size, 1, none⟩ = some (.int .i64 py) ∧ w'.cell? ⟨w.heap.size + 1, 0, none⟩ = some (.int .i64 ax) ∧ w'.cell? ⟨w.heap.size + 1, 1, none⟩ = some (.int .i64 ay) ∧ w'.cell? ⟨w.heap.size + 1 + 1, 0, none⟩ = some (.int .i64 bx) ∧ w'.cell? ⟨w.heap.size + 1 + 1, 1, none⟩ = some (.int .i64 by_) := fun w' h => ⟨h, (bcell h _ _ (by omega)).trans k0_0, (bcell h _ _ (by omega)).trans k0_1, (bcell h _ _ (by omega)).trans k1_0, (bcell h _ _ (by omega)).trans k1_1, (bcell h _ _ (by omega)).trans k2_0, (bcell h _ _ (by omega)).trans k2_1⟩
  go_wp2_with fail
  refine (rminus_any _ bx by_ ax ay hbx hby_ hax hay).mono ?_
  rintro e w1 ⟨rfl, hb1⟩
  have hL1 : Below w0.heap.size w0 w1 := hb1
  obtain ⟨-, c1_0, c1_1, c1_2, c1_3, c1_4, c1_5⟩ := SK _ hL1
  go_upto_region 2 with (fail)
  have hL2 : Below w0.heap.size w0 (w1.alloc (.cells #[.int .i64 (bx - ax), .int .i64 (by_ - ay)] 24)) := hL1.alloc hL1.size _
  have hA2 := Blk.new w1 24 #[.int .i64 (bx - ax), .int .i64 (by_ - ay)]
  have sA2 : w1.heap.size < (w1.alloc (.cells #[.int .i64 (bx - ax), .int .i64 (by_ - ay)] 24)).heap.size := by simp
  have kA2_0 : (w1.alloc (.cells #[.int .i64 (bx - ax), .int .i64 (by_ - ay)] 24)).cell? ⟨w1.heap.size, 0, none⟩ = some (.int .i64 (bx - ax)) := (Blk.cell hA2 0).trans rfl
  have kA2_1 : (w1.alloc (.cells #[.int .i64 (bx - ax), .int .i64 (by_ - ay)] 24)).cell? ⟨w1.heap.size, 1, none⟩ = some (.int .i64 (by_ - ay)) := (Blk.cell hA2 1).trans rfl
  have fA2_0 : (w1.alloc (.cells #[.int .i64 (bx - ax), .int .i64 (by_ - ay)] 24)).frozen? ⟨w1.heap.size, 0, none⟩ = false := Blk.frozen hA2 0
  have fA2_1 : (w1.alloc (.cells #[.int .i64 (bx - ax), .int .i64 (by_ - ay)] 24)).frozen? ⟨w1.heap.size, 1, none⟩ = false := Blk.frozen hA2 1
  have gA2 : Below w1.heap.size w1 (w1.alloc (.cells #[.int .i64 (bx - ax), .int .i64 (by_ - ay)] 24)) := (Below.refl _ _).alloc (Nat.le_refl _) _
  generalize (w1.alloc (.cells #[.int .i64 (bx - ax), .int .i64 (by_ - ay)] 24)) = w2 at *
  have c2_0 := (bcell gA2 _ _ (block_lt_of_cell c1_0)).trans c1_0
  have c2_1 := (bcell gA2 _ _ (block_lt_of_cell c1_1)).trans c1_1
  have c2_2 := (bcell gA2 _ _ (block_lt_of_cell c1_2)).trans c1_2
  have c2_3 := (bcell gA2 _ _ (block_lt_of_cell c1_3)).trans c1_3
  have c2_4 := (bcell gA2 _ _ (block_lt_of_cell c1_4)).trans c1_4
  have c2_5 := (bcell gA2 _ _ (block_lt_of_cell c1_5)).trans c1_5
  have q2 : w0.heap.size ≤ w2.heap.size := hL2.size
  have SQ2 : ∀ w', Below w2.heap.size w2 w' → Below w2.heap.size w2 w' ∧ w'.cell? ⟨w.heap.size, 0, none⟩ = some (.int .i64 px) ∧ w'.cell? ⟨w.heap.size, 1, none⟩ = some (.int .i64 py) ∧ w'.cell? ⟨w.heap.size + 1, 0, none⟩ = some (.int .i64 ax) ∧ w'.cell? ⟨w.heap.size + 1, 1, none⟩ = some (.int .i64 ay) ∧ w'.cell? ⟨w.heap.size + 1 + 1, 0, none⟩ = some (.int .i64 bx) ∧ w'.cell? ⟨w.heap.size + 1 + 1, 1, none⟩ = some (.int .i64 by_) ∧ w'.cell? ⟨w1.heap.size, 0, none⟩ = some (.int .i64 (bx - ax)) ∧ w'.cell? ⟨w1.heap.size, 1, none⟩ = some (.int .i64 (by_ - ay)) := fun w' h => ⟨h, (bcell h _ _ (block_lt_of_cell c2_0)).trans c2_0, (bcell h _ _ (block_lt_of_cell c2_1)).trans c2_1, (bcell h _ _ (block_lt_of_cell c2_2)).trans c2_2, (bcell h _ _ (block_lt_of_cell c2_3)).trans c2_3, (bcell h _ _ (block_lt_of_cell c2_4)).trans c2_4, (bcell h _ _ (block_lt_of_cell c2_5)).trans c2_5, (bcell h _ _ (block_lt_of_cell kA2_0)).trans kA2_0, (bcell h _ _ (block_lt_of_cell kA2_1)).trans kA2_1⟩
  go_region_held3 (fun w' => Below w2.heap.size w2 w' ∧ w'.cell? ⟨w.heap.size, 0, none⟩ = some (.int .i64 px) ∧ w'.cell? ⟨w.heap.size, 1, none⟩ = some (.int .i64 py) ∧ w'.cell? ⟨w.heap.size + 1, 0, none⟩ = some (.int .i64 ax) ∧ w'.cell? ⟨w.heap.size + 1, 1, none⟩ = some (.int .i64 ay) ∧ w'.cell? ⟨w.heap.size + 1 + 1, 0, none⟩ = some (.int .i64 bx) ∧ w'.cell? ⟨w.heap.size + 1 + 1, 1, none⟩ = some (.int .i64 by_) ∧ w'.cell? ⟨w1.heap.size, 0, none⟩ = some (.int .i64 (bx - ax)) ∧ w'.cell? ⟨w1.heap.size, 1, none⟩ = some (.int .i64 (by_ - ay))) (first | exact SQ2 _ (Below.refl _ _).drew | exact SQ2 _ (bel_next (by assumption) (by assumption) (Nat.le_refl _)))
    (first
      | (go_at_call 128; refine (rminus_any _ px py ax ay hpx hpy hax hay).mono ?_; rintro e w3 ⟨rfl, hbW⟩)
      | (go_at_call 129; refine (rtimes_any _ (bx - ax) (by_ - ay) (px - ax) (py - ay) (by omega) (by omega) (by omega) (by omega)).mono ?_; rintro e w3 ⟨rfl, hbW⟩))
  obtain ⟨hH3, c3_0, c3_1, c3_2, c3_3, c3_4, c3_5, c3_6, c3_7⟩ : Below w2.heap.size w2 w3 ∧ w3.cell? ⟨w.heap.size, 0, none⟩ = some (.int .i64 px) ∧ w3.cell? ⟨w.heap.size, 1, none⟩ = some (.int .i64 py) ∧ w3.cell? ⟨w.heap.size + 1, 0, none⟩ = some (.int .i64 ax) ∧ w3.cell? ⟨w.heap.size + 1, 1, none⟩ = some (.int .i64 ay) ∧ w3.cell? ⟨w.heap.size + 1 + 1, 0, none⟩ = some (.int .i64 bx) ∧ w3.cell? ⟨w.heap.size + 1 + 1, 1, none⟩ = some (.int .i64 by_) ∧ w3.cell? ⟨w1.heap.size, 0, none⟩ = some (.int .i64 (bx - ax)) ∧ w3.cell? ⟨w1.heap.size, 1, none⟩ = some (.int .i64 (by_ - ay)) := by assumption
  have hL3 : Below w0.heap.size w0 w3 := hL2.trans (hH3.mono hL2.size)
  go_upto_region 4 with (fail)
  have q3 : w0.heap.size ≤ w3.heap.size := hL3.size
  have SQ3 : ∀ w', Below w3.heap.size w3 w' → Below w3.heap.size w3 w' ∧ w'.cell? ⟨w.heap.size, 0, none⟩ = some (.int .i64 px) ∧ w'.cell? ⟨w.heap.size, 1, none⟩ = some (.int .i64 py) ∧ w'.cell? ⟨w.heap.size + 1, 0, none⟩ = some (.int .i64 ax) ∧ w'.cell? ⟨w.heap.size + 1, 1, none⟩ = some (.int .i64 ay) ∧ w'.cell? ⟨w.heap.size + 1 + 1, 0, none⟩ = some (.int .i64 bx) ∧ w'.cell? ⟨w.heap.size + 1 + 1, 1, none⟩ = some (.int .i64 by_) ∧ w'.cell? ⟨w1.heap.size, 0, none⟩ = some (.int .i64 (bx - ax)) ∧ w'.cell? ⟨w1.heap.size, 1, none⟩ = some (.int .i64 (by_ - ay)) := fun w' h => ⟨h, (bcell h _ _ (block_lt_of_cell c3_0)).trans c3_0, (bcell h _ _ (block_lt_of_cell c3_1)).trans c3_1, (bcell h _ _ (block_lt_of_cell c3_2)).trans c3_2, (bcell h _ _ (block_lt_of_cell c3_3)).trans c3_3, (bcell h _ _ (block_lt_of_cell c3_4)).trans c3_4, (bcell h _ _ (block_lt_of_cell c3_5)).trans c3_5, (bcell h _ _ (block_lt_of_cell c3_6)).trans c3_6, (bcell h _ _ (block_lt_of_cell c3_7)).trans c3_7⟩
  go_region_held3 (fun w' => Below w3.heap.size w3 w' ∧ w'.cell? ⟨w.heap.size, 0, none⟩ = some (.int .i64 px) ∧ w'.cell? ⟨w.heap.size, 1, none⟩ = some (.int .i64 py) ∧ w'.cell? ⟨w.heap.size + 1, 0, none⟩ = some (.int .i64 ax) ∧ w'.cell? ⟨w.heap.size + 1, 1, none⟩ = some (.int .i64 ay) ∧ w'.cell? ⟨w.heap.size + 1 + 1, 0, none⟩ = some (.int .i64 bx) ∧ w'.cell? ⟨w.heap.size + 1 + 1, 1, none⟩ = some (.int .i64 by_) ∧ w'.cell? ⟨w1.heap.size, 0, none⟩ = some (.int .i64 (bx - ax)) ∧ w'.cell? ⟨w1.heap.size, 1, none⟩ = some (.int .i64 (by_ - ay))) (first | exact SQ3 _ (Below.refl _ _).drew | exact SQ3 _ (bel_next (by assumption) (by assumption) (Nat.le_refl _)))
    (first
      | (go_at_call 128; refine (rminus_any _ px py bx by_ hpx hpy hbx hby_).mono ?_; rintro e w4 ⟨rfl, hbW⟩)
      | (go_at_call 129; refine (rtimes_any _ (bx - ax) (by_ - ay) (px - bx) (py - by_) (by omega) (by omega) (by omega) (by omega)).mono ?_; rintro e w4 ⟨rfl, hbW⟩))
  obtain ⟨hH4, c4_0, c4_1, c4_2, c4_3, c4_4, c4_5, c4_6, c4_7⟩ : Below w3.heap.size w3 w4 ∧ w4.cell? ⟨w.heap.size, 0, none⟩ = some (.int .i64 px) ∧ w4.cell? ⟨w.heap.size, 1, none⟩ = some (.int .i64 py) ∧ w4.cell? ⟨w.heap.size + 1, 0, none⟩ = some (.int .i64 ax) ∧ w4.cell? ⟨w.heap.size + 1, 1, none⟩ = some (.int .i64 ay) ∧ w4.cell? ⟨w.heap.size + 1 + 1, 0, none⟩ = some (.int .i64 bx) ∧ w4.cell? ⟨w.heap.size + 1 + 1, 1, none⟩ = some (.int .i64 by_) ∧ w4.cell? ⟨w1.heap.size, 0, none⟩ = some (.int .i64 (bx - ax)) ∧ w4.cell? ⟨w1.heap.size, 1, none⟩ = some (.int .i64 (by_ - ay)) := by assumption
  have hL4 : Below w0.heap.size w0 w4 := hL3.trans (hH4.mono hL3.size)
  go_wp2_with fail
  refine (rfromline_any _ px py ax ay bx by_ hpx hpy hax hay hbx hby_ D.out).mono ?_
  rintro e w6 ⟨rfl, hb6⟩
  have hL5 : Below w0.heap.size w0 w6 := hL4.trans (hb6.mono hL4.size)
  obtain ⟨-, c5_0, c5_1, c5_2, c5_3, c5_4, c5_5⟩ := SK _ hL5
  go_wp2_with fail
  go_ret
  exact ⟨rfl, hb0.trans (hL5.mono hb0.size)⟩

/-- The distance from a segment, for right points. -/
def segV (px py ax ay bx by_ : Int) : Rat :=
  if (bx - ax) * (px - ax) + (by_ - ay) * (py - ay) ≤ 0 then (((px - ax) * (px - ax) + (py - ay) * (py - ay) : Int) : Rat) else if 0 ≤ (bx - ax) * (px - bx) + (by_ - ay) * (py - by_) then (((px - bx) * (px - bx) + (py - by_) * (py - by_) : Int) : Rat) else Rat.divInt (((bx - ax) * (py - ay) - (by_ - ay) * (px - ax)) * ((bx - ax) * (py - ay) - (by_ - ay) * (px - ax))) ((ax - bx) * (ax - bx) + (ay - by_) * (ay - by_))

theorem rfromseg_any (w : World) (px py ax ay bx by_ : Int) (hpx : Co px) (hpy : Co py) (hax : Co ax) (hay : Co ay) (hbx : Co bx) (hby_ : Co by_) :
    Calls Tryz.prog 94 #[.agg #[.int .i64 px, .int .i64 py], .agg #[.int .i64 ax, .int .i64 ay], .agg #[.int .i64 bx, .int .i64 by_]] w fun e w' => e = .returned (.string ⟨(RT (segV px py ax ay bx by_)).toArray⟩) ∧ Below w.heap.size w w' := by
  unfold segV
  by_cases h1 : (bx - ax) * (px - ax) + (by_ - ay) * (py - ay) ≤ 0
  · rw [if_pos h1]; exact rfromseg_1 w px py ax ay bx by_ hpx hpy hax hay hbx hby_ h1
  · rw [if_neg h1]
    by_cases h2 : 0 ≤ (bx - ax) * (px - bx) + (by_ - ay) * (py - by_)
    · rw [if_pos h2]; exact rfromseg_2 w px py ax ay bx by_ hpx hpy hax hay hbx hby_ h1 h2
    · rw [if_neg h2]
      refine rfromseg_3 w px py ax ay bx by_ hpx hpy hax hay hbx hby_ h1 h2 ?_
      have hV : (bx - ax) * (px - ax) + (by_ - ay) * (py - ay) = (bx - ax) * (px - bx) + (by_ - ay) * (py - by_) + ((ax - bx) * (ax - bx) + (ay - by_) * (ay - by_)) := by grind
      have s1 := sq_nn (ax - bx)
      have s2 := sq_nn (ay - by_)
      omega

theorem segR_V (px py ax ay bx by_ : Int) (hok : Co px ∧ Co py ∧ Co ax ∧ Co ay ∧ Co bx ∧ Co by_) : segR px py ax ay bx by_ = .ok (segV px py ax ay bx by_) := by
  have hV : (bx - ax) * (px - ax) + (by_ - ay) * (py - ay) = (bx - ax) * (px - bx) + (by_ - ay) * (py - by_) + ((bx - ax) * (bx - ax) + (by_ - ay) * (by_ - ay)) := by grind
  have hF : (ax - bx) * (ax - bx) + (ay - by_) * (ay - by_) = (bx - ax) * (bx - ax) + (by_ - ay) * (by_ - ay) := by grind
  have s1 := sq_nn (bx - ax)
  have s2 := sq_nn (by_ - ay)
  rw [segR, if_pos hok, segV]
  by_cases h1 : (bx - ax) * (px - ax) + (by_ - ay) * (py - ay) ≤ 0
  · rw [if_pos h1]
    by_cases h2 : 0 < (bx - ax) * (px - bx) + (by_ - ay) * (py - by_)
    · omega
    · rw [if_neg h2, if_pos h1]
  · rw [if_neg h1]
    by_cases h2 : 0 < (bx - ax) * (px - bx) + (by_ - ay) * (py - by_)
    · rw [if_pos h2, if_neg h1, if_pos (by omega)]
    · rw [if_neg h2, if_neg h1, lineR, if_pos hok]
      have hne : ¬ (ax = bx ∧ ay = by_) := by
        rintro ⟨rfl, rfl⟩
        exact h1 (by simp)
      rw [if_neg hne]
      by_cases h3 : 0 ≤ (bx - ax) * (px - bx) + (by_ - ay) * (py - by_)
      · rw [if_pos h3]
        -- the foot is b: both ways give the same number
        have h4 : (bx - ax) * (px - bx) + (by_ - ay) * (py - by_) = 0 := by omega
        have h5 : ((bx - ax) * (py - ay) - (by_ - ay) * (px - ax)) * ((bx - ax) * (py - ay) - (by_ - ay) * (px - ax)) = ((px - bx) * (px - bx) + (py - by_) * (py - by_)) * ((bx - ax) * (bx - ax) + (by_ - ay) * (by_ - ay)) := by
          have e : ((bx - ax) * (py - ay) - (by_ - ay) * (px - ax)) * ((bx - ax) * (py - ay) - (by_ - ay) * (px - ax)) + ((bx - ax) * (px - bx) + (by_ - ay) * (py - by_)) * ((bx - ax) * (px - bx) + (by_ - ay) * (py - by_)) = ((px - bx) * (px - bx) + (py - by_) * (py - by_)) * ((bx - ax) * (bx - ax) + (by_ - ay) * (by_ - ay)) := by grind
          rw [h4] at e; omega
        have hd : (bx - ax) * (bx - ax) + (by_ - ay) * (by_ - ay) ≠ 0 := by
          rcases Int.lt_trichotomy (bx - ax) 0 with h | h | h
          · have := sq_pos (a := bx - ax) (by omega); omega
          · have h6 : by_ - ay ≠ 0 := fun h6 => hne ⟨by omega, by omega⟩
            have := sq_pos h6; omega
          · have := sq_pos (a := bx - ax) (by omega); omega
        rw [h5, Rat.divInt_eq_div, Rat.intCast_mul, Rat.mul_div_cancel (by rw [Ne, ← Rat.intCast_zero, Rat.intCast_inj]; exact hd)]
      · rw [if_neg h3, hF]

end Go.Proofs.YtendaaghmeoddaaGreatDoor
