/- vector: squared, ToLine, ToSegment, ToPlane. -/
import Derived.Test.YtendaaghmeoddaaGreatDoorPub2
import Derived.Test.YtendaaghmeoddaaGreatDoorRatio
namespace Go.Proofs.YtendaaghmeoddaaGreatDoor
open Go.RowKit MLab


/-- A rational text, or an error number. -/
def RR : Except Int Rat → Value
  | .ok q => .tuple #[.string ⟨(RT q).toArray⟩, .int .i64 0]
  | .error e => .tuple #[.string ⟨#[]⟩, .int .i64 e]

theorem pow_le_big {k : Nat} (h : k ≤ 1024) : 10 ^ k ≤ Big := by
  unfold Big
  generalize 1024 = m at *
  exact Nat.pow_le_pow_right (by omega) h

theorem sq_big {n : Int} (h : n.natAbs ≤ 100000000000000000) : (n * n).natAbs < Big := by
  rw [Int.natAbs_mul]
  have h1 : n.natAbs * n.natAbs ≤ 100000000000000000 * 100000000000000000 := Nat.mul_le_mul h h
  have h2 : (10 : Nat) ^ 35 ≤ Big := pow_le_big (k := 35) (by omega)
  generalize Big = g at *
  exact Nat.lt_of_le_of_lt h1 (Nat.lt_of_lt_of_le (by decide) h2)
theorem sq_pos {a : Int} (h : a ≠ 0) : 0 < a * a := by
  rcases Int.lt_trichotomy a 0 with h1 | h1 | h1
  · exact Int.mul_pos_of_neg_of_neg h1 h1
  · exact absurd h1 h
  · exact Int.mul_pos h1 h1
theorem sq_nn (a : Int) : 0 ≤ a * a := by
  by_cases h : a = 0
  · subst h; decide
  · exact Int.le_of_lt (sq_pos h)

set_option maxRecDepth 100000 in
set_option maxHeartbeats 1000000 in
theorem squared_any (w : World) (n : Int) (t : ByteArray) (y : Int) (hn : n.natAbs ≤ 100000000000000000) (ht : t.data.toList = T y) (hy : y ≠ 0) (hb : y.natAbs < Big) (hs : Std w) :
    Calls Tryz.prog 155 #[.int .i64 n, .string t] w fun e w' => e = .returned (RR (.ok (Rat.divInt (n * n) y))) ∧ Below w.heap.size w w' := by
  have hB := sq_big hn
  have HB := hide hB
  have HN := hide hn
  have HT := hide ht
  have HY := hide hy
  have HYB := hide hb
  have HS := hide hs
  clear hB hn ht hy hb hs
  go_enter Tryz.func155, Tryz.ntmps155
  go_wp2_with fail
  refine (of_any n (by have := HN.out; omega) (by have := HN.out; omega) w HS.out).mono ?_
  rintro e w1 ⟨rfl, hb1⟩
  have K1 := hide hb1
  clear hb1
  have hnb : n.natAbs < Big := small_big (by have := HN.out; omega) (by have := HN.out; omega)
  have HNB := hide hnb
  clear hnb
  go_wp2_with fail
  refine (mul_any _ _ _ n n ⟨rfl, rfl, HNB.out, HNB.out⟩ (HS.out.below K1.out (Nat.le_refl _))).mono ?_
  rintro e w2 ⟨he, hb2⟩
  rw [RetLim, lim_ok HB.out] at he
  subst he
  have K2 := hide (K1.out.trans (hb2.mono K1.out.size))
  clear hb2
  go_wp2_with fail
  refine (make_any _ _ _ (n * n) y ⟨rfl, HT.out, HB.out, HYB.out⟩ HY.out (HS.out.below K2.out (Nat.le_refl _))).mono ?_
  rintro e w3 ⟨he, hb3⟩
  rw [RetRat] at he
  subst he
  have K3 := hide (K2.out.trans (hb3.mono K2.out.size))
  clear hb3
  go_wp2_with fail
  go_ret2
  exact ⟨rfl, K3.out⟩

/-- What ToLine returns. -/
def lineR (px py ax ay bx by_ : Int) : Except Int Rat :=
  if Co px ∧ Co py ∧ Co ax ∧ Co ay ∧ Co bx ∧ Co by_ then (if ax = bx ∧ ay = by_ then .error 10 else .ok (Rat.divInt (((bx - ax) * (py - ay) - (by_ - ay) * (px - ax)) * ((bx - ax) * (py - ay) - (by_ - ay) * (px - ax))) ((bx - ax) * (bx - ax) + (by_ - ay) * (by_ - ay)))) else .error 2

set_option maxRecDepth 100000 in
set_option maxHeartbeats 1000000 in
theorem ToLine_any (w : World) (px py ax ay bx by_ : Int) (hs : Std w) :
    Calls Tryz.prog 127 #[.agg #[.int .i64 px, .int .i64 py], .agg #[.int .i64 ax, .int .i64 ay], .agg #[.int .i64 bx, .int .i64 by_]] w fun e w' => e = .returned (RR (lineR px py ax ay bx by_)) ∧ Below w.heap.size w w' := by
  have HS := hide hs
  clear hs
  by_cases hok : Co px ∧ Co py ∧ Co ax ∧ Co ay ∧ Co bx ∧ Co by_
  · have hchk : chkPts [(px, py), (ax, ay), (bx, by_)] = 0 := by simp [chkPts, okPts, hok]
    obtain ⟨hpx, hpy, hax, hay, hbx, hby_⟩ := id hok
    rw [lineR, if_pos hok]
    by_cases heq : ax = bx ∧ ay = by_
    · rw [if_pos heq]
      obtain ⟨rfl, rfl⟩ := heq
      go_enter Tryz.func127, Tryz.ntmps127
      go_upto_region 1 with (fail)
      have hb0 : Below w.heap.size w (((w.alloc (.cells #[.int .i64 px, .int .i64 py] 24)).alloc (.cells #[.int .i64 ax, .int .i64 ay] 24)).alloc (.cells #[.int .i64 ax, .int .i64 ay] 24)) := allocs_below w [(.cells #[.int .i64 px, .int .i64 py] 24), (.cells #[.int .i64 ax, .int .i64 ay] 24), (.cells #[.int .i64 ax, .int .i64 ay] 24)]
      have s0 : w.heap.size + 3 ≤ (((w.alloc (.cells #[.int .i64 px, .int .i64 py] 24)).alloc (.cells #[.int .i64 ax, .int .i64 ay] 24)).alloc (.cells #[.int .i64 ax, .int .i64 ay] 24)).heap.size := Nat.le_of_eq (allocs_size w [(.cells #[.int .i64 px, .int .i64 py] 24), (.cells #[.int .i64 ax, .int .i64 ay] 24), (.cells #[.int .i64 ax, .int .i64 ay] 24)]).symm
      have kb0 : (((w.alloc (.cells #[.int .i64 px, .int .i64 py] 24)).alloc (.cells #[.int .i64 ax, .int .i64 ay] 24)).alloc (.cells #[.int .i64 ax, .int .i64 ay] 24)).heap[w.heap.size + 0]? = some (.cells #[.int .i64 px, .int .i64 py] 24) := allocs_at w [(.cells #[.int .i64 px, .int .i64 py] 24), (.cells #[.int .i64 ax, .int .i64 ay] 24), (.cells #[.int .i64 ax, .int .i64 ay] 24)] 0 rfl
      have kb1 : (((w.alloc (.cells #[.int .i64 px, .int .i64 py] 24)).alloc (.cells #[.int .i64 ax, .int .i64 ay] 24)).alloc (.cells #[.int .i64 ax, .int .i64 ay] 24)).heap[w.heap.size + 1]? = some (.cells #[.int .i64 ax, .int .i64 ay] 24) := allocs_at w [(.cells #[.int .i64 px, .int .i64 py] 24), (.cells #[.int .i64 ax, .int .i64 ay] 24), (.cells #[.int .i64 ax, .int .i64 ay] 24)] 1 rfl
      have kb2 : (((w.alloc (.cells #[.int .i64 px, .int .i64 py] 24)).alloc (.cells #[.int .i64 ax, .int .i64 ay] 24)).alloc (.cells #[.int .i64 ax, .int .i64 ay] 24)).heap[w.heap.size + 2]? = some (.cells #[.int .i64 ax, .int .i64 ay] 24) := allocs_at w [(.cells #[.int .i64 px, .int .i64 py] 24), (.cells #[.int .i64 ax, .int .i64 ay] 24), (.cells #[.int .i64 ax, .int .i64 ay] 24)] 2 rfl
      generalize (((w.alloc (.cells #[.int .i64 px, .int .i64 py] 24)).alloc (.cells #[.int .i64 ax, .int .i64 ay] 24)).alloc (.cells #[.int .i64 ax, .int .i64 ay] 24)) = w0 at *
      have k0_0 : w0.cell? ⟨w.heap.size, 0, none⟩ = some (.int .i64 px) := (Blk.cell kb0 0).trans rfl
      have k0_1 : w0.cell? ⟨w.heap.size, 1, none⟩ = some (.int .i64 py) := (Blk.cell kb0 1).trans rfl
      have k1_0 : w0.cell? ⟨w.heap.size + 1, 0, none⟩ = some (.int .i64 ax) := (Blk.cell kb1 0).trans rfl
      have k1_1 : w0.cell? ⟨w.heap.size + 1, 1, none⟩ = some (.int .i64 ay) := (Blk.cell kb1 1).trans rfl
      have k2_0 : w0.cell? ⟨w.heap.size + 1 + 1, 0, none⟩ = some (.int .i64 ax) := (Blk.cell kb2 0).trans rfl
      have k2_1 : w0.cell? ⟨w.heap.size + 1 + 1, 1, none⟩ = some (.int .i64 ay) := (Blk.cell kb2 1).trans rfl
      clear kb0 kb1 kb2
      have SK : ∀ w', Below w0.heap.size w0 w' → Below w0.heap.size w0 w' ∧ w'.cell? ⟨w.heap.size, 0, none⟩ = some (.int .i64 px) ∧ w'.cell? ⟨w.heap.size, 1, none⟩ = some (.int .i64 py) ∧ w'.cell? ⟨w.heap.size + 1, 0, none⟩ = some (.int .i64 ax) ∧ w'.cell? ⟨w.heap.size + 1, 1, none⟩ = some (.int .i64 ay) ∧ w'.cell? ⟨w.heap.size + 1 + 1, 0, none⟩ = some (.int .i64 ax) ∧ w'.cell? ⟨w.heap.size + 1 + 1, 1, none⟩ = some (.int .i64 ay) := fun w' h => ⟨h, (bcell h _ _ (by omega)).trans k0_0, (bcell h _ _ (by omega)).trans k0_1, (bcell h _ _ (by omega)).trans k1_0, (bcell h _ _ (by omega)).trans k1_1, (bcell h _ _ (by omega)).trans k2_0, (bcell h _ _ (by omega)).trans k2_1⟩
      go_wp2_with fail
      refine (allp_any _ _ [(px, py), (ax, ay), (ax, ay)] (Pts3 w0 (px, py) (ax, ay) (ax, ay) _ _) (by simp)).mono ?_
      rintro e w1 ⟨rfl, hb1⟩
      have hb1' := (allocs_below w0 [_]).trans (hb1.mono (by simp))
      rw [hchk]
      have hL1 : Below w0.heap.size w0 w1 := hb1'
      obtain ⟨-, c1_0, c1_1, c1_2, c1_3, c1_4, c1_5⟩ := SK _ hL1
      go_wp2_with fail
      go_ret2
      exact ⟨rfl, hb0.trans (hL1.mono hb0.size)⟩
    · rw [if_neg heq]
      by_cases heq1 : ax = bx
      · have heq2 : ¬ ay = by_ := fun h => heq ⟨heq1, h⟩
        have hsq := sq_pos (a := by_ - ay) (by omega)
        have hnn := sq_nn (bx - ax)
        have hq1 := eq_true heq1
        clear heq hok heq1
        obtain ⟨m0a, m0b⟩ := mulB (x := bx - ax) (y := py - ay) (M := 200000) (N := 200000) (by omega) (by omega)
        obtain ⟨m1a, m1b⟩ := mulB (x := by_ - ay) (y := px - ax) (M := 200000) (N := 200000) (by omega) (by omega)
        obtain ⟨m2a, m2b⟩ := mulB (x := bx - ax) (y := bx - ax) (M := 200000) (N := 200000) (by omega) (by omega)
        obtain ⟨m3a, m3b⟩ := mulB (x := by_ - ay) (y := by_ - ay) (M := 200000) (N := 200000) (by omega) (by omega)
        have HC := hide (p := ((bx - ax) * (py - ay) - (by_ - ay) * (px - ax)).natAbs ≤ 100000000000000000) (by omega)
        have D0 := hide (p := -9223372036854775808 ≤ (bx - ax) * (bx - ax) + (by_ - ay) * (by_ - ay)) (by omega)
        have D1 := hide (p := (bx - ax) * (bx - ax) + (by_ - ay) * (by_ - ay) ≤ 9223372036854775807) (by omega)
        have D2 := hide (p := (bx - ax) * (bx - ax) + (by_ - ay) * (by_ - ay) ≠ 0) (by omega)
        have D3 := hide (small_big D0.out D1.out)
        clear m0a m0b m1a m1b m2a m2b m3a m3b
        go_enter Tryz.func127, Tryz.ntmps127
        go_upto_region 1 with (fail)
        have hb0 : Below w.heap.size w (((w.alloc (.cells #[.int .i64 px, .int .i64 py] 24)).alloc (.cells #[.int .i64 ax, .int .i64 ay] 24)).alloc (.cells #[.int .i64 bx, .int .i64 by_] 24)) := allocs_below w [(.cells #[.int .i64 px, .int .i64 py] 24), (.cells #[.int .i64 ax, .int .i64 ay] 24), (.cells #[.int .i64 bx, .int .i64 by_] 24)]
        have s0 : w.heap.size + 3 ≤ (((w.alloc (.cells #[.int .i64 px, .int .i64 py] 24)).alloc (.cells #[.int .i64 ax, .int .i64 ay] 24)).alloc (.cells #[.int .i64 bx, .int .i64 by_] 24)).heap.size := Nat.le_of_eq (allocs_size w [(.cells #[.int .i64 px, .int .i64 py] 24), (.cells #[.int .i64 ax, .int .i64 ay] 24), (.cells #[.int .i64 bx, .int .i64 by_] 24)]).symm
        have kb0 : (((w.alloc (.cells #[.int .i64 px, .int .i64 py] 24)).alloc (.cells #[.int .i64 ax, .int .i64 ay] 24)).alloc (.cells #[.int .i64 bx, .int .i64 by_] 24)).heap[w.heap.size + 0]? = some (.cells #[.int .i64 px, .int .i64 py] 24) := allocs_at w [(.cells #[.int .i64 px, .int .i64 py] 24), (.cells #[.int .i64 ax, .int .i64 ay] 24), (.cells #[.int .i64 bx, .int .i64 by_] 24)] 0 rfl
        have kb1 : (((w.alloc (.cells #[.int .i64 px, .int .i64 py] 24)).alloc (.cells #[.int .i64 ax, .int .i64 ay] 24)).alloc (.cells #[.int .i64 bx, .int .i64 by_] 24)).heap[w.heap.size + 1]? = some (.cells #[.int .i64 ax, .int .i64 ay] 24) := allocs_at w [(.cells #[.int .i64 px, .int .i64 py] 24), (.cells #[.int .i64 ax, .int .i64 ay] 24), (.cells #[.int .i64 bx, .int .i64 by_] 24)] 1 rfl
        have kb2 : (((w.alloc (.cells #[.int .i64 px, .int .i64 py] 24)).alloc (.cells #[.int .i64 ax, .int .i64 ay] 24)).alloc (.cells #[.int .i64 bx, .int .i64 by_] 24)).heap[w.heap.size + 2]? = some (.cells #[.int .i64 bx, .int .i64 by_] 24) := allocs_at w [(.cells #[.int .i64 px, .int .i64 py] 24), (.cells #[.int .i64 ax, .int .i64 ay] 24), (.cells #[.int .i64 bx, .int .i64 by_] 24)] 2 rfl
        generalize (((w.alloc (.cells #[.int .i64 px, .int .i64 py] 24)).alloc (.cells #[.int .i64 ax, .int .i64 ay] 24)).alloc (.cells #[.int .i64 bx, .int .i64 by_] 24)) = w0 at *
        have k0_0 : w0.cell? ⟨w.heap.size, 0, none⟩ = some (.int .i64 px) := (Blk.cell kb0 0).trans rfl
        have k0_1 : w0.cell? ⟨w.heap.size, 1, none⟩ = some (.int .i64 py) := (Blk.cell kb0 1).trans rfl
        have k1_0 : w0.cell? ⟨w.heap.size + 1, 0, none⟩ = some (.int .i64 ax) := (Blk.cell kb1 0).trans rfl
        have k1_1 : w0.cell? ⟨w.heap.size + 1, 1, none⟩ = some (.int .i64 ay) := (Blk.cell kb1 1).trans rfl
        have k2_0 : w0.cell? ⟨w.heap.size + 1 + 1, 0, none⟩ = some (.int .i64 bx) := (Blk.cell kb2 0).trans rfl
        have k2_1 : w0.cell? ⟨w.heap.size + 1 + 1, 1, none⟩ = some (.int .i64 by_) := (Blk.cell kb2 1).trans rfl
        clear kb0 kb1 kb2
        have SK : ∀ w', Below w0.heap.size w0 w' → Below w0.heap.size w0 w' ∧ w'.cell? ⟨w.heap.size, 0, none⟩ = some (.int .i64 px) ∧ w'.cell? ⟨w.heap.size, 1, none⟩ = some (.int .i64 py) ∧ w'.cell? ⟨w.heap.size + 1, 0, none⟩ = some (.int .i64 ax) ∧ w'.cell? ⟨w.heap.size + 1, 1, none⟩ = some (.int .i64 ay) ∧ w'.cell? ⟨w.heap.size + 1 + 1, 0, none⟩ = some (.int .i64 bx) ∧ w'.cell? ⟨w.heap.size + 1 + 1, 1, none⟩ = some (.int .i64 by_) := fun w' h => ⟨h, (bcell h _ _ (by omega)).trans k0_0, (bcell h _ _ (by omega)).trans k0_1, (bcell h _ _ (by omega)).trans k1_0, (bcell h _ _ (by omega)).trans k1_1, (bcell h _ _ (by omega)).trans k2_0, (bcell h _ _ (by omega)).trans k2_1⟩
        go_wp2_with fail
        refine (allp_any _ _ [(px, py), (ax, ay), (bx, by_)] (Pts3 w0 (px, py) (ax, ay) (bx, by_) _ _) (by simp)).mono ?_
        rintro e w1 ⟨rfl, hb1⟩
        have hb1' := (allocs_below w0 [_]).trans (hb1.mono (by simp))
        rw [hchk]
        have hL1 : Below w0.heap.size w0 w1 := hb1'
        obtain ⟨-, c1_0, c1_1, c1_2, c1_3, c1_4, c1_5⟩ := SK _ hL1
        go_wp2_with fail
        refine (to_any _ ax ay bx by_ hax hay hbx hby_).mono ?_
        rintro e w2 ⟨rfl, hb2⟩
        have hL2 : Below w0.heap.size w0 w2 := hL1.trans (hb2.mono hL1.size)
        obtain ⟨-, c2_0, c2_1, c2_2, c2_3, c2_4, c2_5⟩ := SK _ hL2
        go_upto_region 7 with (fail)
        have hL3 : Below w0.heap.size w0 (w2.alloc (.cells #[.int .i64 (bx - ax), .int .i64 (by_ - ay)] 158)) := hL2.alloc hL2.size _
        have hA3 := Blk.new w2 158 #[.int .i64 (bx - ax), .int .i64 (by_ - ay)]
        have sA3 : w2.heap.size < (w2.alloc (.cells #[.int .i64 (bx - ax), .int .i64 (by_ - ay)] 158)).heap.size := by simp
        have kA3_0 : (w2.alloc (.cells #[.int .i64 (bx - ax), .int .i64 (by_ - ay)] 158)).cell? ⟨w2.heap.size, 0, none⟩ = some (.int .i64 (bx - ax)) := (Blk.cell hA3 0).trans rfl
        have kA3_1 : (w2.alloc (.cells #[.int .i64 (bx - ax), .int .i64 (by_ - ay)] 158)).cell? ⟨w2.heap.size, 1, none⟩ = some (.int .i64 (by_ - ay)) := (Blk.cell hA3 1).trans rfl
        have fA3_0 : (w2.alloc (.cells #[.int .i64 (bx - ax), .int .i64 (by_ - ay)] 158)).frozen? ⟨w2.heap.size, 0, none⟩ = false := Blk.frozen hA3 0
        have fA3_1 : (w2.alloc (.cells #[.int .i64 (bx - ax), .int .i64 (by_ - ay)] 158)).frozen? ⟨w2.heap.size, 1, none⟩ = false := Blk.frozen hA3 1
        have gA3 : Below w2.heap.size w2 (w2.alloc (.cells #[.int .i64 (bx - ax), .int .i64 (by_ - ay)] 158)) := (Below.refl _ _).alloc (Nat.le_refl _) _
        generalize (w2.alloc (.cells #[.int .i64 (bx - ax), .int .i64 (by_ - ay)] 158)) = w3 at *
        have c3_0 := (bcell gA3 _ _ (block_lt_of_cell c2_0)).trans c2_0
        have c3_1 := (bcell gA3 _ _ (block_lt_of_cell c2_1)).trans c2_1
        have c3_2 := (bcell gA3 _ _ (block_lt_of_cell c2_2)).trans c2_2
        have c3_3 := (bcell gA3 _ _ (block_lt_of_cell c2_3)).trans c2_3
        have c3_4 := (bcell gA3 _ _ (block_lt_of_cell c2_4)).trans c2_4
        have c3_5 := (bcell gA3 _ _ (block_lt_of_cell c2_5)).trans c2_5
        have HS3 := hide (HS.out.below (hb0.trans (hL3.mono hb0.size)) (Nat.le_refl _))
        have q3 : w0.heap.size ≤ w3.heap.size := hL3.size
        have SQ : ∀ w', Below w3.heap.size w3 w' → Below w3.heap.size w3 w' ∧ w'.cell? ⟨w.heap.size, 0, none⟩ = some (.int .i64 px) ∧ w'.cell? ⟨w.heap.size, 1, none⟩ = some (.int .i64 py) ∧ w'.cell? ⟨w.heap.size + 1, 0, none⟩ = some (.int .i64 ax) ∧ w'.cell? ⟨w.heap.size + 1, 1, none⟩ = some (.int .i64 ay) ∧ w'.cell? ⟨w.heap.size + 1 + 1, 0, none⟩ = some (.int .i64 bx) ∧ w'.cell? ⟨w.heap.size + 1 + 1, 1, none⟩ = some (.int .i64 by_) ∧ w'.cell? ⟨w2.heap.size, 0, none⟩ = some (.int .i64 (bx - ax)) ∧ w'.cell? ⟨w2.heap.size, 1, none⟩ = some (.int .i64 (by_ - ay)) := fun w' h => ⟨h, (bcell h _ _ (by omega)).trans c3_0, (bcell h _ _ (by omega)).trans c3_1, (bcell h _ _ (by omega)).trans c3_2, (bcell h _ _ (by omega)).trans c3_3, (bcell h _ _ (by omega)).trans c3_4, (bcell h _ _ (by omega)).trans c3_5, (bcell h _ _ (by omega)).trans kA3_0, (bcell h _ _ (by omega)).trans kA3_1⟩
        go_region_held3 (fun w' => Below w3.heap.size w3 w' ∧ w'.cell? ⟨w.heap.size, 0, none⟩ = some (.int .i64 px) ∧ w'.cell? ⟨w.heap.size, 1, none⟩ = some (.int .i64 py) ∧ w'.cell? ⟨w.heap.size + 1, 0, none⟩ = some (.int .i64 ax) ∧ w'.cell? ⟨w.heap.size + 1, 1, none⟩ = some (.int .i64 ay) ∧ w'.cell? ⟨w.heap.size + 1 + 1, 0, none⟩ = some (.int .i64 bx) ∧ w'.cell? ⟨w.heap.size + 1 + 1, 1, none⟩ = some (.int .i64 by_) ∧ w'.cell? ⟨w2.heap.size, 0, none⟩ = some (.int .i64 (bx - ax)) ∧ w'.cell? ⟨w2.heap.size, 1, none⟩ = some (.int .i64 (by_ - ay))) (first | exact SQ _ (Below.refl _ _).drew | exact SQ _ (bel_next (by assumption) (by assumption) (Nat.le_refl _)))
          (first
            | (go_at_call 156; refine (cross_any _ ax ay bx by_ px py hax hay hbx hby_ hpx hpy).mono ?_; rintro e wx ⟨rfl, hbW⟩)
            | (go_at_call 125; refine (adot_any _ (bx - ax) (by_ - ay) (bx - ax) (by_ - ay) (by omega) (by omega) (by omega) (by omega)).mono ?_; rintro e wx ⟨rfl, hbW⟩)
            | (go_at_call 133; refine (of_any ((bx - ax) * (bx - ax) + (by_ - ay) * (by_ - ay)) D0.out D1.out _ (HS3.out.below (And.left (by assumption)) (Nat.le_refl _))).mono ?_; rintro e wx ⟨rfl, hbW⟩)
            | (go_at_call 155; refine (squared_any _ ((bx - ax) * (py - ay) - (by_ - ay) * (px - ax)) _ ((bx - ax) * (bx - ax) + (by_ - ay) * (by_ - ay)) HC.out rfl D2.out D3.out (HS3.out.below (And.left (by assumption)) (Nat.le_refl _))).mono ?_; rintro e wx ⟨rfl, hbW⟩; rw [RR]))
        go_wp2_with fail
        go_ret2
        exact ⟨rfl, hb0.trans ((hL3.trans (Below.mono (And.left (by assumption)) hL3.size)).mono hb0.size)⟩
      · have hsq := sq_pos (a := bx - ax) (by omega)
        have hnn := sq_nn (by_ - ay)
        clear heq hok
        obtain ⟨m0a, m0b⟩ := mulB (x := bx - ax) (y := py - ay) (M := 200000) (N := 200000) (by omega) (by omega)
        obtain ⟨m1a, m1b⟩ := mulB (x := by_ - ay) (y := px - ax) (M := 200000) (N := 200000) (by omega) (by omega)
        obtain ⟨m2a, m2b⟩ := mulB (x := bx - ax) (y := bx - ax) (M := 200000) (N := 200000) (by omega) (by omega)
        obtain ⟨m3a, m3b⟩ := mulB (x := by_ - ay) (y := by_ - ay) (M := 200000) (N := 200000) (by omega) (by omega)
        have HC := hide (p := ((bx - ax) * (py - ay) - (by_ - ay) * (px - ax)).natAbs ≤ 100000000000000000) (by omega)
        have D0 := hide (p := -9223372036854775808 ≤ (bx - ax) * (bx - ax) + (by_ - ay) * (by_ - ay)) (by omega)
        have D1 := hide (p := (bx - ax) * (bx - ax) + (by_ - ay) * (by_ - ay) ≤ 9223372036854775807) (by omega)
        have D2 := hide (p := (bx - ax) * (bx - ax) + (by_ - ay) * (by_ - ay) ≠ 0) (by omega)
        have D3 := hide (small_big D0.out D1.out)
        clear m0a m0b m1a m1b m2a m2b m3a m3b
        go_enter Tryz.func127, Tryz.ntmps127
        go_upto_region 1 with (fail)
        have hb0 : Below w.heap.size w (((w.alloc (.cells #[.int .i64 px, .int .i64 py] 24)).alloc (.cells #[.int .i64 ax, .int .i64 ay] 24)).alloc (.cells #[.int .i64 bx, .int .i64 by_] 24)) := allocs_below w [(.cells #[.int .i64 px, .int .i64 py] 24), (.cells #[.int .i64 ax, .int .i64 ay] 24), (.cells #[.int .i64 bx, .int .i64 by_] 24)]
        have s0 : w.heap.size + 3 ≤ (((w.alloc (.cells #[.int .i64 px, .int .i64 py] 24)).alloc (.cells #[.int .i64 ax, .int .i64 ay] 24)).alloc (.cells #[.int .i64 bx, .int .i64 by_] 24)).heap.size := Nat.le_of_eq (allocs_size w [(.cells #[.int .i64 px, .int .i64 py] 24), (.cells #[.int .i64 ax, .int .i64 ay] 24), (.cells #[.int .i64 bx, .int .i64 by_] 24)]).symm
        have kb0 : (((w.alloc (.cells #[.int .i64 px, .int .i64 py] 24)).alloc (.cells #[.int .i64 ax, .int .i64 ay] 24)).alloc (.cells #[.int .i64 bx, .int .i64 by_] 24)).heap[w.heap.size + 0]? = some (.cells #[.int .i64 px, .int .i64 py] 24) := allocs_at w [(.cells #[.int .i64 px, .int .i64 py] 24), (.cells #[.int .i64 ax, .int .i64 ay] 24), (.cells #[.int .i64 bx, .int .i64 by_] 24)] 0 rfl
        have kb1 : (((w.alloc (.cells #[.int .i64 px, .int .i64 py] 24)).alloc (.cells #[.int .i64 ax, .int .i64 ay] 24)).alloc (.cells #[.int .i64 bx, .int .i64 by_] 24)).heap[w.heap.size + 1]? = some (.cells #[.int .i64 ax, .int .i64 ay] 24) := allocs_at w [(.cells #[.int .i64 px, .int .i64 py] 24), (.cells #[.int .i64 ax, .int .i64 ay] 24), (.cells #[.int .i64 bx, .int .i64 by_] 24)] 1 rfl
        have kb2 : (((w.alloc (.cells #[.int .i64 px, .int .i64 py] 24)).alloc (.cells #[.int .i64 ax, .int .i64 ay] 24)).alloc (.cells #[.int .i64 bx, .int .i64 by_] 24)).heap[w.heap.size + 2]? = some (.cells #[.int .i64 bx, .int .i64 by_] 24) := allocs_at w [(.cells #[.int .i64 px, .int .i64 py] 24), (.cells #[.int .i64 ax, .int .i64 ay] 24), (.cells #[.int .i64 bx, .int .i64 by_] 24)] 2 rfl
        generalize (((w.alloc (.cells #[.int .i64 px, .int .i64 py] 24)).alloc (.cells #[.int .i64 ax, .int .i64 ay] 24)).alloc (.cells #[.int .i64 bx, .int .i64 by_] 24)) = w0 at *
        have k0_0 : w0.cell? ⟨w.heap.size, 0, none⟩ = some (.int .i64 px) := (Blk.cell kb0 0).trans rfl
        have k0_1 : w0.cell? ⟨w.heap.size, 1, none⟩ = some (.int .i64 py) := (Blk.cell kb0 1).trans rfl
        have k1_0 : w0.cell? ⟨w.heap.size + 1, 0, none⟩ = some (.int .i64 ax) := (Blk.cell kb1 0).trans rfl
        have k1_1 : w0.cell? ⟨w.heap.size + 1, 1, none⟩ = some (.int .i64 ay) := (Blk.cell kb1 1).trans rfl
        have k2_0 : w0.cell? ⟨w.heap.size + 1 + 1, 0, none⟩ = some (.int .i64 bx) := (Blk.cell kb2 0).trans rfl
        have k2_1 : w0.cell? ⟨w.heap.size + 1 + 1, 1, none⟩ = some (.int .i64 by_) := (Blk.cell kb2 1).trans rfl
        clear kb0 kb1 kb2
        have SK : ∀ w', Below w0.heap.size w0 w' → Below w0.heap.size w0 w' ∧ w'.cell? ⟨w.heap.size, 0, none⟩ = some (.int .i64 px) ∧ w'.cell? ⟨w.heap.size, 1, none⟩ = some (.int .i64 py) ∧ w'.cell? ⟨w.heap.size + 1, 0, none⟩ = some (.int .i64 ax) ∧ w'.cell? ⟨w.heap.size + 1, 1, none⟩ = some (.int .i64 ay) ∧ w'.cell? ⟨w.heap.size + 1 + 1, 0, none⟩ = some (.int .i64 bx) ∧ w'.cell? ⟨w.heap.size + 1 + 1, 1, none⟩ = some (.int .i64 by_) := fun w' h => ⟨h, (bcell h _ _ (by omega)).trans k0_0, (bcell h _ _ (by omega)).trans k0_1, (bcell h _ _ (by omega)).trans k1_0, (bcell h _ _ (by omega)).trans k1_1, (bcell h _ _ (by omega)).trans k2_0, (bcell h _ _ (by omega)).trans k2_1⟩
        go_wp2_with fail
        refine (allp_any _ _ [(px, py), (ax, ay), (bx, by_)] (Pts3 w0 (px, py) (ax, ay) (bx, by_) _ _) (by simp)).mono ?_
        rintro e w1 ⟨rfl, hb1⟩
        have hb1' := (allocs_below w0 [_]).trans (hb1.mono (by simp))
        rw [hchk]
        have hL1 : Below w0.heap.size w0 w1 := hb1'
        obtain ⟨-, c1_0, c1_1, c1_2, c1_3, c1_4, c1_5⟩ := SK _ hL1
        go_wp2_with fail
        refine (to_any _ ax ay bx by_ hax hay hbx hby_).mono ?_
        rintro e w2 ⟨rfl, hb2⟩
        have hL2 : Below w0.heap.size w0 w2 := hL1.trans (hb2.mono hL1.size)
        obtain ⟨-, c2_0, c2_1, c2_2, c2_3, c2_4, c2_5⟩ := SK _ hL2
        go_upto_region 7 with (fail)
        have hL3 : Below w0.heap.size w0 (w2.alloc (.cells #[.int .i64 (bx - ax), .int .i64 (by_ - ay)] 158)) := hL2.alloc hL2.size _
        have hA3 := Blk.new w2 158 #[.int .i64 (bx - ax), .int .i64 (by_ - ay)]
        have sA3 : w2.heap.size < (w2.alloc (.cells #[.int .i64 (bx - ax), .int .i64 (by_ - ay)] 158)).heap.size := by simp
        have kA3_0 : (w2.alloc (.cells #[.int .i64 (bx - ax), .int .i64 (by_ - ay)] 158)).cell? ⟨w2.heap.size, 0, none⟩ = some (.int .i64 (bx - ax)) := (Blk.cell hA3 0).trans rfl
        have kA3_1 : (w2.alloc (.cells #[.int .i64 (bx - ax), .int .i64 (by_ - ay)] 158)).cell? ⟨w2.heap.size, 1, none⟩ = some (.int .i64 (by_ - ay)) := (Blk.cell hA3 1).trans rfl
        have fA3_0 : (w2.alloc (.cells #[.int .i64 (bx - ax), .int .i64 (by_ - ay)] 158)).frozen? ⟨w2.heap.size, 0, none⟩ = false := Blk.frozen hA3 0
        have fA3_1 : (w2.alloc (.cells #[.int .i64 (bx - ax), .int .i64 (by_ - ay)] 158)).frozen? ⟨w2.heap.size, 1, none⟩ = false := Blk.frozen hA3 1
        have gA3 : Below w2.heap.size w2 (w2.alloc (.cells #[.int .i64 (bx - ax), .int .i64 (by_ - ay)] 158)) := (Below.refl _ _).alloc (Nat.le_refl _) _
        generalize (w2.alloc (.cells #[.int .i64 (bx - ax), .int .i64 (by_ - ay)] 158)) = w3 at *
        have c3_0 := (bcell gA3 _ _ (block_lt_of_cell c2_0)).trans c2_0
        have c3_1 := (bcell gA3 _ _ (block_lt_of_cell c2_1)).trans c2_1
        have c3_2 := (bcell gA3 _ _ (block_lt_of_cell c2_2)).trans c2_2
        have c3_3 := (bcell gA3 _ _ (block_lt_of_cell c2_3)).trans c2_3
        have c3_4 := (bcell gA3 _ _ (block_lt_of_cell c2_4)).trans c2_4
        have c3_5 := (bcell gA3 _ _ (block_lt_of_cell c2_5)).trans c2_5
        have HS3 := hide (HS.out.below (hb0.trans (hL3.mono hb0.size)) (Nat.le_refl _))
        have q3 : w0.heap.size ≤ w3.heap.size := hL3.size
        have SQ : ∀ w', Below w3.heap.size w3 w' → Below w3.heap.size w3 w' ∧ w'.cell? ⟨w.heap.size, 0, none⟩ = some (.int .i64 px) ∧ w'.cell? ⟨w.heap.size, 1, none⟩ = some (.int .i64 py) ∧ w'.cell? ⟨w.heap.size + 1, 0, none⟩ = some (.int .i64 ax) ∧ w'.cell? ⟨w.heap.size + 1, 1, none⟩ = some (.int .i64 ay) ∧ w'.cell? ⟨w.heap.size + 1 + 1, 0, none⟩ = some (.int .i64 bx) ∧ w'.cell? ⟨w.heap.size + 1 + 1, 1, none⟩ = some (.int .i64 by_) ∧ w'.cell? ⟨w2.heap.size, 0, none⟩ = some (.int .i64 (bx - ax)) ∧ w'.cell? ⟨w2.heap.size, 1, none⟩ = some (.int .i64 (by_ - ay)) := fun w' h => ⟨h, (bcell h _ _ (by omega)).trans c3_0, (bcell h _ _ (by omega)).trans c3_1, (bcell h _ _ (by omega)).trans c3_2, (bcell h _ _ (by omega)).trans c3_3, (bcell h _ _ (by omega)).trans c3_4, (bcell h _ _ (by omega)).trans c3_5, (bcell h _ _ (by omega)).trans kA3_0, (bcell h _ _ (by omega)).trans kA3_1⟩
        go_region_held3 (fun w' => Below w3.heap.size w3 w' ∧ w'.cell? ⟨w.heap.size, 0, none⟩ = some (.int .i64 px) ∧ w'.cell? ⟨w.heap.size, 1, none⟩ = some (.int .i64 py) ∧ w'.cell? ⟨w.heap.size + 1, 0, none⟩ = some (.int .i64 ax) ∧ w'.cell? ⟨w.heap.size + 1, 1, none⟩ = some (.int .i64 ay) ∧ w'.cell? ⟨w.heap.size + 1 + 1, 0, none⟩ = some (.int .i64 bx) ∧ w'.cell? ⟨w.heap.size + 1 + 1, 1, none⟩ = some (.int .i64 by_) ∧ w'.cell? ⟨w2.heap.size, 0, none⟩ = some (.int .i64 (bx - ax)) ∧ w'.cell? ⟨w2.heap.size, 1, none⟩ = some (.int .i64 (by_ - ay))) (first | exact SQ _ (Below.refl _ _).drew | exact SQ _ (bel_next (by assumption) (by assumption) (Nat.le_refl _)))
          (first
            | (go_at_call 156; refine (cross_any _ ax ay bx by_ px py hax hay hbx hby_ hpx hpy).mono ?_; rintro e wx ⟨rfl, hbW⟩)
            | (go_at_call 125; refine (adot_any _ (bx - ax) (by_ - ay) (bx - ax) (by_ - ay) (by omega) (by omega) (by omega) (by omega)).mono ?_; rintro e wx ⟨rfl, hbW⟩)
            | (go_at_call 133; refine (of_any ((bx - ax) * (bx - ax) + (by_ - ay) * (by_ - ay)) D0.out D1.out _ (HS3.out.below (And.left (by assumption)) (Nat.le_refl _))).mono ?_; rintro e wx ⟨rfl, hbW⟩)
            | (go_at_call 155; refine (squared_any _ ((bx - ax) * (py - ay) - (by_ - ay) * (px - ax)) _ ((bx - ax) * (bx - ax) + (by_ - ay) * (by_ - ay)) HC.out rfl D2.out D3.out (HS3.out.below (And.left (by assumption)) (Nat.le_refl _))).mono ?_; rintro e wx ⟨rfl, hbW⟩; rw [RR]))
        go_wp2_with fail
        go_ret2
        exact ⟨rfl, hb0.trans ((hL3.trans (Below.mono (And.left (by assumption)) hL3.size)).mono hb0.size)⟩
  · have hchk : chkPts [(px, py), (ax, ay), (bx, by_)] = 2 := by rw [chkPts, if_neg]; intro h; exact hok (by simpa [okPts, and_assoc] using h)
    rw [lineR, if_neg hok]
    go_enter Tryz.func127, Tryz.ntmps127
    go_upto_region 1 with (fail)
    have hb0 : Below w.heap.size w (((w.alloc (.cells #[.int .i64 px, .int .i64 py] 24)).alloc (.cells #[.int .i64 ax, .int .i64 ay] 24)).alloc (.cells #[.int .i64 bx, .int .i64 by_] 24)) := allocs_below w [(.cells #[.int .i64 px, .int .i64 py] 24), (.cells #[.int .i64 ax, .int .i64 ay] 24), (.cells #[.int .i64 bx, .int .i64 by_] 24)]
    have s0 : w.heap.size + 3 ≤ (((w.alloc (.cells #[.int .i64 px, .int .i64 py] 24)).alloc (.cells #[.int .i64 ax, .int .i64 ay] 24)).alloc (.cells #[.int .i64 bx, .int .i64 by_] 24)).heap.size := Nat.le_of_eq (allocs_size w [(.cells #[.int .i64 px, .int .i64 py] 24), (.cells #[.int .i64 ax, .int .i64 ay] 24), (.cells #[.int .i64 bx, .int .i64 by_] 24)]).symm
    have kb0 : (((w.alloc (.cells #[.int .i64 px, .int .i64 py] 24)).alloc (.cells #[.int .i64 ax, .int .i64 ay] 24)).alloc (.cells #[.int .i64 bx, .int .i64 by_] 24)).heap[w.heap.size + 0]? = some (.cells #[.int .i64 px, .int .i64 py] 24) := allocs_at w [(.cells #[.int .i64 px, .int .i64 py] 24), (.cells #[.int .i64 ax, .int .i64 ay] 24), (.cells #[.int .i64 bx, .int .i64 by_] 24)] 0 rfl
    have kb1 : (((w.alloc (.cells #[.int .i64 px, .int .i64 py] 24)).alloc (.cells #[.int .i64 ax, .int .i64 ay] 24)).alloc (.cells #[.int .i64 bx, .int .i64 by_] 24)).heap[w.heap.size + 1]? = some (.cells #[.int .i64 ax, .int .i64 ay] 24) := allocs_at w [(.cells #[.int .i64 px, .int .i64 py] 24), (.cells #[.int .i64 ax, .int .i64 ay] 24), (.cells #[.int .i64 bx, .int .i64 by_] 24)] 1 rfl
    have kb2 : (((w.alloc (.cells #[.int .i64 px, .int .i64 py] 24)).alloc (.cells #[.int .i64 ax, .int .i64 ay] 24)).alloc (.cells #[.int .i64 bx, .int .i64 by_] 24)).heap[w.heap.size + 2]? = some (.cells #[.int .i64 bx, .int .i64 by_] 24) := allocs_at w [(.cells #[.int .i64 px, .int .i64 py] 24), (.cells #[.int .i64 ax, .int .i64 ay] 24), (.cells #[.int .i64 bx, .int .i64 by_] 24)] 2 rfl
    generalize (((w.alloc (.cells #[.int .i64 px, .int .i64 py] 24)).alloc (.cells #[.int .i64 ax, .int .i64 ay] 24)).alloc (.cells #[.int .i64 bx, .int .i64 by_] 24)) = w0 at *
    have k0_0 : w0.cell? ⟨w.heap.size, 0, none⟩ = some (.int .i64 px) := (Blk.cell kb0 0).trans rfl
    have k0_1 : w0.cell? ⟨w.heap.size, 1, none⟩ = some (.int .i64 py) := (Blk.cell kb0 1).trans rfl
    have k1_0 : w0.cell? ⟨w.heap.size + 1, 0, none⟩ = some (.int .i64 ax) := (Blk.cell kb1 0).trans rfl
    have k1_1 : w0.cell? ⟨w.heap.size + 1, 1, none⟩ = some (.int .i64 ay) := (Blk.cell kb1 1).trans rfl
    have k2_0 : w0.cell? ⟨w.heap.size + 1 + 1, 0, none⟩ = some (.int .i64 bx) := (Blk.cell kb2 0).trans rfl
    have k2_1 : w0.cell? ⟨w.heap.size + 1 + 1, 1, none⟩ = some (.int .i64 by_) := (Blk.cell kb2 1).trans rfl
    clear kb0 kb1 kb2
    have SK : ∀ w', Below w0.heap.size w0 w' → Below w0.heap.size w0 w' ∧ w'.cell? ⟨w.heap.size, 0, none⟩ = some (.int .i64 px) ∧ w'.cell? ⟨w.heap.size, 1, none⟩ = some (.int .i64 py) ∧ w'.cell? ⟨w.heap.size + 1, 0, none⟩ = some (.int .i64 ax) ∧ w'.cell? ⟨w.heap.size + 1, 1, none⟩ = some (.int .i64 ay) ∧ w'.cell? ⟨w.heap.size + 1 + 1, 0, none⟩ = some (.int .i64 bx) ∧ w'.cell? ⟨w.heap.size + 1 + 1, 1, none⟩ = some (.int .i64 by_) := fun w' h => ⟨h, (bcell h _ _ (by omega)).trans k0_0, (bcell h _ _ (by omega)).trans k0_1, (bcell h _ _ (by omega)).trans k1_0, (bcell h _ _ (by omega)).trans k1_1, (bcell h _ _ (by omega)).trans k2_0, (bcell h _ _ (by omega)).trans k2_1⟩
    go_wp2_with fail
    refine (allp_any _ _ [(px, py), (ax, ay), (bx, by_)] (Pts3 w0 (px, py) (ax, ay) (bx, by_) _ _) (by simp)).mono ?_
    rintro e w1 ⟨rfl, hb1⟩
    have hb1' := (allocs_below w0 [_]).trans (hb1.mono (by simp))
    rw [hchk]
    have hL1 : Below w0.heap.size w0 w1 := hb1'
    obtain ⟨-, c1_0, c1_1, c1_2, c1_3, c1_4, c1_5⟩ := SK _ hL1
    go_wp2_with fail
    go_ret2
    exact ⟨rfl, hb0.trans (hL1.mono hb0.size)⟩

end Go.Proofs.YtendaaghmeoddaaGreatDoor
