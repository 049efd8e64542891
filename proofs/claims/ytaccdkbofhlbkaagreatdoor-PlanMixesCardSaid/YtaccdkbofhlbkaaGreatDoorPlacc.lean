/- Check, sized and given of plan; Check, Lot and Given of the reference; Accept. -/
import Derived.Test.YtaccdkbofhlbkaaGreatDoorPltot
namespace Go.Proofs.YtaccdkbofhlbkaaGreatDoor
open Go.RowKit Go.Shelf MLab

/-- The error of a plan; of a plan with a lot; with its bad parts. -/
def ckP (N C : Int) : Int := if 1 ≤ N ∧ N ≤ 256 ∧ 0 ≤ C ∧ C ≤ N then 0 else 2
def ckL (N C lot : Int) : Int := if (1 ≤ N ∧ N ≤ 256 ∧ 0 ≤ C ∧ C ≤ N) ∧ N ≤ lot ∧ lot ≤ 4096 then 0 else 2
def ckG (N C lot bad : Int) : Int := if ((1 ≤ N ∧ N ≤ 256 ∧ 0 ≤ C ∧ C ≤ N) ∧ N ≤ lot ∧ lot ≤ 4096) ∧ 0 ≤ bad ∧ bad ≤ lot then 0 else 2
theorem ckP_zero {N C : Int} : ckP N C = 0 ↔ 1 ≤ N ∧ N ≤ 256 ∧ 0 ≤ C ∧ C ≤ N := by unfold ckP; split <;> simp_all
theorem ckP_two {N C : Int} : ckP N C = 2 ↔ ¬ (1 ≤ N ∧ N ≤ 256 ∧ 0 ≤ C ∧ C ≤ N) := by unfold ckP; split <;> simp_all
theorem ckL_zero {N C lot : Int} : ckL N C lot = 0 ↔ (1 ≤ N ∧ N ≤ 256 ∧ 0 ≤ C ∧ C ≤ N) ∧ N ≤ lot ∧ lot ≤ 4096 := by unfold ckL; split <;> simp_all
theorem ckL_two {N C lot : Int} : ckL N C lot = 2 ↔ ¬ ((1 ≤ N ∧ N ≤ 256 ∧ 0 ≤ C ∧ C ≤ N) ∧ N ≤ lot ∧ lot ≤ 4096) := by unfold ckL; split <;> simp_all
theorem ckG_zero {N C lot bad : Int} : ckG N C lot bad = 0 ↔ ((1 ≤ N ∧ N ≤ 256 ∧ 0 ≤ C ∧ C ≤ N) ∧ N ≤ lot ∧ lot ≤ 4096) ∧ 0 ≤ bad ∧ bad ≤ lot := by unfold ckG; split <;> simp_all
theorem ckG_two {N C lot bad : Int} : ckG N C lot bad = 2 ↔ ¬ (((1 ≤ N ∧ N ≤ 256 ∧ 0 ≤ C ∧ C ≤ N) ∧ N ≤ lot ∧ lot ≤ 4096) ∧ 0 ≤ bad ∧ bad ≤ lot) := by unfold ckG; split <;> simp_all
set_option maxRecDepth 100000 in
set_option maxHeartbeats 1000000 in
theorem plck_any (w : World) (N C : Int) :
    Calls Tryz.prog 18 #[.agg #[.int .i64 N, .int .i64 C]] w fun e w' => e = .returned (.int .i64 (ckP N C)) ∧ Below w.heap.size w w' := by
  by_cases h1 : N < 1
  · have hr : ckP N C = 2 := ckP_two.2 (by omega)
    rw [hr]
    clear hr
    go_enter Tryz.func18, Tryz.ntmps18
    go_wp2_with fail
    go_ret
    exact ⟨rfl, (Below.refl _ _).alloc (Nat.le_refl _) _⟩
  · by_cases h2 : 256 < N
    · have hr : ckP N C = 2 := ckP_two.2 (by omega)
      rw [hr]
      clear hr
      go_enter Tryz.func18, Tryz.ntmps18
      go_wp2_with fail
      go_ret
      exact ⟨rfl, (Below.refl _ _).alloc (Nat.le_refl _) _⟩
    · by_cases h3 : C < 0
      · have hr : ckP N C = 2 := ckP_two.2 (by omega)
        rw [hr]
        clear hr
        go_enter Tryz.func18, Tryz.ntmps18
        go_wp2_with fail
        go_ret
        exact ⟨rfl, (Below.refl _ _).alloc (Nat.le_refl _) _⟩
      · by_cases h4 : N < C
        · have hr : ckP N C = 2 := ckP_two.2 (by omega)
          rw [hr]
          clear hr
          go_enter Tryz.func18, Tryz.ntmps18
          go_wp2_with fail
          go_ret
          exact ⟨rfl, (Below.refl _ _).alloc (Nat.le_refl _) _⟩
        · have hr : ckP N C = 0 := ckP_zero.2 (by omega)
          rw [hr]
          clear hr
          go_enter Tryz.func18, Tryz.ntmps18
          go_wp2_with fail
          go_ret
          exact ⟨rfl, (Below.refl _ _).alloc (Nat.le_refl _) _⟩

set_option maxRecDepth 100000 in
set_option maxHeartbeats 1000000 in
theorem plsz_any (w : World) (N C lot : Int) :
    Calls Tryz.prog 89 #[.agg #[.int .i64 N, .int .i64 C], .int .i64 lot] w fun e w' => e = .returned (.int .i64 (ckL N C lot)) ∧ Below w.heap.size w w' := by
  by_cases h0 : ¬ (1 ≤ N ∧ N ≤ 256 ∧ 0 ≤ C ∧ C ≤ N)
  · have HC := hide (fun W => plck_any W N C)
    rw [ckP_two.2 h0] at HC
    have hr : ckL N C lot = 2 := ckL_two.2 (by omega)
    rw [hr]
    clear hr h0
    have HB := allocs_below w [.cells #[.int .i64 N, .int .i64 C] 30]
    have K_p : Blk (allocs w [.cells #[.int .i64 N, .int .i64 C] 30]) (w.heap.size + 0) 30 #[.int .i64 N, .int .i64 C] := allocs_at w [.cells #[.int .i64 N, .int .i64 C] 30] 0 rfl
    unfold allocs at HB K_p
    simp only [List.foldl_cons, List.foldl_nil] at HB K_p
    rw [Nat.add_zero] at K_p
    go_enter Tryz.func89, Tryz.ntmps89
    go_upto_region 1 with (fail)
    generalize (w.alloc (.cells #[.int .i64 N, .int .i64 C] 30)) = w0 at *
    replace K_p := hide K_p
    replace HB := hide HB
    have p0 := (Blk.cell K_p.out 0).trans (rfl : _ = some (Value.int .i64 N))
    have p1 := (Blk.cell K_p.out 1).trans (rfl : _ = some (Value.int .i64 C))
    go_wp2_with fail
    refine (HC.out _).mono ?_
    rintro e w1 ⟨rfl, hb⟩
    clear p0 p1
    replace K_p := hide (Blk.below K_p.out hb (Blk.lt K_p.out))
    replace HB := hide (HB.out.trans (hb.mono HB.out.size))
    clear hb
    go_wp2_with fail
    go_ret
    exact ⟨rfl, HB.out⟩
  · by_cases h1 : lot < N
    · have HC := hide (fun W => plck_any W N C)
      rw [ckP_zero.2 (Classical.not_not.1 h0)] at HC
      have hr : ckL N C lot = 2 := ckL_two.2 (by omega)
      rw [hr]
      clear hr h0
      have HB := allocs_below w [.cells #[.int .i64 N, .int .i64 C] 30]
      have K_p : Blk (allocs w [.cells #[.int .i64 N, .int .i64 C] 30]) (w.heap.size + 0) 30 #[.int .i64 N, .int .i64 C] := allocs_at w [.cells #[.int .i64 N, .int .i64 C] 30] 0 rfl
      unfold allocs at HB K_p
      simp only [List.foldl_cons, List.foldl_nil] at HB K_p
      rw [Nat.add_zero] at K_p
      go_enter Tryz.func89, Tryz.ntmps89
      go_upto_region 1 with (fail)
      generalize (w.alloc (.cells #[.int .i64 N, .int .i64 C] 30)) = w0 at *
      replace K_p := hide K_p
      replace HB := hide HB
      have p0 := (Blk.cell K_p.out 0).trans (rfl : _ = some (Value.int .i64 N))
      have p1 := (Blk.cell K_p.out 1).trans (rfl : _ = some (Value.int .i64 C))
      go_wp2_with fail
      refine (HC.out _).mono ?_
      rintro e w1 ⟨rfl, hb⟩
      clear p0 p1
      replace K_p := hide (Blk.below K_p.out hb (Blk.lt K_p.out))
      replace HB := hide (HB.out.trans (hb.mono HB.out.size))
      clear hb
      have p0 := (Blk.cell K_p.out 0).trans (rfl : _ = some (Value.int .i64 N))
      have p1 := (Blk.cell K_p.out 1).trans (rfl : _ = some (Value.int .i64 C))
      go_wp2_with fail
      go_ret
      exact ⟨rfl, HB.out⟩
    · by_cases h2 : 4096 < lot
      · have HC := hide (fun W => plck_any W N C)
        rw [ckP_zero.2 (Classical.not_not.1 h0)] at HC
        have hr : ckL N C lot = 2 := ckL_two.2 (by omega)
        rw [hr]
        clear hr h0
        have HB := allocs_below w [.cells #[.int .i64 N, .int .i64 C] 30]
        have K_p : Blk (allocs w [.cells #[.int .i64 N, .int .i64 C] 30]) (w.heap.size + 0) 30 #[.int .i64 N, .int .i64 C] := allocs_at w [.cells #[.int .i64 N, .int .i64 C] 30] 0 rfl
        unfold allocs at HB K_p
        simp only [List.foldl_cons, List.foldl_nil] at HB K_p
        rw [Nat.add_zero] at K_p
        go_enter Tryz.func89, Tryz.ntmps89
        go_upto_region 1 with (fail)
        generalize (w.alloc (.cells #[.int .i64 N, .int .i64 C] 30)) = w0 at *
        replace K_p := hide K_p
        replace HB := hide HB
        have p0 := (Blk.cell K_p.out 0).trans (rfl : _ = some (Value.int .i64 N))
        have p1 := (Blk.cell K_p.out 1).trans (rfl : _ = some (Value.int .i64 C))
        go_wp2_with fail
        refine (HC.out _).mono ?_
        rintro e w1 ⟨rfl, hb⟩
        clear p0 p1
        replace K_p := hide (Blk.below K_p.out hb (Blk.lt K_p.out))
        replace HB := hide (HB.out.trans (hb.mono HB.out.size))
        clear hb
        have p0 := (Blk.cell K_p.out 0).trans (rfl : _ = some (Value.int .i64 N))
        have p1 := (Blk.cell K_p.out 1).trans (rfl : _ = some (Value.int .i64 C))
        go_wp2_with fail
        go_ret
        exact ⟨rfl, HB.out⟩
      · have HC := hide (fun W => plck_any W N C)
        rw [ckP_zero.2 (Classical.not_not.1 h0)] at HC
        have hr : ckL N C lot = 0 := ckL_zero.2 (by omega)
        rw [hr]
        clear hr h0
        have HB := allocs_below w [.cells #[.int .i64 N, .int .i64 C] 30]
        have K_p : Blk (allocs w [.cells #[.int .i64 N, .int .i64 C] 30]) (w.heap.size + 0) 30 #[.int .i64 N, .int .i64 C] := allocs_at w [.cells #[.int .i64 N, .int .i64 C] 30] 0 rfl
        unfold allocs at HB K_p
        simp only [List.foldl_cons, List.foldl_nil] at HB K_p
        rw [Nat.add_zero] at K_p
        go_enter Tryz.func89, Tryz.ntmps89
        go_upto_region 1 with (fail)
        generalize (w.alloc (.cells #[.int .i64 N, .int .i64 C] 30)) = w0 at *
        replace K_p := hide K_p
        replace HB := hide HB
        have p0 := (Blk.cell K_p.out 0).trans (rfl : _ = some (Value.int .i64 N))
        have p1 := (Blk.cell K_p.out 1).trans (rfl : _ = some (Value.int .i64 C))
        go_wp2_with fail
        refine (HC.out _).mono ?_
        rintro e w1 ⟨rfl, hb⟩
        clear p0 p1
        replace K_p := hide (Blk.below K_p.out hb (Blk.lt K_p.out))
        replace HB := hide (HB.out.trans (hb.mono HB.out.size))
        clear hb
        have p0 := (Blk.cell K_p.out 0).trans (rfl : _ = some (Value.int .i64 N))
        have p1 := (Blk.cell K_p.out 1).trans (rfl : _ = some (Value.int .i64 C))
        go_wp2_with fail
        go_ret
        exact ⟨rfl, HB.out⟩

set_option maxRecDepth 100000 in
set_option maxHeartbeats 1000000 in
theorem plgv_any (w : World) (N C lot bad : Int) :
    Calls Tryz.prog 43 #[.agg #[.int .i64 N, .int .i64 C], .int .i64 lot, .int .i64 bad] w fun e w' => e = .returned (.int .i64 (ckG N C lot bad)) ∧ Below w.heap.size w w' := by
  by_cases h0 : ¬ ((1 ≤ N ∧ N ≤ 256 ∧ 0 ≤ C ∧ C ≤ N) ∧ N ≤ lot ∧ lot ≤ 4096)
  · have HC := hide (fun W => plsz_any W N C lot)
    rw [ckL_two.2 h0] at HC
    have hr : ckG N C lot bad = 2 := ckG_two.2 (by omega)
    rw [hr]
    clear hr h0
    have HB := allocs_below w [.cells #[.int .i64 N, .int .i64 C] 30]
    have K_p : Blk (allocs w [.cells #[.int .i64 N, .int .i64 C] 30]) (w.heap.size + 0) 30 #[.int .i64 N, .int .i64 C] := allocs_at w [.cells #[.int .i64 N, .int .i64 C] 30] 0 rfl
    unfold allocs at HB K_p
    simp only [List.foldl_cons, List.foldl_nil] at HB K_p
    rw [Nat.add_zero] at K_p
    go_enter Tryz.func43, Tryz.ntmps43
    go_upto_region 1 with (fail)
    generalize (w.alloc (.cells #[.int .i64 N, .int .i64 C] 30)) = w0 at *
    replace K_p := hide K_p
    replace HB := hide HB
    have p0 := (Blk.cell K_p.out 0).trans (rfl : _ = some (Value.int .i64 N))
    have p1 := (Blk.cell K_p.out 1).trans (rfl : _ = some (Value.int .i64 C))
    go_wp2_with fail
    refine (HC.out _).mono ?_
    rintro e w1 ⟨rfl, hb⟩
    clear p0 p1
    replace K_p := hide (Blk.below K_p.out hb (Blk.lt K_p.out))
    replace HB := hide (HB.out.trans (hb.mono HB.out.size))
    clear hb
    go_wp2_with fail
    go_ret
    exact ⟨rfl, HB.out⟩
  · by_cases h1 : bad < 0
    · have HC := hide (fun W => plsz_any W N C lot)
      rw [ckL_zero.2 (Classical.not_not.1 h0)] at HC
      have hr : ckG N C lot bad = 2 := ckG_two.2 (by omega)
      rw [hr]
      clear hr h0
      have HB := allocs_below w [.cells #[.int .i64 N, .int .i64 C] 30]
      have K_p : Blk (allocs w [.cells #[.int .i64 N, .int .i64 C] 30]) (w.heap.size + 0) 30 #[.int .i64 N, .int .i64 C] := allocs_at w [.cells #[.int .i64 N, .int .i64 C] 30] 0 rfl
      unfold allocs at HB K_p
      simp only [List.foldl_cons, List.foldl_nil] at HB K_p
      rw [Nat.add_zero] at K_p
      go_enter Tryz.func43, Tryz.ntmps43
      go_upto_region 1 with (fail)
      generalize (w.alloc (.cells #[.int .i64 N, .int .i64 C] 30)) = w0 at *
      replace K_p := hide K_p
      replace HB := hide HB
      have p0 := (Blk.cell K_p.out 0).trans (rfl : _ = some (Value.int .i64 N))
      have p1 := (Blk.cell K_p.out 1).trans (rfl : _ = some (Value.int .i64 C))
      go_wp2_with fail
      refine (HC.out _).mono ?_
      rintro e w1 ⟨rfl, hb⟩
      clear p0 p1
      replace K_p := hide (Blk.below K_p.out hb (Blk.lt K_p.out))
      replace HB := hide (HB.out.trans (hb.mono HB.out.size))
      clear hb
      have p0 := (Blk.cell K_p.out 0).trans (rfl : _ = some (Value.int .i64 N))
      have p1 := (Blk.cell K_p.out 1).trans (rfl : _ = some (Value.int .i64 C))
      go_wp2_with fail
      go_ret
      exact ⟨rfl, HB.out⟩
    · by_cases h2 : lot < bad
      · have HC := hide (fun W => plsz_any W N C lot)
        rw [ckL_zero.2 (Classical.not_not.1 h0)] at HC
        have hr : ckG N C lot bad = 2 := ckG_two.2 (by omega)
        rw [hr]
        clear hr h0
        have HB := allocs_below w [.cells #[.int .i64 N, .int .i64 C] 30]
        have K_p : Blk (allocs w [.cells #[.int .i64 N, .int .i64 C] 30]) (w.heap.size + 0) 30 #[.int .i64 N, .int .i64 C] := allocs_at w [.cells #[.int .i64 N, .int .i64 C] 30] 0 rfl
        unfold allocs at HB K_p
        simp only [List.foldl_cons, List.foldl_nil] at HB K_p
        rw [Nat.add_zero] at K_p
        go_enter Tryz.func43, Tryz.ntmps43
        go_upto_region 1 with (fail)
        generalize (w.alloc (.cells #[.int .i64 N, .int .i64 C] 30)) = w0 at *
        replace K_p := hide K_p
        replace HB := hide HB
        have p0 := (Blk.cell K_p.out 0).trans (rfl : _ = some (Value.int .i64 N))
        have p1 := (Blk.cell K_p.out 1).trans (rfl : _ = some (Value.int .i64 C))
        go_wp2_with fail
        refine (HC.out _).mono ?_
        rintro e w1 ⟨rfl, hb⟩
        clear p0 p1
        replace K_p := hide (Blk.below K_p.out hb (Blk.lt K_p.out))
        replace HB := hide (HB.out.trans (hb.mono HB.out.size))
        clear hb
        have p0 := (Blk.cell K_p.out 0).trans (rfl : _ = some (Value.int .i64 N))
        have p1 := (Blk.cell K_p.out 1).trans (rfl : _ = some (Value.int .i64 C))
        go_wp2_with fail
        go_ret
        exact ⟨rfl, HB.out⟩
      · have HC := hide (fun W => plsz_any W N C lot)
        rw [ckL_zero.2 (Classical.not_not.1 h0)] at HC
        have hr : ckG N C lot bad = 0 := ckG_zero.2 (by omega)
        rw [hr]
        clear hr h0
        have HB := allocs_below w [.cells #[.int .i64 N, .int .i64 C] 30]
        have K_p : Blk (allocs w [.cells #[.int .i64 N, .int .i64 C] 30]) (w.heap.size + 0) 30 #[.int .i64 N, .int .i64 C] := allocs_at w [.cells #[.int .i64 N, .int .i64 C] 30] 0 rfl
        unfold allocs at HB K_p
        simp only [List.foldl_cons, List.foldl_nil] at HB K_p
        rw [Nat.add_zero] at K_p
        go_enter Tryz.func43, Tryz.ntmps43
        go_upto_region 1 with (fail)
        generalize (w.alloc (.cells #[.int .i64 N, .int .i64 C] 30)) = w0 at *
        replace K_p := hide K_p
        replace HB := hide HB
        have p0 := (Blk.cell K_p.out 0).trans (rfl : _ = some (Value.int .i64 N))
        have p1 := (Blk.cell K_p.out 1).trans (rfl : _ = some (Value.int .i64 C))
        go_wp2_with fail
        refine (HC.out _).mono ?_
        rintro e w1 ⟨rfl, hb⟩
        clear p0 p1
        replace K_p := hide (Blk.below K_p.out hb (Blk.lt K_p.out))
        replace HB := hide (HB.out.trans (hb.mono HB.out.size))
        clear hb
        have p0 := (Blk.cell K_p.out 0).trans (rfl : _ = some (Value.int .i64 N))
        have p1 := (Blk.cell K_p.out 1).trans (rfl : _ = some (Value.int .i64 C))
        go_wp2_with fail
        go_ret
        exact ⟨rfl, HB.out⟩

set_option maxRecDepth 100000 in
set_option maxHeartbeats 1000000 in
theorem rfck_any (w : World) (N C : Int) :
    Calls Tryz.prog 19 #[.agg #[.int .i64 N, .int .i64 C]] w fun e w' => e = .returned (.int .i64 (ckP N C)) ∧ Below w.heap.size w w' := by
  by_cases h1 : N < 1
  · have hr : ckP N C = 2 := ckP_two.2 (by omega)
    rw [hr]
    clear hr
    go_enter Tryz.func19, Tryz.ntmps19
    go_wp2_with fail
    go_ret
    exact ⟨rfl, (Below.refl _ _).alloc (Nat.le_refl _) _⟩
  · by_cases h2 : 256 < N
    · have hr : ckP N C = 2 := ckP_two.2 (by omega)
      rw [hr]
      clear hr
      go_enter Tryz.func19, Tryz.ntmps19
      go_wp2_with fail
      go_ret
      exact ⟨rfl, (Below.refl _ _).alloc (Nat.le_refl _) _⟩
    · by_cases h3 : C < 0
      · have hr : ckP N C = 2 := ckP_two.2 (by omega)
        rw [hr]
        clear hr
        go_enter Tryz.func19, Tryz.ntmps19
        go_wp2_with fail
        go_ret
        exact ⟨rfl, (Below.refl _ _).alloc (Nat.le_refl _) _⟩
      · by_cases h4 : N < C
        · have hr : ckP N C = 2 := ckP_two.2 (by omega)
          rw [hr]
          clear hr
          go_enter Tryz.func19, Tryz.ntmps19
          go_wp2_with fail
          go_ret
          exact ⟨rfl, (Below.refl _ _).alloc (Nat.le_refl _) _⟩
        · have hr : ckP N C = 0 := ckP_zero.2 (by omega)
          rw [hr]
          clear hr
          go_enter Tryz.func19, Tryz.ntmps19
          go_wp2_with fail
          go_ret
          exact ⟨rfl, (Below.refl _ _).alloc (Nat.le_refl _) _⟩

set_option maxRecDepth 100000 in
set_option maxHeartbeats 1000000 in
theorem rfsz_any (w : World) (N C lot : Int) :
    Calls Tryz.prog 42 #[.agg #[.int .i64 N, .int .i64 C], .int .i64 lot] w fun e w' => e = .returned (.int .i64 (ckL N C lot)) ∧ Below w.heap.size w w' := by
  by_cases h0 : ¬ (1 ≤ N ∧ N ≤ 256 ∧ 0 ≤ C ∧ C ≤ N)
  · have HC := hide (fun W => rfck_any W N C)
    rw [ckP_two.2 h0] at HC
    have hr : ckL N C lot = 2 := ckL_two.2 (by omega)
    rw [hr]
    clear hr h0
    have HB := allocs_below w [.cells #[.int .i64 N, .int .i64 C] 23]
    have K_p : Blk (allocs w [.cells #[.int .i64 N, .int .i64 C] 23]) (w.heap.size + 0) 23 #[.int .i64 N, .int .i64 C] := allocs_at w [.cells #[.int .i64 N, .int .i64 C] 23] 0 rfl
    unfold allocs at HB K_p
    simp only [List.foldl_cons, List.foldl_nil] at HB K_p
    rw [Nat.add_zero] at K_p
    go_enter Tryz.func42, Tryz.ntmps42
    go_upto_region 1 with (fail)
    generalize (w.alloc (.cells #[.int .i64 N, .int .i64 C] 23)) = w0 at *
    replace K_p := hide K_p
    replace HB := hide HB
    have p0 := (Blk.cell K_p.out 0).trans (rfl : _ = some (Value.int .i64 N))
    have p1 := (Blk.cell K_p.out 1).trans (rfl : _ = some (Value.int .i64 C))
    go_wp2_with fail
    refine (HC.out _).mono ?_
    rintro e w1 ⟨rfl, hb⟩
    clear p0 p1
    replace K_p := hide (Blk.below K_p.out hb (Blk.lt K_p.out))
    replace HB := hide (HB.out.trans (hb.mono HB.out.size))
    clear hb
    go_wp2_with fail
    go_ret
    exact ⟨rfl, HB.out⟩
  · by_cases h1 : lot < N
    · have HC := hide (fun W => rfck_any W N C)
      rw [ckP_zero.2 (Classical.not_not.1 h0)] at HC
      have hr : ckL N C lot = 2 := ckL_two.2 (by omega)
      rw [hr]
      clear hr h0
      have HB := allocs_below w [.cells #[.int .i64 N, .int .i64 C] 23]
      have K_p : Blk (allocs w [.cells #[.int .i64 N, .int .i64 C] 23]) (w.heap.size + 0) 23 #[.int .i64 N, .int .i64 C] := allocs_at w [.cells #[.int .i64 N, .int .i64 C] 23] 0 rfl
      unfold allocs at HB K_p
      simp only [List.foldl_cons, List.foldl_nil] at HB K_p
      rw [Nat.add_zero] at K_p
      go_enter Tryz.func42, Tryz.ntmps42
      go_upto_region 1 with (fail)
      generalize (w.alloc (.cells #[.int .i64 N, .int .i64 C] 23)) = w0 at *
      replace K_p := hide K_p
      replace HB := hide HB
      have p0 := (Blk.cell K_p.out 0).trans (rfl : _ = some (Value.int .i64 N))
      have p1 := (Blk.cell K_p.out 1).trans (rfl : _ = some (Value.int .i64 C))
      go_wp2_with fail
      refine (HC.out _).mono ?_
      rintro e w1 ⟨rfl, hb⟩
      clear p0 p1
      replace K_p := hide (Blk.below K_p.out hb (Blk.lt K_p.out))
      replace HB := hide (HB.out.trans (hb.mono HB.out.size))
      clear hb
      have p0 := (Blk.cell K_p.out 0).trans (rfl : _ = some (Value.int .i64 N))
      have p1 := (Blk.cell K_p.out 1).trans (rfl : _ = some (Value.int .i64 C))
      go_wp2_with fail
      go_ret
      exact ⟨rfl, HB.out⟩
    · by_cases h2 : 4096 < lot
      · have HC := hide (fun W => rfck_any W N C)
        rw [ckP_zero.2 (Classical.not_not.1 h0)] at HC
        have hr : ckL N C lot = 2 := ckL_two.2 (by omega)
        rw [hr]
        clear hr h0
        have HB := allocs_below w [.cells #[.int .i64 N, .int .i64 C] 23]
        have K_p : Blk (allocs w [.cells #[.int .i64 N, .int .i64 C] 23]) (w.heap.size + 0) 23 #[.int .i64 N, .int .i64 C] := allocs_at w [.cells #[.int .i64 N, .int .i64 C] 23] 0 rfl
        unfold allocs at HB K_p
        simp only [List.foldl_cons, List.foldl_nil] at HB K_p
        rw [Nat.add_zero] at K_p
        go_enter Tryz.func42, Tryz.ntmps42
        go_upto_region 1 with (fail)
        generalize (w.alloc (.cells #[.int .i64 N, .int .i64 C] 23)) = w0 at *
        replace K_p := hide K_p
        replace HB := hide HB
        have p0 := (Blk.cell K_p.out 0).trans (rfl : _ = some (Value.int .i64 N))
        have p1 := (Blk.cell K_p.out 1).trans (rfl : _ = some (Value.int .i64 C))
        go_wp2_with fail
        refine (HC.out _).mono ?_
        rintro e w1 ⟨rfl, hb⟩
        clear p0 p1
        replace K_p := hide (Blk.below K_p.out hb (Blk.lt K_p.out))
        replace HB := hide (HB.out.trans (hb.mono HB.out.size))
        clear hb
        have p0 := (Blk.cell K_p.out 0).trans (rfl : _ = some (Value.int .i64 N))
        have p1 := (Blk.cell K_p.out 1).trans (rfl : _ = some (Value.int .i64 C))
        go_wp2_with fail
        go_ret
        exact ⟨rfl, HB.out⟩
      · have HC := hide (fun W => rfck_any W N C)
        rw [ckP_zero.2 (Classical.not_not.1 h0)] at HC
        have hr : ckL N C lot = 0 := ckL_zero.2 (by omega)
        rw [hr]
        clear hr h0
        have HB := allocs_below w [.cells #[.int .i64 N, .int .i64 C] 23]
        have K_p : Blk (allocs w [.cells #[.int .i64 N, .int .i64 C] 23]) (w.heap.size + 0) 23 #[.int .i64 N, .int .i64 C] := allocs_at w [.cells #[.int .i64 N, .int .i64 C] 23] 0 rfl
        unfold allocs at HB K_p
        simp only [List.foldl_cons, List.foldl_nil] at HB K_p
        rw [Nat.add_zero] at K_p
        go_enter Tryz.func42, Tryz.ntmps42
        go_upto_region 1 with (fail)
        generalize (w.alloc (.cells #[.int .i64 N, .int .i64 C] 23)) = w0 at *
        replace K_p := hide K_p
        replace HB := hide HB
        have p0 := (Blk.cell K_p.out 0).trans (rfl : _ = some (Value.int .i64 N))
        have p1 := (Blk.cell K_p.out 1).trans (rfl : _ = some (Value.int .i64 C))
        go_wp2_with fail
        refine (HC.out _).mono ?_
        rintro e w1 ⟨rfl, hb⟩
        clear p0 p1
        replace K_p := hide (Blk.below K_p.out hb (Blk.lt K_p.out))
        replace HB := hide (HB.out.trans (hb.mono HB.out.size))
        clear hb
        have p0 := (Blk.cell K_p.out 0).trans (rfl : _ = some (Value.int .i64 N))
        have p1 := (Blk.cell K_p.out 1).trans (rfl : _ = some (Value.int .i64 C))
        go_wp2_with fail
        go_ret
        exact ⟨rfl, HB.out⟩

set_option maxRecDepth 100000 in
set_option maxHeartbeats 1000000 in
theorem rfgv_any (w : World) (N C lot bad : Int) :
    Calls Tryz.prog 45 #[.agg #[.int .i64 N, .int .i64 C], .int .i64 lot, .int .i64 bad] w fun e w' => e = .returned (.int .i64 (ckG N C lot bad)) ∧ Below w.heap.size w w' := by
  by_cases h0 : ¬ ((1 ≤ N ∧ N ≤ 256 ∧ 0 ≤ C ∧ C ≤ N) ∧ N ≤ lot ∧ lot ≤ 4096)
  · have HC := hide (fun W => rfsz_any W N C lot)
    rw [ckL_two.2 h0] at HC
    have hr : ckG N C lot bad = 2 := ckG_two.2 (by omega)
    rw [hr]
    clear hr h0
    have HB := allocs_below w [.cells #[.int .i64 N, .int .i64 C] 23]
    have K_p : Blk (allocs w [.cells #[.int .i64 N, .int .i64 C] 23]) (w.heap.size + 0) 23 #[.int .i64 N, .int .i64 C] := allocs_at w [.cells #[.int .i64 N, .int .i64 C] 23] 0 rfl
    unfold allocs at HB K_p
    simp only [List.foldl_cons, List.foldl_nil] at HB K_p
    rw [Nat.add_zero] at K_p
    go_enter Tryz.func45, Tryz.ntmps45
    go_upto_region 1 with (fail)
    generalize (w.alloc (.cells #[.int .i64 N, .int .i64 C] 23)) = w0 at *
    replace K_p := hide K_p
    replace HB := hide HB
    have p0 := (Blk.cell K_p.out 0).trans (rfl : _ = some (Value.int .i64 N))
    have p1 := (Blk.cell K_p.out 1).trans (rfl : _ = some (Value.int .i64 C))
    go_wp2_with fail
    refine (HC.out _).mono ?_
    rintro e w1 ⟨rfl, hb⟩
    clear p0 p1
    replace K_p := hide (Blk.below K_p.out hb (Blk.lt K_p.out))
    replace HB := hide (HB.out.trans (hb.mono HB.out.size))
    clear hb
    go_wp2_with fail
    go_ret
    exact ⟨rfl, HB.out⟩
  · by_cases h1 : bad < 0
    · have HC := hide (fun W => rfsz_any W N C lot)
      rw [ckL_zero.2 (Classical.not_not.1 h0)] at HC
      have hr : ckG N C lot bad = 2 := ckG_two.2 (by omega)
      rw [hr]
      clear hr h0
      have HB := allocs_below w [.cells #[.int .i64 N, .int .i64 C] 23]
      have K_p : Blk (allocs w [.cells #[.int .i64 N, .int .i64 C] 23]) (w.heap.size + 0) 23 #[.int .i64 N, .int .i64 C] := allocs_at w [.cells #[.int .i64 N, .int .i64 C] 23] 0 rfl
      unfold allocs at HB K_p
      simp only [List.foldl_cons, List.foldl_nil] at HB K_p
      rw [Nat.add_zero] at K_p
      go_enter Tryz.func45, Tryz.ntmps45
      go_upto_region 1 with (fail)
      generalize (w.alloc (.cells #[.int .i64 N, .int .i64 C] 23)) = w0 at *
      replace K_p := hide K_p
      replace HB := hide HB
      have p0 := (Blk.cell K_p.out 0).trans (rfl : _ = some (Value.int .i64 N))
      have p1 := (Blk.cell K_p.out 1).trans (rfl : _ = some (Value.int .i64 C))
      go_wp2_with fail
      refine (HC.out _).mono ?_
      rintro e w1 ⟨rfl, hb⟩
      clear p0 p1
      replace K_p := hide (Blk.below K_p.out hb (Blk.lt K_p.out))
      replace HB := hide (HB.out.trans (hb.mono HB.out.size))
      clear hb
      have p0 := (Blk.cell K_p.out 0).trans (rfl : _ = some (Value.int .i64 N))
      have p1 := (Blk.cell K_p.out 1).trans (rfl : _ = some (Value.int .i64 C))
      go_wp2_with fail
      go_ret
      exact ⟨rfl, HB.out⟩
    · by_cases h2 : lot < bad
      · have HC := hide (fun W => rfsz_any W N C lot)
        rw [ckL_zero.2 (Classical.not_not.1 h0)] at HC
        have hr : ckG N C lot bad = 2 := ckG_two.2 (by omega)
        rw [hr]
        clear hr h0
        have HB := allocs_below w [.cells #[.int .i64 N, .int .i64 C] 23]
        have K_p : Blk (allocs w [.cells #[.int .i64 N, .int .i64 C] 23]) (w.heap.size + 0) 23 #[.int .i64 N, .int .i64 C] := allocs_at w [.cells #[.int .i64 N, .int .i64 C] 23] 0 rfl
        unfold allocs at HB K_p
        simp only [List.foldl_cons, List.foldl_nil] at HB K_p
        rw [Nat.add_zero] at K_p
        go_enter Tryz.func45, Tryz.ntmps45
        go_upto_region 1 with (fail)
        generalize (w.alloc (.cells #[.int .i64 N, .int .i64 C] 23)) = w0 at *
        replace K_p := hide K_p
        replace HB := hide HB
        have p0 := (Blk.cell K_p.out 0).trans (rfl : _ = some (Value.int .i64 N))
        have p1 := (Blk.cell K_p.out 1).trans (rfl : _ = some (Value.int .i64 C))
        go_wp2_with fail
        refine (HC.out _).mono ?_
        rintro e w1 ⟨rfl, hb⟩
        clear p0 p1
        replace K_p := hide (Blk.below K_p.out hb (Blk.lt K_p.out))
        replace HB := hide (HB.out.trans (hb.mono HB.out.size))
        clear hb
        have p0 := (Blk.cell K_p.out 0).trans (rfl : _ = some (Value.int .i64 N))
        have p1 := (Blk.cell K_p.out 1).trans (rfl : _ = some (Value.int .i64 C))
        go_wp2_with fail
        go_ret
        exact ⟨rfl, HB.out⟩
      · have HC := hide (fun W => rfsz_any W N C lot)
        rw [ckL_zero.2 (Classical.not_not.1 h0)] at HC
        have hr : ckG N C lot bad = 0 := ckG_zero.2 (by omega)
        rw [hr]
        clear hr h0
        have HB := allocs_below w [.cells #[.int .i64 N, .int .i64 C] 23]
        have K_p : Blk (allocs w [.cells #[.int .i64 N, .int .i64 C] 23]) (w.heap.size + 0) 23 #[.int .i64 N, .int .i64 C] := allocs_at w [.cells #[.int .i64 N, .int .i64 C] 23] 0 rfl
        unfold allocs at HB K_p
        simp only [List.foldl_cons, List.foldl_nil] at HB K_p
        rw [Nat.add_zero] at K_p
        go_enter Tryz.func45, Tryz.ntmps45
        go_upto_region 1 with (fail)
        generalize (w.alloc (.cells #[.int .i64 N, .int .i64 C] 23)) = w0 at *
        replace K_p := hide K_p
        replace HB := hide HB
        have p0 := (Blk.cell K_p.out 0).trans (rfl : _ = some (Value.int .i64 N))
        have p1 := (Blk.cell K_p.out 1).trans (rfl : _ = some (Value.int .i64 C))
        go_wp2_with fail
        refine (HC.out _).mono ?_
        rintro e w1 ⟨rfl, hb⟩
        clear p0 p1
        replace K_p := hide (Blk.below K_p.out hb (Blk.lt K_p.out))
        replace HB := hide (HB.out.trans (hb.mono HB.out.size))
        clear hb
        have p0 := (Blk.cell K_p.out 0).trans (rfl : _ = some (Value.int .i64 N))
        have p1 := (Blk.cell K_p.out 1).trans (rfl : _ = some (Value.int .i64 C))
        go_wp2_with fail
        go_ret
        exact ⟨rfl, HB.out⟩

set_option maxRecDepth 100000 in
set_option maxHeartbeats 1000000 in
theorem plAccept_bad (w : World) (N C lot bad : Int) (h : ckG N C lot bad = 2) :
    Calls Tryz.prog 13 #[.agg #[.int .i64 N, .int .i64 C], .int .i64 lot, .int .i64 bad] w fun e w' => e = .returned (.tuple #[.string ⟨#[]⟩, .int .i64 2]) ∧ Below w.heap.size w w' := by
  have HC := hide (plgv_any (w.alloc (.cells #[.int .i64 N, .int .i64 C] 30)) N C lot bad)
  have BW := hide ((Below.refl w.heap.size w).alloc (Nat.le_refl _) (.cells #[.int .i64 N, .int .i64 C] 30))
  rw [h] at HC
  go_enter Tryz.func13, Tryz.ntmps13
  go_wp2_with fail
  refine HC.out.mono ?_
  rintro e w1 ⟨rfl, hb⟩
  have HB := hide (BW.out.trans (hb.mono BW.out.size))
  clear HC hb
  go_wp2_with fail
  go_ret2
  exact ⟨rfl, HB.out⟩

set_option maxRecDepth 100000 in
set_option maxHeartbeats 1000000 in
theorem plAccept_any (w : World) (N C lot bad : Nat) (h1 : 1 ≤ N) (hC : C ≤ N) (hNl : N ≤ lot) (hbl : bad ≤ lot) (hl : lot ≤ 64) (hs : Std w) :
    Calls Tryz.prog 13 #[.agg #[.int .i64 (N : Int), .int .i64 (C : Int)], .int .i64 (lot : Int), .int .i64 (bad : Int)] w fun e w' => RetRat (accQ bad (lot - bad) N C) e ∧ Below w.heap.size w w' := by
  have HC := hide (fun W => plgv_any W (N : Int) (C : Int) (lot : Int) (bad : Int))
  rw [ckG_zero.2 (by omega)] at HC
  have HA := hide (fun W (hS : Std W) => accept_any W N C lot bad hC hNl hbl hl (by omega) hS)
  have HS := hide hs
  clear h1 hC hNl hbl hl hs
  have HB := allocs_below w [.cells #[.int .i64 (N : Int), .int .i64 (C : Int)] 30]
  have K_p : Blk (allocs w [.cells #[.int .i64 (N : Int), .int .i64 (C : Int)] 30]) (w.heap.size + 0) 30 #[.int .i64 (N : Int), .int .i64 (C : Int)] := allocs_at w [.cells #[.int .i64 (N : Int), .int .i64 (C : Int)] 30] 0 rfl
  unfold allocs at HB K_p
  simp only [List.foldl_cons, List.foldl_nil] at HB K_p
  rw [Nat.add_zero] at K_p
  go_enter Tryz.func13, Tryz.ntmps13
  go_upto_region 1 with (fail)
  generalize (w.alloc (.cells #[.int .i64 (N : Int), .int .i64 (C : Int)] 30)) = w0 at *
  replace K_p := hide K_p
  replace HB := hide HB
  have p0 := (Blk.cell K_p.out 0).trans (rfl : _ = some (Value.int .i64 (N : Int)))
  have p1 := (Blk.cell K_p.out 1).trans (rfl : _ = some (Value.int .i64 (C : Int)))
  go_wp2_with fail
  refine (HC.out _).mono ?_
  rintro e w1 ⟨rfl, hb⟩
  clear p0 p1
  replace K_p := hide (Blk.below K_p.out hb (Blk.lt K_p.out))
  replace HB := hide (HB.out.trans (hb.mono HB.out.size))
  clear hb
  have p0 := (Blk.cell K_p.out 0).trans (rfl : _ = some (Value.int .i64 (N : Int)))
  have p1 := (Blk.cell K_p.out 1).trans (rfl : _ = some (Value.int .i64 (C : Int)))
  go_wp2_with fail
  refine (HA.out _ (HS.out.below HB.out (Nat.le_refl _))).mono ?_
  rintro e w2 ⟨rfl, hb⟩
  clear p0 p1
  replace K_p := hide (Blk.below K_p.out hb (Blk.lt K_p.out))
  replace HB := hide (HB.out.trans (hb.mono HB.out.size))
  clear hb
  go_wp2_with fail
  go_ret2
  exact ⟨rfl, HB.out⟩

end Go.Proofs.YtaccdkbofhlbkaaGreatDoor
