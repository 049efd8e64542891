/- PlanProcesses: Binomial and Decide of the program and of the reference. -/
import Derived.Test.YtaccdkbofhlbkaaGreatDoorRbin
namespace Go.Proofs.YtaccdkbofhlbkaaGreatDoor
open Go.RowKit Go.Shelf MLab

set_option maxRecDepth 100000 in
set_option maxHeartbeats 2000000 in
theorem rfBin_bad (w : World) (N C : Int) (a : ByteArray) (h : ckP N C = 2) :
    Calls Tryz.prog 27 #[.agg #[.int .i64 N, .int .i64 C], .string a] w fun e w' => e = .returned (.tuple #[.string ⟨#[]⟩, .int .i64 2]) ∧ Below w.heap.size w w' := by
  have HC := hide (rfck_any (w.alloc (.cells #[.int .i64 N, .int .i64 C] 23)) N C)
  have BW := hide ((Below.refl w.heap.size w).alloc (Nat.le_refl _) (.cells #[.int .i64 N, .int .i64 C] 23))
  rw [h] at HC
  go_enter Tryz.func27, Tryz.ntmps27
  go_wp2_with fail
  refine HC.out.mono ?_
  rintro e w1 ⟨rfl, hb⟩
  have HB := hide (BW.out.trans (hb.mono BW.out.size))
  clear HC hb
  go_wp2_with fail
  go_ret2
  exact ⟨rfl, HB.out⟩

set_option maxRecDepth 100000 in
set_option maxHeartbeats 2000000 in
theorem rfBin_bad1 (w : World) (N C : Int) (a : ByteArray) (l : List UInt8) (hl : a.data.toList = l) (hL : l.length ≤ 200000) (h : chkR l ≠ 0) (hp : ckP N C = 0) :
    Calls Tryz.prog 27 #[.agg #[.int .i64 N, .int .i64 C], .string a] w fun e w' => e = .returned (.tuple #[.string ⟨#[]⟩, .int .i64 (chkR l)]) ∧ Below w.heap.size w w' := by
  have HC := hide (rfck_any (w.alloc (.cells #[.int .i64 N, .int .i64 C] 23)) N C)
  have BW := hide ((Below.refl w.heap.size w).alloc (Nat.le_refl _) (.cells #[.int .i64 N, .int .i64 C] 23))
  rw [hp] at HC
  have HU := hide (fun W => runit_bad W a l hl hL h)
  obtain ⟨z, hz, hz0⟩ := chkR_ne h
  rw [hz] at HU ⊢
  clear hl hz h
  go_enter Tryz.func27, Tryz.ntmps27
  go_wp2_with fail
  refine HC.out.mono ?_
  rintro e w1 ⟨rfl, hb⟩
  have HB := hide (BW.out.trans (hb.mono BW.out.size))
  clear HC hb
  go_wp2_with fail
  refine (HU.out _).mono ?_
  rintro e w2 ⟨rfl, hb⟩
  replace HB := hide (HB.out.trans (hb.mono HB.out.size))
  clear HU hb
  go_wp2_with fail
  go_ret2
  exact ⟨rfl, HB.out⟩

set_option maxRecDepth 100000 in
set_option maxHeartbeats 2000000 in
theorem rfBin_bad2 (w : World) (N C : Int) (a : ByteArray) (q : Rat) (ha : a.data.toList = RT q) (hq : Sz 30 30 q) (h : unitQ q = 2) (hp : ckP N C = 0) :
    Calls Tryz.prog 27 #[.agg #[.int .i64 N, .int .i64 C], .string a] w fun e w' => e = .returned (.tuple #[.string ⟨#[]⟩, .int .i64 (2)]) ∧ Below w.heap.size w w' := by
  have HC := hide (rfck_any (w.alloc (.cells #[.int .i64 N, .int .i64 C] 23)) N C)
  have BW := hide ((Below.refl w.heap.size w).alloc (Nat.le_refl _) (.cells #[.int .i64 N, .int .i64 C] 23))
  rw [hp] at HC
  have HU := hide (fun W => runit_any W a q ha hq)
  rw [h] at HU
  clear ha hq h
  go_enter Tryz.func27, Tryz.ntmps27
  go_wp2_with fail
  refine HC.out.mono ?_
  rintro e w1 ⟨rfl, hb⟩
  have HB := hide (BW.out.trans (hb.mono BW.out.size))
  clear HC hb
  go_wp2_with fail
  refine (HU.out _).mono ?_
  rintro e w2 ⟨rfl, hb⟩
  replace HB := hide (HB.out.trans (hb.mono HB.out.size))
  clear HU hb
  go_wp2_with fail
  go_ret2
  exact ⟨rfl, HB.out⟩

set_option maxRecDepth 100000 in
set_option maxHeartbeats 2000000 in
theorem rfBin_any (w : World) (N C : Nat) (a : ByteArray) (q : Rat) (ha : a.data.toList = RT q) (hq : Sz 13 13 q) (hrq : Sz 14 14 (1 - q)) (hu : unitQ q = 0) (h1 : 1 ≤ N) (hC : C ≤ N) (hN8 : N ≤ 8) :
    Calls Tryz.prog 27 #[.agg #[.int .i64 (N : Int), .int .i64 (C : Int)], .string a] w fun e w' => RetRat (docQ q N C) e ∧ Below w.heap.size w w' := by
  have HC := hide (fun W => rfck_any W (N : Int) (C : Int))
  rw [ckP_zero.2 (by omega)] at HC
  have HU := hide (fun W => runit_any W a q ha (hq.mono (by omega) (by omega)))
  rw [hu] at HU
  have HP := hide (fun W => process_any W N C a q ha hq hrq hC hN8)
  obtain ⟨d, hd⟩ : ∃ d, docQ q N C = d := ⟨_, rfl⟩
  rw [hd] at HP ⊢
  clear ha hq hrq hd
  have HB := allocs_below w [.cells #[.int .i64 (N : Int), .int .i64 (C : Int)] 23]
  have K_p : Blk (allocs w [.cells #[.int .i64 (N : Int), .int .i64 (C : Int)] 23]) (w.heap.size + 0) 23 #[.int .i64 (N : Int), .int .i64 (C : Int)] := allocs_at w [.cells #[.int .i64 (N : Int), .int .i64 (C : Int)] 23] 0 rfl
  unfold allocs at HB K_p
  simp only [List.foldl_cons, List.foldl_nil] at HB K_p
  rw [Nat.add_zero] at K_p
  go_enter Tryz.func27, Tryz.ntmps27
  go_upto_region 1 with (fail)
  generalize (w.alloc (.cells #[.int .i64 (N : Int), .int .i64 (C : Int)] 23)) = w0 at *
  replace K_p := hide K_p
  replace HB := hide HB
  have p0 := (Blk.cell K_p.out 0).trans (rfl : _ = some (Value.int .i64 (N : Int)))
  have p1 := (Blk.cell K_p.out 1).trans (rfl : _ = some (Value.int .i64 (C : Int)))
  go_wp2_with fail
  refine (HC.out _).mono ?_
  rintro e w1 ⟨rfl, hb⟩
  clear p0 p1
  replace K_p := hide (Blk.below K_p.out hb (Blk.lt K_p.out))
  replace HB := hide (HB.out.trans (hb.mono HB.out.size))
  clear hb
  go_wp2_with fail
  refine (HU.out _).mono ?_
  rintro e w2 ⟨rfl, hb⟩
  replace K_p := hide (Blk.below K_p.out hb (Blk.lt K_p.out))
  replace HB := hide (HB.out.trans (hb.mono HB.out.size))
  clear hb
  have p0 := (Blk.cell K_p.out 0).trans (rfl : _ = some (Value.int .i64 (N : Int)))
  have p1 := (Blk.cell K_p.out 1).trans (rfl : _ = some (Value.int .i64 (C : Int)))
  go_wp2_with fail
  refine (HP.out _).mono ?_
  rintro e w3 ⟨rfl, hb⟩
  clear p0 p1
  replace K_p := hide (Blk.below K_p.out hb (Blk.lt K_p.out))
  replace HB := hide (HB.out.trans (hb.mono HB.out.size))
  clear hb
  go_wp2_with fail
  go_ret2
  exact ⟨rfl, HB.out⟩

/-- What Decide returns. -/
def dcE (N C bad : Int) : Int := if (1 ≤ N ∧ N ≤ 256 ∧ 0 ≤ C ∧ C ≤ N) ∧ 0 ≤ bad ∧ bad ≤ N then 0 else 2
def dcB (N C bad : Int) : Bool := if (1 ≤ N ∧ N ≤ 256 ∧ 0 ≤ C ∧ C ≤ N) ∧ 0 ≤ bad ∧ bad ≤ N then decide (bad ≤ C) else false

set_option maxRecDepth 100000 in
set_option maxHeartbeats 2000000 in
theorem pldec_any (w : World) (N C bad : Int) :
    Calls Tryz.prog 28 #[.agg #[.int .i64 N, .int .i64 C], .int .i64 bad] w fun e w' => e = .returned (.tuple #[.bool (dcB N C bad), .int .i64 (dcE N C bad)]) ∧ Below w.heap.size w w' := by
  by_cases h0 : ¬ (1 ≤ N ∧ N ≤ 256 ∧ 0 ≤ C ∧ C ≤ N)
  · have HC := hide (fun W => plck_any W N C)
    rw [ckP_two.2 h0] at HC
    have e1 : dcE N C bad = 2 := by unfold dcE; rw [if_neg (by omega)]
    have e2 : dcB N C bad = false := by unfold dcB; rw [if_neg (by omega)]
    rw [e1, e2]
    clear e1 e2 h0
    have HB := allocs_below w [.cells #[.int .i64 N, .int .i64 C] 30]
    have K_p : Blk (allocs w [.cells #[.int .i64 N, .int .i64 C] 30]) (w.heap.size + 0) 30 #[.int .i64 N, .int .i64 C] := allocs_at w [.cells #[.int .i64 N, .int .i64 C] 30] 0 rfl
    unfold allocs at HB K_p
    simp only [List.foldl_cons, List.foldl_nil] at HB K_p
    rw [Nat.add_zero] at K_p
    go_enter Tryz.func28, Tryz.ntmps28
    go_upto_region 1 with (fail)
    generalize (w.alloc (.cells #[.int .i64 N, .int .i64 C] 30)) = w0 at *
    replace K_p := hide K_p
    replace HB := hide HB
    have p0 := (Blk.cell K_p.out 0).trans (rfl : _ = some (Value.int .i64 N))
    have p1 := (Blk.cell K_p.out 1).trans (rfl : _ = some (Value.int .i64 C))
    go_wp2_with fail
    refine (HC.out _).mono ?_
    rintro e w1 ⟨rfl, hb⟩
    clear p0 p1
    replace K_p := hide (Blk.below K_p.out hb (Blk.lt K_p.out))
    replace HB := hide (HB.out.trans (hb.mono HB.out.size))
    clear hb
    go_wp2_with fail
    go_ret2
    exact ⟨rfl, HB.out⟩
  · by_cases h1 : bad < 0
    · have HC := hide (fun W => plck_any W N C)
      rw [ckP_zero.2 (Classical.not_not.1 h0)] at HC
      have e1 : dcE N C bad = 2 := by unfold dcE; rw [if_neg (by omega)]
      have e2 : dcB N C bad = false := by unfold dcB; rw [if_neg (by omega)]
      rw [e1, e2]
      clear e1 e2 h0
      have HB := allocs_below w [.cells #[.int .i64 N, .int .i64 C] 30]
      have K_p : Blk (allocs w [.cells #[.int .i64 N, .int .i64 C] 30]) (w.heap.size + 0) 30 #[.int .i64 N, .int .i64 C] := allocs_at w [.cells #[.int .i64 N, .int .i64 C] 30] 0 rfl
      unfold allocs at HB K_p
      simp only [List.foldl_cons, List.foldl_nil] at HB K_p
      rw [Nat.add_zero] at K_p
      go_enter Tryz.func28, Tryz.ntmps28
      go_upto_region 1 with (fail)
      generalize (w.alloc (.cells #[.int .i64 N, .int .i64 C] 30)) = w0 at *
      replace K_p := hide K_p
      replace HB := hide HB
      have p0 := (Blk.cell K_p.out 0).trans (rfl : _ = some (Value.int .i64 N))
      have p1 := (Blk.cell K_p.out 1).trans (rfl : _ = some (Value.int .i64 C))
      go_wp2_with fail
      refine (HC.out _).mono ?_
      rintro e w1 ⟨rfl, hb⟩
      clear p0 p1
      replace K_p := hide (Blk.below K_p.out hb (Blk.lt K_p.out))
      replace HB := hide (HB.out.trans (hb.mono HB.out.size))
      clear hb
      have p0 := (Blk.cell K_p.out 0).trans (rfl : _ = some (Value.int .i64 N))
      have p1 := (Blk.cell K_p.out 1).trans (rfl : _ = some (Value.int .i64 C))
      go_wp2_with fail
      go_ret2
      exact ⟨rfl, HB.out⟩
    · by_cases h2 : N < bad
      · have HC := hide (fun W => plck_any W N C)
        rw [ckP_zero.2 (Classical.not_not.1 h0)] at HC
        have e1 : dcE N C bad = 2 := by unfold dcE; rw [if_neg (by omega)]
        have e2 : dcB N C bad = false := by unfold dcB; rw [if_neg (by omega)]
        rw [e1, e2]
        clear e1 e2 h0
        have HB := allocs_below w [.cells #[.int .i64 N, .int .i64 C] 30]
        have K_p : Blk (allocs w [.cells #[.int .i64 N, .int .i64 C] 30]) (w.heap.size + 0) 30 #[.int .i64 N, .int .i64 C] := allocs_at w [.cells #[.int .i64 N, .int .i64 C] 30] 0 rfl
        unfold allocs at HB K_p
        simp only [List.foldl_cons, List.foldl_nil] at HB K_p
        rw [Nat.add_zero] at K_p
        go_enter Tryz.func28, Tryz.ntmps28
        go_upto_region 1 with (fail)
        generalize (w.alloc (.cells #[.int .i64 N, .int .i64 C] 30)) = w0 at *
        replace K_p := hide K_p
        replace HB := hide HB
        have p0 := (Blk.cell K_p.out 0).trans (rfl : _ = some (Value.int .i64 N))
        have p1 := (Blk.cell K_p.out 1).trans (rfl : _ = some (Value.int .i64 C))
        go_wp2_with fail
        refine (HC.out _).mono ?_
        rintro e w1 ⟨rfl, hb⟩
        clear p0 p1
        replace K_p := hide (Blk.below K_p.out hb (Blk.lt K_p.out))
        replace HB := hide (HB.out.trans (hb.mono HB.out.size))
        clear hb
        have p0 := (Blk.cell K_p.out 0).trans (rfl : _ = some (Value.int .i64 N))
        have p1 := (Blk.cell K_p.out 1).trans (rfl : _ = some (Value.int .i64 C))
        go_wp2_with fail
        go_ret2
        exact ⟨rfl, HB.out⟩
      · by_cases h3 : bad ≤ C
        · have HC := hide (fun W => plck_any W N C)
          rw [ckP_zero.2 (Classical.not_not.1 h0)] at HC
          have e1 : dcE N C bad = 0 := by unfold dcE; rw [if_pos (by omega)]
          have e2 : dcB N C bad = true := by unfold dcB; rw [if_pos (by omega)]; simp; omega
          rw [e1, e2]
          clear e1 e2 h0
          have HB := allocs_below w [.cells #[.int .i64 N, .int .i64 C] 30]
          have K_p : Blk (allocs w [.cells #[.int .i64 N, .int .i64 C] 30]) (w.heap.size + 0) 30 #[.int .i64 N, .int .i64 C] := allocs_at w [.cells #[.int .i64 N, .int .i64 C] 30] 0 rfl
          unfold allocs at HB K_p
          simp only [List.foldl_cons, List.foldl_nil] at HB K_p
          rw [Nat.add_zero] at K_p
          go_enter Tryz.func28, Tryz.ntmps28
          go_upto_region 1 with (fail)
          generalize (w.alloc (.cells #[.int .i64 N, .int .i64 C] 30)) = w0 at *
          replace K_p := hide K_p
          replace HB := hide HB
          have p0 := (Blk.cell K_p.out 0).trans (rfl : _ = some (Value.int .i64 N))
          have p1 := (Blk.cell K_p.out 1).trans (rfl : _ = some (Value.int .i64 C))
          go_wp2_with fail
          refine (HC.out _).mono ?_
          rintro e w1 ⟨rfl, hb⟩
          clear p0 p1
          replace K_p := hide (Blk.below K_p.out hb (Blk.lt K_p.out))
          replace HB := hide (HB.out.trans (hb.mono HB.out.size))
          clear hb
          have p0 := (Blk.cell K_p.out 0).trans (rfl : _ = some (Value.int .i64 N))
          have p1 := (Blk.cell K_p.out 1).trans (rfl : _ = some (Value.int .i64 C))
          go_wp2_with fail
          go_ret2
          exact ⟨rfl, HB.out⟩
        · have HC := hide (fun W => plck_any W N C)
          rw [ckP_zero.2 (Classical.not_not.1 h0)] at HC
          have e1 : dcE N C bad = 0 := by unfold dcE; rw [if_pos (by omega)]
          have e2 : dcB N C bad = false := by unfold dcB; rw [if_pos (by omega)]; simp; omega
          rw [e1, e2]
          clear e1 e2 h0
          have HB := allocs_below w [.cells #[.int .i64 N, .int .i64 C] 30]
          have K_p : Blk (allocs w [.cells #[.int .i64 N, .int .i64 C] 30]) (w.heap.size + 0) 30 #[.int .i64 N, .int .i64 C] := allocs_at w [.cells #[.int .i64 N, .int .i64 C] 30] 0 rfl
          unfold allocs at HB K_p
          simp only [List.foldl_cons, List.foldl_nil] at HB K_p
          rw [Nat.add_zero] at K_p
          go_enter Tryz.func28, Tryz.ntmps28
          go_upto_region 1 with (fail)
          generalize (w.alloc (.cells #[.int .i64 N, .int .i64 C] 30)) = w0 at *
          replace K_p := hide K_p
          replace HB := hide HB
          have p0 := (Blk.cell K_p.out 0).trans (rfl : _ = some (Value.int .i64 N))
          have p1 := (Blk.cell K_p.out 1).trans (rfl : _ = some (Value.int .i64 C))
          go_wp2_with fail
          refine (HC.out _).mono ?_
          rintro e w1 ⟨rfl, hb⟩
          clear p0 p1
          replace K_p := hide (Blk.below K_p.out hb (Blk.lt K_p.out))
          replace HB := hide (HB.out.trans (hb.mono HB.out.size))
          clear hb
          have p0 := (Blk.cell K_p.out 0).trans (rfl : _ = some (Value.int .i64 N))
          have p1 := (Blk.cell K_p.out 1).trans (rfl : _ = some (Value.int .i64 C))
          go_wp2_with fail
          go_ret2
          exact ⟨by rw [show false = decide (bad ≤ C) from (decide_eq_false (by omega)).symm]; rfl, HB.out⟩

set_option maxRecDepth 100000 in
set_option maxHeartbeats 2000000 in
theorem rfdec_any (w : World) (N C bad : Int) :
    Calls Tryz.prog 29 #[.agg #[.int .i64 N, .int .i64 C], .int .i64 bad] w fun e w' => e = .returned (.tuple #[.bool (dcB N C bad), .int .i64 (dcE N C bad)]) ∧ Below w.heap.size w w' := by
  by_cases h0 : ¬ (1 ≤ N ∧ N ≤ 256 ∧ 0 ≤ C ∧ C ≤ N)
  · have HC := hide (fun W => rfck_any W N C)
    rw [ckP_two.2 h0] at HC
    have e1 : dcE N C bad = 2 := by unfold dcE; rw [if_neg (by omega)]
    have e2 : dcB N C bad = false := by unfold dcB; rw [if_neg (by omega)]
    rw [e1, e2]
    clear e1 e2 h0
    have HB := allocs_below w [.cells #[.int .i64 N, .int .i64 C] 23]
    have K_p : Blk (allocs w [.cells #[.int .i64 N, .int .i64 C] 23]) (w.heap.size + 0) 23 #[.int .i64 N, .int .i64 C] := allocs_at w [.cells #[.int .i64 N, .int .i64 C] 23] 0 rfl
    unfold allocs at HB K_p
    simp only [List.foldl_cons, List.foldl_nil] at HB K_p
    rw [Nat.add_zero] at K_p
    go_enter Tryz.func29, Tryz.ntmps29
    go_upto_region 1 with (fail)
    generalize (w.alloc (.cells #[.int .i64 N, .int .i64 C] 23)) = w0 at *
    replace K_p := hide K_p
    replace HB := hide HB
    have p0 := (Blk.cell K_p.out 0).trans (rfl : _ = some (Value.int .i64 N))
    have p1 := (Blk.cell K_p.out 1).trans (rfl : _ = some (Value.int .i64 C))
    go_wp2_with fail
    refine (HC.out _).mono ?_
    rintro e w1 ⟨rfl, hb⟩
    clear p0 p1
    replace K_p := hide (Blk.below K_p.out hb (Blk.lt K_p.out))
    replace HB := hide (HB.out.trans (hb.mono HB.out.size))
    clear hb
    go_wp2_with fail
    go_ret2
    exact ⟨rfl, HB.out⟩
  · by_cases h1 : bad < 0
    · have HC := hide (fun W => rfck_any W N C)
      rw [ckP_zero.2 (Classical.not_not.1 h0)] at HC
      have e1 : dcE N C bad = 2 := by unfold dcE; rw [if_neg (by omega)]
      have e2 : dcB N C bad = false := by unfold dcB; rw [if_neg (by omega)]
      rw [e1, e2]
      clear e1 e2 h0
      have HB := allocs_below w [.cells #[.int .i64 N, .int .i64 C] 23]
      have K_p : Blk (allocs w [.cells #[.int .i64 N, .int .i64 C] 23]) (w.heap.size + 0) 23 #[.int .i64 N, .int .i64 C] := allocs_at w [.cells #[.int .i64 N, .int .i64 C] 23] 0 rfl
      unfold allocs at HB K_p
      simp only [List.foldl_cons, List.foldl_nil] at HB K_p
      rw [Nat.add_zero] at K_p
      go_enter Tryz.func29, Tryz.ntmps29
      go_upto_region 1 with (fail)
      generalize (w.alloc (.cells #[.int .i64 N, .int .i64 C] 23)) = w0 at *
      replace K_p := hide K_p
      replace HB := hide HB
      have p0 := (Blk.cell K_p.out 0).trans (rfl : _ = some (Value.int .i64 N))
      have p1 := (Blk.cell K_p.out 1).trans (rfl : _ = some (Value.int .i64 C))
      go_wp2_with fail
      refine (HC.out _).mono ?_
      rintro e w1 ⟨rfl, hb⟩
      clear p0 p1
      replace K_p := hide (Blk.below K_p.out hb (Blk.lt K_p.out))
      replace HB := hide (HB.out.trans (hb.mono HB.out.size))
      clear hb
      have p0 := (Blk.cell K_p.out 0).trans (rfl : _ = some (Value.int .i64 N))
      have p1 := (Blk.cell K_p.out 1).trans (rfl : _ = some (Value.int .i64 C))
      go_wp2_with fail
      go_ret2
      exact ⟨rfl, HB.out⟩
    · by_cases h2 : N < bad
      · have HC := hide (fun W => rfck_any W N C)
        rw [ckP_zero.2 (Classical.not_not.1 h0)] at HC
        have e1 : dcE N C bad = 2 := by unfold dcE; rw [if_neg (by omega)]
        have e2 : dcB N C bad = false := by unfold dcB; rw [if_neg (by omega)]
        rw [e1, e2]
        clear e1 e2 h0
        have HB := allocs_below w [.cells #[.int .i64 N, .int .i64 C] 23]
        have K_p : Blk (allocs w [.cells #[.int .i64 N, .int .i64 C] 23]) (w.heap.size + 0) 23 #[.int .i64 N, .int .i64 C] := allocs_at w [.cells #[.int .i64 N, .int .i64 C] 23] 0 rfl
        unfold allocs at HB K_p
        simp only [List.foldl_cons, List.foldl_nil] at HB K_p
        rw [Nat.add_zero] at K_p
        go_enter Tryz.func29, Tryz.ntmps29
        go_upto_region 1 with (fail)
        generalize (w.alloc (.cells #[.int .i64 N, .int .i64 C] 23)) = w0 at *
        replace K_p := hide K_p
        replace HB := hide HB
        have p0 := (Blk.cell K_p.out 0).trans (rfl : _ = some (Value.int .i64 N))
        have p1 := (Blk.cell K_p.out 1).trans (rfl : _ = some (Value.int .i64 C))
        go_wp2_with fail
        refine (HC.out _).mono ?_
        rintro e w1 ⟨rfl, hb⟩
        clear p0 p1
        replace K_p := hide (Blk.below K_p.out hb (Blk.lt K_p.out))
        replace HB := hide (HB.out.trans (hb.mono HB.out.size))
        clear hb
        have p0 := (Blk.cell K_p.out 0).trans (rfl : _ = some (Value.int .i64 N))
        have p1 := (Blk.cell K_p.out 1).trans (rfl : _ = some (Value.int .i64 C))
        go_wp2_with fail
        go_ret2
        exact ⟨rfl, HB.out⟩
      · by_cases h3 : bad ≤ C
        · have HC := hide (fun W => rfck_any W N C)
          rw [ckP_zero.2 (Classical.not_not.1 h0)] at HC
          have e1 : dcE N C bad = 0 := by unfold dcE; rw [if_pos (by omega)]
          have e2 : dcB N C bad = true := by unfold dcB; rw [if_pos (by omega)]; simp; omega
          rw [e1, e2]
          clear e1 e2 h0
          have HB := allocs_below w [.cells #[.int .i64 N, .int .i64 C] 23]
          have K_p : Blk (allocs w [.cells #[.int .i64 N, .int .i64 C] 23]) (w.heap.size + 0) 23 #[.int .i64 N, .int .i64 C] := allocs_at w [.cells #[.int .i64 N, .int .i64 C] 23] 0 rfl
          unfold allocs at HB K_p
          simp only [List.foldl_cons, List.foldl_nil] at HB K_p
          rw [Nat.add_zero] at K_p
          go_enter Tryz.func29, Tryz.ntmps29
          go_upto_region 1 with (fail)
          generalize (w.alloc (.cells #[.int .i64 N, .int .i64 C] 23)) = w0 at *
          replace K_p := hide K_p
          replace HB := hide HB
          have p0 := (Blk.cell K_p.out 0).trans (rfl : _ = some (Value.int .i64 N))
          have p1 := (Blk.cell K_p.out 1).trans (rfl : _ = some (Value.int .i64 C))
          go_wp2_with fail
          refine (HC.out _).mono ?_
          rintro e w1 ⟨rfl, hb⟩
          clear p0 p1
          replace K_p := hide (Blk.below K_p.out hb (Blk.lt K_p.out))
          replace HB := hide (HB.out.trans (hb.mono HB.out.size))
          clear hb
          have p0 := (Blk.cell K_p.out 0).trans (rfl : _ = some (Value.int .i64 N))
          have p1 := (Blk.cell K_p.out 1).trans (rfl : _ = some (Value.int .i64 C))
          go_wp2_with fail
          go_ret2
          exact ⟨rfl, HB.out⟩
        · have HC := hide (fun W => rfck_any W N C)
          rw [ckP_zero.2 (Classical.not_not.1 h0)] at HC
          have e1 : dcE N C bad = 0 := by unfold dcE; rw [if_pos (by omega)]
          have e2 : dcB N C bad = false := by unfold dcB; rw [if_pos (by omega)]; simp; omega
          rw [e1, e2]
          clear e1 e2 h0
          have HB := allocs_below w [.cells #[.int .i64 N, .int .i64 C] 23]
          have K_p : Blk (allocs w [.cells #[.int .i64 N, .int .i64 C] 23]) (w.heap.size + 0) 23 #[.int .i64 N, .int .i64 C] := allocs_at w [.cells #[.int .i64 N, .int .i64 C] 23] 0 rfl
          unfold allocs at HB K_p
          simp only [List.foldl_cons, List.foldl_nil] at HB K_p
          rw [Nat.add_zero] at K_p
          go_enter Tryz.func29, Tryz.ntmps29
          go_upto_region 1 with (fail)
          generalize (w.alloc (.cells #[.int .i64 N, .int .i64 C] 23)) = w0 at *
          replace K_p := hide K_p
          replace HB := hide HB
          have p0 := (Blk.cell K_p.out 0).trans (rfl : _ = some (Value.int .i64 N))
          have p1 := (Blk.cell K_p.out 1).trans (rfl : _ = some (Value.int .i64 C))
          go_wp2_with fail
          refine (HC.out _).mono ?_
          rintro e w1 ⟨rfl, hb⟩
          clear p0 p1
          replace K_p := hide (Blk.below K_p.out hb (Blk.lt K_p.out))
          replace HB := hide (HB.out.trans (hb.mono HB.out.size))
          clear hb
          have p0 := (Blk.cell K_p.out 0).trans (rfl : _ = some (Value.int .i64 N))
          have p1 := (Blk.cell K_p.out 1).trans (rfl : _ = some (Value.int .i64 C))
          go_wp2_with fail
          go_ret2
          exact ⟨by rw [show false = decide (bad ≤ C) from (decide_eq_false (by omega)).symm]; rfl, HB.out⟩

set_option maxRecDepth 100000 in
set_option maxHeartbeats 2000000 in
theorem proc_great (w : World) (N C bad : Int) (a : ByteArray) (h8 : 8 < N) (h256 : N ≤ 256) (hs : Std w) :
    Calls Tryz.prog 6 #[.agg #[.int .i64 N, .int .i64 C], .string a, .int .i64 bad] w fun e w' => e = .returned (.bool true) ∧ Below w.heap.size w w' := by
  have HS := hide hs
  have HA := hide (fun W (hS : Std W) => awake54_any W hS)
  clear hs
  have HB := allocs_below w [.cells #[.int .i64 N, .int .i64 C] 23]
  have K_p : Blk (allocs w [.cells #[.int .i64 N, .int .i64 C] 23]) (w.heap.size + 0) 23 #[.int .i64 N, .int .i64 C] := allocs_at w [.cells #[.int .i64 N, .int .i64 C] 23] 0 rfl
  unfold allocs at HB K_p
  simp only [List.foldl_cons, List.foldl_nil] at HB K_p
  rw [Nat.add_zero] at K_p
  go_enter Tryz.func6, Tryz.ntmps6
  go_upto_region 1 with (fail)
  generalize (w.alloc (.cells #[.int .i64 N, .int .i64 C] 23)) = w0 at *
  replace K_p := hide K_p
  replace HB := hide HB
  have p0 := (Blk.cell K_p.out 0).trans (rfl : _ = some (Value.int .i64 N))
  have p1 := (Blk.cell K_p.out 1).trans (rfl : _ = some (Value.int .i64 C))
  go_wp2_with fail
  refine (HA.out _ (HS.out.below HB.out (Nat.le_refl _))).mono ?_
  rintro e w2 ⟨rfl, hb⟩
  clear p0 p1
  replace K_p := hide (Blk.below K_p.out hb (Blk.lt K_p.out))
  replace HB := hide (HB.out.trans (hb.mono HB.out.size))
  clear hb
  go_wp2_with fail
  go_ret
  exact ⟨rfl, HB.out⟩

set_option maxRecDepth 100000 in
set_option maxHeartbeats 2000000 in
theorem proc_long (w : World) (N C bad : Int) (a : ByteArray) (h : ¬ (8 < N ∧ N ≤ 256)) (hz : 12 < a.size) (hs : Std w) :
    Calls Tryz.prog 6 #[.agg #[.int .i64 N, .int .i64 C], .string a, .int .i64 bad] w fun e w' => e = .returned (.bool true) ∧ Below w.heap.size w w' := by
  by_cases h8 : 8 < N
  · have h256 : ¬ N ≤ 256 := by omega
    clear h
    have HS := hide hs
    have HA := hide (fun W (hS : Std W) => awake54_any W hS)
    clear hs
    have hz2 : (12 : Int) < ((a.size : Nat) : Int) := by omega
    have HB := allocs_below w [.cells #[.int .i64 N, .int .i64 C] 23]
    have K_p : Blk (allocs w [.cells #[.int .i64 N, .int .i64 C] 23]) (w.heap.size + 0) 23 #[.int .i64 N, .int .i64 C] := allocs_at w [.cells #[.int .i64 N, .int .i64 C] 23] 0 rfl
    unfold allocs at HB K_p
    simp only [List.foldl_cons, List.foldl_nil] at HB K_p
    rw [Nat.add_zero] at K_p
    go_enter Tryz.func6, Tryz.ntmps6
    go_upto_region 1 with (fail)
    generalize (w.alloc (.cells #[.int .i64 N, .int .i64 C] 23)) = w0 at *
    replace K_p := hide K_p
    replace HB := hide HB
    have p0 := (Blk.cell K_p.out 0).trans (rfl : _ = some (Value.int .i64 N))
    have p1 := (Blk.cell K_p.out 1).trans (rfl : _ = some (Value.int .i64 C))
    go_wp2_with fail
    refine (HA.out _ (HS.out.below HB.out (Nat.le_refl _))).mono ?_
    rintro e w2 ⟨rfl, hb⟩
    clear p0 p1
    replace K_p := hide (Blk.below K_p.out hb (Blk.lt K_p.out))
    replace HB := hide (HB.out.trans (hb.mono HB.out.size))
    clear hb
    go_wp2_with fail
    go_ret
    exact ⟨rfl, HB.out⟩
  · skip
    clear h
    have HS := hide hs
    have HA := hide (fun W (hS : Std W) => awake54_any W hS)
    clear hs
    have hz2 : (12 : Int) < ((a.size : Nat) : Int) := by omega
    have HB := allocs_below w [.cells #[.int .i64 N, .int .i64 C] 23]
    have K_p : Blk (allocs w [.cells #[.int .i64 N, .int .i64 C] 23]) (w.heap.size + 0) 23 #[.int .i64 N, .int .i64 C] := allocs_at w [.cells #[.int .i64 N, .int .i64 C] 23] 0 rfl
    unfold allocs at HB K_p
    simp only [List.foldl_cons, List.foldl_nil] at HB K_p
    rw [Nat.add_zero] at K_p
    go_enter Tryz.func6, Tryz.ntmps6
    go_upto_region 1 with (fail)
    generalize (w.alloc (.cells #[.int .i64 N, .int .i64 C] 23)) = w0 at *
    replace K_p := hide K_p
    replace HB := hide HB
    have p0 := (Blk.cell K_p.out 0).trans (rfl : _ = some (Value.int .i64 N))
    have p1 := (Blk.cell K_p.out 1).trans (rfl : _ = some (Value.int .i64 C))
    go_wp2_with fail
    refine (HA.out _ (HS.out.below HB.out (Nat.le_refl _))).mono ?_
    rintro e w2 ⟨rfl, hb⟩
    clear p0 p1
    replace K_p := hide (Blk.below K_p.out hb (Blk.lt K_p.out))
    replace HB := hide (HB.out.trans (hb.mono HB.out.size))
    clear hb
    go_wp2_with fail
    go_ret
    exact ⟨rfl, HB.out⟩

set_option maxRecDepth 100000 in
set_option maxHeartbeats 8000000 in
theorem proc_main (w : World) (N C bad : Int) (a : ByteArray) (h : ¬ (8 < N ∧ N ≤ 256)) (hz : a.size ≤ 12) (s1 : ByteArray) (e1 : Int) (g1 : (∀ W, Std W → Calls Tryz.prog 25 #[.agg #[.int .i64 N, .int .i64 C], .string a] W fun e w' => e = .returned (.tuple #[.string s1, .int .i64 e1]) ∧ Below W.heap.size W w')) (g2 : (∀ W, Std W → Calls Tryz.prog 27 #[.agg #[.int .i64 N, .int .i64 C], .string a] W fun e w' => e = .returned (.tuple #[.string s1, .int .i64 e1]) ∧ Below W.heap.size W w')) (hs : Std w) :
    Calls Tryz.prog 6 #[.agg #[.int .i64 N, .int .i64 C], .string a, .int .i64 bad] w fun e w' => e = .returned (.bool true) ∧ Below w.heap.size w w' := by
  by_cases h8 : 8 < N
  · have h256 : ¬ N ≤ 256 := by omega
    clear h
    have HA := hide (fun W (hS : Std W) => awake54_any W hS)
    have HSE := hide (fun W => sent_any W N C)
    have HD1 := hide (fun W => pldec_any W N C bad)
    have HD2 := hide (fun W => rfdec_any W N C bad)
    obtain ⟨db, hdb⟩ : ∃ k, dcB N C bad = k := ⟨_, rfl⟩
    obtain ⟨de, hde⟩ : ∃ k, dcE N C bad = k := ⟨_, rfl⟩
    rw [hdb, hde] at HD1 HD2
    have HS := hide hs
    have H1 := hide g1
    have H2 := hide g2
    have hz2 : ¬ (12 : Int) < ((a.size : Nat) : Int) := by omega
    clear hs hdb hde g1 g2
    have HB := allocs_below w [.cells #[.int .i64 N, .int .i64 C] 23]
    have K_p : Blk (allocs w [.cells #[.int .i64 N, .int .i64 C] 23]) (w.heap.size + 0) 23 #[.int .i64 N, .int .i64 C] := allocs_at w [.cells #[.int .i64 N, .int .i64 C] 23] 0 rfl
    unfold allocs at HB K_p
    simp only [List.foldl_cons, List.foldl_nil] at HB K_p
    rw [Nat.add_zero] at K_p
    go_enter Tryz.func6, Tryz.ntmps6
    go_upto_region 1 with (fail)
    generalize (w.alloc (.cells #[.int .i64 N, .int .i64 C] 23)) = w0 at *
    replace K_p := hide K_p
    replace HB := hide HB
    have p0 := (Blk.cell K_p.out 0).trans (rfl : _ = some (Value.int .i64 N))
    have p1 := (Blk.cell K_p.out 1).trans (rfl : _ = some (Value.int .i64 C))
    go_wp2_with fail
    refine (HSE.out _).mono ?_
    rintro e w1 ⟨rfl, hb⟩
    clear p0 p1
    replace K_p := hide (Blk.below K_p.out hb (Blk.lt K_p.out))
    replace HB := hide (HB.out.trans (hb.mono HB.out.size))
    clear hb
    go_wp2_with fail
    refine (H1.out _ (HS.out.below HB.out (Nat.le_refl _))).mono ?_
    rintro e w2 ⟨rfl, hb⟩
    replace K_p := hide (Blk.below K_p.out hb (Blk.lt K_p.out))
    replace HB := hide (HB.out.trans (hb.mono HB.out.size))
    clear hb
    have p0 := (Blk.cell K_p.out 0).trans (rfl : _ = some (Value.int .i64 N))
    have p1 := (Blk.cell K_p.out 1).trans (rfl : _ = some (Value.int .i64 C))
    go_wp2_with fail
    refine (H2.out _ (HS.out.below HB.out (Nat.le_refl _))).mono ?_
    rintro e w3 ⟨rfl, hb⟩
    clear p0 p1
    replace K_p := hide (Blk.below K_p.out hb (Blk.lt K_p.out))
    replace HB := hide (HB.out.trans (hb.mono HB.out.size))
    clear hb
    have p0 := (Blk.cell K_p.out 0).trans (rfl : _ = some (Value.int .i64 N))
    have p1 := (Blk.cell K_p.out 1).trans (rfl : _ = some (Value.int .i64 C))
    go_wp2_with fail
    refine (HSE.out _).mono ?_
    rintro e w4 ⟨rfl, hb⟩
    clear p0 p1
    replace K_p := hide (Blk.below K_p.out hb (Blk.lt K_p.out))
    replace HB := hide (HB.out.trans (hb.mono HB.out.size))
    clear hb
    go_wp2_with fail
    refine (HD1.out _).mono ?_
    rintro e w5 ⟨rfl, hb⟩
    replace K_p := hide (Blk.below K_p.out hb (Blk.lt K_p.out))
    replace HB := hide (HB.out.trans (hb.mono HB.out.size))
    clear hb
    have p0 := (Blk.cell K_p.out 0).trans (rfl : _ = some (Value.int .i64 N))
    have p1 := (Blk.cell K_p.out 1).trans (rfl : _ = some (Value.int .i64 C))
    go_wp2_with fail
    refine (HD2.out _).mono ?_
    rintro e w6 ⟨rfl, hb⟩
    clear p0 p1
    replace K_p := hide (Blk.below K_p.out hb (Blk.lt K_p.out))
    replace HB := hide (HB.out.trans (hb.mono HB.out.size))
    clear hb
    go_wp2_with fail
    refine (HA.out _ (HS.out.below HB.out (Nat.le_refl _))).mono ?_
    rintro e wz ⟨rfl, hb⟩
    replace K_p := hide (Blk.below K_p.out hb (Blk.lt K_p.out))
    replace HB := hide (HB.out.trans (hb.mono HB.out.size))
    clear hb
    go_wp2_with fail
    go_ret
    exact ⟨rfl, HB.out⟩
  · skip
    clear h
    have HA := hide (fun W (hS : Std W) => awake54_any W hS)
    have HSE := hide (fun W => sent_any W N C)
    have HD1 := hide (fun W => pldec_any W N C bad)
    have HD2 := hide (fun W => rfdec_any W N C bad)
    obtain ⟨db, hdb⟩ : ∃ k, dcB N C bad = k := ⟨_, rfl⟩
    obtain ⟨de, hde⟩ : ∃ k, dcE N C bad = k := ⟨_, rfl⟩
    rw [hdb, hde] at HD1 HD2
    have HS := hide hs
    have H1 := hide g1
    have H2 := hide g2
    have hz2 : ¬ (12 : Int) < ((a.size : Nat) : Int) := by omega
    clear hs hdb hde g1 g2
    have HB := allocs_below w [.cells #[.int .i64 N, .int .i64 C] 23]
    have K_p : Blk (allocs w [.cells #[.int .i64 N, .int .i64 C] 23]) (w.heap.size + 0) 23 #[.int .i64 N, .int .i64 C] := allocs_at w [.cells #[.int .i64 N, .int .i64 C] 23] 0 rfl
    unfold allocs at HB K_p
    simp only [List.foldl_cons, List.foldl_nil] at HB K_p
    rw [Nat.add_zero] at K_p
    go_enter Tryz.func6, Tryz.ntmps6
    go_upto_region 1 with (fail)
    generalize (w.alloc (.cells #[.int .i64 N, .int .i64 C] 23)) = w0 at *
    replace K_p := hide K_p
    replace HB := hide HB
    have p0 := (Blk.cell K_p.out 0).trans (rfl : _ = some (Value.int .i64 N))
    have p1 := (Blk.cell K_p.out 1).trans (rfl : _ = some (Value.int .i64 C))
    go_wp2_with fail
    refine (HSE.out _).mono ?_
    rintro e w1 ⟨rfl, hb⟩
    clear p0 p1
    replace K_p := hide (Blk.below K_p.out hb (Blk.lt K_p.out))
    replace HB := hide (HB.out.trans (hb.mono HB.out.size))
    clear hb
    go_wp2_with fail
    refine (H1.out _ (HS.out.below HB.out (Nat.le_refl _))).mono ?_
    rintro e w2 ⟨rfl, hb⟩
    replace K_p := hide (Blk.below K_p.out hb (Blk.lt K_p.out))
    replace HB := hide (HB.out.trans (hb.mono HB.out.size))
    clear hb
    have p0 := (Blk.cell K_p.out 0).trans (rfl : _ = some (Value.int .i64 N))
    have p1 := (Blk.cell K_p.out 1).trans (rfl : _ = some (Value.int .i64 C))
    go_wp2_with fail
    refine (H2.out _ (HS.out.below HB.out (Nat.le_refl _))).mono ?_
    rintro e w3 ⟨rfl, hb⟩
    clear p0 p1
    replace K_p := hide (Blk.below K_p.out hb (Blk.lt K_p.out))
    replace HB := hide (HB.out.trans (hb.mono HB.out.size))
    clear hb
    have p0 := (Blk.cell K_p.out 0).trans (rfl : _ = some (Value.int .i64 N))
    have p1 := (Blk.cell K_p.out 1).trans (rfl : _ = some (Value.int .i64 C))
    go_wp2_with fail
    refine (HSE.out _).mono ?_
    rintro e w4 ⟨rfl, hb⟩
    clear p0 p1
    replace K_p := hide (Blk.below K_p.out hb (Blk.lt K_p.out))
    replace HB := hide (HB.out.trans (hb.mono HB.out.size))
    clear hb
    go_wp2_with fail
    refine (HD1.out _).mono ?_
    rintro e w5 ⟨rfl, hb⟩
    replace K_p := hide (Blk.below K_p.out hb (Blk.lt K_p.out))
    replace HB := hide (HB.out.trans (hb.mono HB.out.size))
    clear hb
    have p0 := (Blk.cell K_p.out 0).trans (rfl : _ = some (Value.int .i64 N))
    have p1 := (Blk.cell K_p.out 1).trans (rfl : _ = some (Value.int .i64 C))
    go_wp2_with fail
    refine (HD2.out _).mono ?_
    rintro e w6 ⟨rfl, hb⟩
    clear p0 p1
    replace K_p := hide (Blk.below K_p.out hb (Blk.lt K_p.out))
    replace HB := hide (HB.out.trans (hb.mono HB.out.size))
    clear hb
    go_wp2_with fail
    refine (HA.out _ (HS.out.below HB.out (Nat.le_refl _))).mono ?_
    rintro e wz ⟨rfl, hb⟩
    replace K_p := hide (Blk.below K_p.out hb (Blk.lt K_p.out))
    replace HB := hide (HB.out.trans (hb.mono HB.out.size))
    clear hb
    go_wp2_with fail
    go_ret
    exact ⟨rfl, HB.out⟩


theorem processes_any (w : World) (N C : Int) (a : ByteArray) (bad : Int) (hs : Std w) :
    Calls Tryz.prog 6 #[.agg #[.int .i64 N, .int .i64 C], .string a, .int .i64 bad] w fun e w' => e = .returned (.bool true) ∧ Below w.heap.size w w' := by
  by_cases hg : 8 < N ∧ N ≤ 256
  · exact proc_great w N C bad a hg.1 hg.2 hs
  · by_cases hz : a.size ≤ 12
    · by_cases hp : 1 ≤ N ∧ N ≤ 256 ∧ 0 ≤ C ∧ C ≤ N
      · have hp0 := ckP_zero.2 hp
        have hl12 : a.data.toList.length ≤ 12 := by rw [← Lib.size_eq]; exact hz
        by_cases hc : chkR a.data.toList = 0
        · obtain ⟨q, hq, hsz⟩ := short_sz4 (k := 13) (by omega) hc (Nat.le_trans (numL_len _) (by omega)) (Nat.le_trans (denL_len _) (by omega))
          have hq30 : Sz 30 30 q := hsz.mono (by omega) (by omega)
          by_cases hu : 0 ≤ q ∧ q ≤ 1
          · obtain ⟨x, y, hx, hy, hx2, hy2⟩ := unit_parts hu.1 hu.2
            have hxy : x + y ≤ 10 ^ 13 := by rw [← hy]; exact hsz.2
            have hxy0 : 0 < x + y := by rw [← hy]; exact Nat.pos_of_ne_zero q.den_nz
            have hrq : Sz 14 14 (1 - q) := ⟨by rw [hx2, Int.natAbs_natCast]; exact Nat.lt_of_le_of_lt (Nat.le_add_left y x) (Nat.lt_of_le_of_lt hxy (by decide)), by rw [hy2]; exact Nat.le_trans hxy (by decide)⟩
            obtain ⟨n, rfl⟩ : ∃ n : Nat, N = (n : Int) := ⟨N.toNat, by omega⟩
            obtain ⟨c, rfl⟩ : ∃ c : Nat, C = (c : Int) := ⟨C.toNat, by omega⟩
            have hdoc : docQ q n c = proQ x y n c := by
              rw [← docQ_eq hxy0 (by omega)]
              congr 1
              have h := Rat.num_divInt_den q
              rw [Rat.divInt_eq_div, hx, hy] at h
              exact h.symm
            refine proc_main w n c bad a hg hz ⟨(RT (proQ x y n c)).toArray⟩ 0 (fun W hS => plBin_any W n c x y 13 a q hq hx hy hxy (by omega) (by omega) (by omega) (by omega) hS) (fun W _ => ?_) hs
            rw [← hdoc]
            exact rfBin_any W n c a q hq hsz hrq (if_pos hu) (by omega) (by omega) (by omega)
          · have hu2 : unitQ q = 2 := if_neg hu
            exact proc_main w N C bad a hg hz ⟨#[]⟩ 2 (fun W hS => plBin_bad2 W N C a q hq (hq30.fit (by omega) (by omega)) hu2 hp0 hS) (fun W _ => rfBin_bad2 W N C a q hq hq30 hu2 hp0) hs
        · exact proc_main w N C bad a hg hz ⟨#[]⟩ _ (fun W hS => plBin_bad1 W N C a _ rfl (by omega) hc hp0 hS) (fun W _ => rfBin_bad1 W N C a _ rfl (by omega) hc hp0) hs
      · have hp2 := ckP_two.2 hp
        exact proc_main w N C bad a hg hz ⟨#[]⟩ 2 (fun W _ => plBin_bad W N C a hp2) (fun W _ => rfBin_bad W N C a hp2) hs
    · exact proc_long w N C bad a hg (by omega) hs
end Go.Proofs.YtaccdkbofhlbkaaGreatDoor
