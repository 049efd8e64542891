/- PlanAccepts: Check, Accept and Outgoing of the program and of the reference. -/
import Derived.Test.YtaccdkbofhlbkaaGreatDoorRplan
import Derived.Test.YtaccdkbofhlbkaaGreatDoorPlopp
namespace Go.Proofs.YtaccdkbofhlbkaaGreatDoor
open Go.RowKit Go.Shelf MLab

set_option maxRecDepth 100000 in
set_option maxHeartbeats 2000000 in
theorem rfAccept_bad (w : World) (N C lot bad : Int) (h : ckG N C lot bad = 2) :
    Calls Tryz.prog 15 #[.agg #[.int .i64 N, .int .i64 C], .int .i64 lot, .int .i64 bad] w fun e w' => e = .returned (.tuple #[.string ⟨#[]⟩, .int .i64 2]) ∧ Below w.heap.size w w' := by
  have HC := hide (rfgv_any (w.alloc (.cells #[.int .i64 N, .int .i64 C] 23)) N C lot bad)
  have BW := hide ((Below.refl w.heap.size w).alloc (Nat.le_refl _) (.cells #[.int .i64 N, .int .i64 C] 23))
  rw [h] at HC
  go_enter Tryz.func15, Tryz.ntmps15
  go_wp2_with fail
  refine HC.out.mono ?_
  rintro e w1 ⟨rfl, hb⟩
  have HB := hide (BW.out.trans (hb.mono BW.out.size))
  clear HC hb
  go_wp2_with fail
  go_ret2
  exact ⟨rfl, HB.out⟩

set_option maxRecDepth 100000 in
set_option maxHeartbeats 2000000 in
theorem rfAccept_any (w : World) (N C lot bad : Nat) (h1 : 1 ≤ N) (hC : C ≤ N) (hNl : N ≤ lot) (hbl : bad ≤ lot) (h9 : lot ≤ 9) :
    Calls Tryz.prog 15 #[.agg #[.int .i64 (N : Int), .int .i64 (C : Int)], .int .i64 (lot : Int), .int .i64 (bad : Int)] w fun e w' => RetRat (accQ bad (lot - bad) N C) e ∧ Below w.heap.size w w' := by
  have HC := hide (fun W => rfgv_any W (N : Int) (C : Int) (lot : Int) (bad : Int))
  rw [ckG_zero.2 (by omega)] at HC
  have HA := hide (fun W => chance_any W N C lot bad h9 hNl hC hbl)
  obtain ⟨q, hq⟩ : ∃ q, accQ bad (lot - bad) N C = q := ⟨_, rfl⟩
  rw [hq] at HA ⊢
  clear h1 hC hNl hbl h9 hq
  have HB := allocs_below w [.cells #[.int .i64 (N : Int), .int .i64 (C : Int)] 23]
  have K_p : Blk (allocs w [.cells #[.int .i64 (N : Int), .int .i64 (C : Int)] 23]) (w.heap.size + 0) 23 #[.int .i64 (N : Int), .int .i64 (C : Int)] := allocs_at w [.cells #[.int .i64 (N : Int), .int .i64 (C : Int)] 23] 0 rfl
  unfold allocs at HB K_p
  simp only [List.foldl_cons, List.foldl_nil] at HB K_p
  rw [Nat.add_zero] at K_p
  go_enter Tryz.func15, Tryz.ntmps15
  go_upto_region 1 with (fail)
  generalize (w.alloc (.cells #[.int .i64 (N : Int), .int .i64 (C : Int)] 23)) = w0 at *
  replace K_p := hide K_p
  replace HB := hide HB
  have p0 := (Blk.cell K_p.out 0).trans (rfl : _ = some (Value.int .i64 (N : Int)))
  have p1 := (Blk.cell K_p.out 1).trans (rfl : _ = some (Value.int .i64 (C : Int)))
  go_wp2_with fail
  refine (HC.out _).mono ?_
  rintro e w1 ⟨rfl, hb⟩
  clear p0 p1
  replace K_p := hide (Blk.below K_p.out hb (Blk.lt K_p.out))
  replace HB := hide (HB.out.trans (hb.mono HB.out.size))
  clear hb
  have p0 := (Blk.cell K_p.out 0).trans (rfl : _ = some (Value.int .i64 (N : Int)))
  have p1 := (Blk.cell K_p.out 1).trans (rfl : _ = some (Value.int .i64 (C : Int)))
  go_wp2_with fail
  refine (HA.out _).mono ?_
  rintro e w2 ⟨rfl, hb⟩
  clear p0 p1
  replace K_p := hide (Blk.below K_p.out hb (Blk.lt K_p.out))
  replace HB := hide (HB.out.trans (hb.mono HB.out.size))
  clear hb
  go_wp2_with fail
  go_ret2
  exact ⟨rfl, HB.out⟩

set_option maxRecDepth 100000 in
set_option maxHeartbeats 2000000 in
theorem rfOut_bad (w : World) (N C lot bad : Int) (h : ckG N C lot bad = 2) :
    Calls Tryz.prog 17 #[.agg #[.int .i64 N, .int .i64 C], .int .i64 lot, .int .i64 bad] w fun e w' => e = .returned (.tuple #[.string ⟨#[]⟩, .int .i64 2]) ∧ Below w.heap.size w w' := by
  have HC := hide (rfgv_any (w.alloc (.cells #[.int .i64 N, .int .i64 C] 23)) N C lot bad)
  have BW := hide ((Below.refl w.heap.size w).alloc (Nat.le_refl _) (.cells #[.int .i64 N, .int .i64 C] 23))
  rw [h] at HC
  go_enter Tryz.func17, Tryz.ntmps17
  go_wp2_with fail
  refine HC.out.mono ?_
  rintro e w1 ⟨rfl, hb⟩
  have HB := hide (BW.out.trans (hb.mono BW.out.size))
  clear HC hb
  go_wp2_with fail
  go_ret2
  exact ⟨rfl, HB.out⟩

set_option maxRecDepth 100000 in
set_option maxHeartbeats 2000000 in
theorem rfOut_any (w : World) (N C lot bad : Nat) (h1 : 1 ≤ N) (hC : C ≤ N) (hNl : N ≤ lot) (hbl : bad ≤ lot) (h9 : lot ≤ 9) :
    Calls Tryz.prog 17 #[.agg #[.int .i64 (N : Int), .int .i64 (C : Int)], .int .i64 (lot : Int), .int .i64 (bad : Int)] w fun e w' => RetRat (outQ bad (lot - bad) N C) e ∧ Below w.heap.size w w' := by
  have HC := hide (fun W => rfgv_any W (N : Int) (C : Int) (lot : Int) (bad : Int))
  rw [ckG_zero.2 (by omega)] at HC
  have HA := hide (fun W => left_any W N C lot bad h9 hNl hC hbl (by omega))
  obtain ⟨q, hq⟩ : ∃ q, outQ bad (lot - bad) N C = q := ⟨_, rfl⟩
  rw [hq] at HA ⊢
  clear h1 hC hNl hbl h9 hq
  have HB := allocs_below w [.cells #[.int .i64 (N : Int), .int .i64 (C : Int)] 23]
  have K_p : Blk (allocs w [.cells #[.int .i64 (N : Int), .int .i64 (C : Int)] 23]) (w.heap.size + 0) 23 #[.int .i64 (N : Int), .int .i64 (C : Int)] := allocs_at w [.cells #[.int .i64 (N : Int), .int .i64 (C : Int)] 23] 0 rfl
  unfold allocs at HB K_p
  simp only [List.foldl_cons, List.foldl_nil] at HB K_p
  rw [Nat.add_zero] at K_p
  go_enter Tryz.func17, Tryz.ntmps17
  go_upto_region 1 with (fail)
  generalize (w.alloc (.cells #[.int .i64 (N : Int), .int .i64 (C : Int)] 23)) = w0 at *
  replace K_p := hide K_p
  replace HB := hide HB
  have p0 := (Blk.cell K_p.out 0).trans (rfl : _ = some (Value.int .i64 (N : Int)))
  have p1 := (Blk.cell K_p.out 1).trans (rfl : _ = some (Value.int .i64 (C : Int)))
  go_wp2_with fail
  refine (HC.out _).mono ?_
  rintro e w1 ⟨rfl, hb⟩
  clear p0 p1
  replace K_p := hide (Blk.below K_p.out hb (Blk.lt K_p.out))
  replace HB := hide (HB.out.trans (hb.mono HB.out.size))
  clear hb
  have p0 := (Blk.cell K_p.out 0).trans (rfl : _ = some (Value.int .i64 (N : Int)))
  have p1 := (Blk.cell K_p.out 1).trans (rfl : _ = some (Value.int .i64 (C : Int)))
  go_wp2_with fail
  refine (HA.out _).mono ?_
  rintro e w2 ⟨rfl, hb⟩
  clear p0 p1
  replace K_p := hide (Blk.below K_p.out hb (Blk.lt K_p.out))
  replace HB := hide (HB.out.trans (hb.mono HB.out.size))
  clear hb
  go_wp2_with fail
  go_ret2
  exact ⟨rfl, HB.out⟩

/-- A lot is small, or wrong for a plan. -/
def fewB (N C lot : Int) : Bool := decide (lot ≤ 9) || decide (ckL N C lot ≠ 0)

set_option maxRecDepth 100000 in
set_option maxHeartbeats 2000000 in
theorem few54_any (w : World) (N C lot : Int) :
    Calls Tryz.prog 11 #[.agg #[.int .i64 N, .int .i64 C], .int .i64 lot] w fun e w' => e = .returned (.bool (fewB N C lot)) ∧ Below w.heap.size w w' := by
  by_cases h0 : lot ≤ 9
  · have HC := hide (fun W => rfsz_any W N C lot)
    have hr : fewB N C lot = true := by unfold fewB; simp [h0]
    rw [hr]
    clear hr
    have HB := allocs_below w [.cells #[.int .i64 N, .int .i64 C] 23]
    have K_p : Blk (allocs w [.cells #[.int .i64 N, .int .i64 C] 23]) (w.heap.size + 0) 23 #[.int .i64 N, .int .i64 C] := allocs_at w [.cells #[.int .i64 N, .int .i64 C] 23] 0 rfl
    unfold allocs at HB K_p
    simp only [List.foldl_cons, List.foldl_nil] at HB K_p
    rw [Nat.add_zero] at K_p
    go_enter Tryz.func11, Tryz.ntmps11
    go_upto_region 1 with (fail)
    generalize (w.alloc (.cells #[.int .i64 N, .int .i64 C] 23)) = w0 at *
    replace K_p := hide K_p
    replace HB := hide HB
    have p0 := (Blk.cell K_p.out 0).trans (rfl : _ = some (Value.int .i64 N))
    have p1 := (Blk.cell K_p.out 1).trans (rfl : _ = some (Value.int .i64 C))
    go_wp2_with fail
    go_ret
    exact ⟨rfl, HB.out⟩
  · by_cases h1 : ¬ ((1 ≤ N ∧ N ≤ 256 ∧ 0 ≤ C ∧ C ≤ N) ∧ N ≤ lot ∧ lot ≤ 4096)
    · have HC := hide (fun W => rfsz_any W N C lot)
      rw [ckL_two.2 h1] at HC
      have hr : fewB N C lot = true := by unfold fewB; rw [ckL_two.2 h1]; simp
      rw [hr]
      clear hr
      clear h1
      have HB := allocs_below w [.cells #[.int .i64 N, .int .i64 C] 23]
      have K_p : Blk (allocs w [.cells #[.int .i64 N, .int .i64 C] 23]) (w.heap.size + 0) 23 #[.int .i64 N, .int .i64 C] := allocs_at w [.cells #[.int .i64 N, .int .i64 C] 23] 0 rfl
      unfold allocs at HB K_p
      simp only [List.foldl_cons, List.foldl_nil] at HB K_p
      rw [Nat.add_zero] at K_p
      go_enter Tryz.func11, Tryz.ntmps11
      go_upto_region 1 with (fail)
      generalize (w.alloc (.cells #[.int .i64 N, .int .i64 C] 23)) = w0 at *
      replace K_p := hide K_p
      replace HB := hide HB
      have p0 := (Blk.cell K_p.out 0).trans (rfl : _ = some (Value.int .i64 N))
      have p1 := (Blk.cell K_p.out 1).trans (rfl : _ = some (Value.int .i64 C))
      go_wp2_with fail
      refine (HC.out _).mono ?_
      rintro e w1 ⟨rfl, hb⟩
      clear p0 p1
      replace K_p := hide (Blk.below K_p.out hb (Blk.lt K_p.out))
      replace HB := hide (HB.out.trans (hb.mono HB.out.size))
      clear hb
      go_wp2_with fail
      go_ret
      exact ⟨rfl, HB.out⟩
    · have HC := hide (fun W => rfsz_any W N C lot)
      rw [ckL_zero.2 (Classical.not_not.1 h1)] at HC
      have hr : fewB N C lot = false := by unfold fewB; rw [ckL_zero.2 (Classical.not_not.1 h1)]; simp; omega
      rw [hr]
      clear hr
      clear h1
      have HB := allocs_below w [.cells #[.int .i64 N, .int .i64 C] 23]
      have K_p : Blk (allocs w [.cells #[.int .i64 N, .int .i64 C] 23]) (w.heap.size + 0) 23 #[.int .i64 N, .int .i64 C] := allocs_at w [.cells #[.int .i64 N, .int .i64 C] 23] 0 rfl
      unfold allocs at HB K_p
      simp only [List.foldl_cons, List.foldl_nil] at HB K_p
      rw [Nat.add_zero] at K_p
      go_enter Tryz.func11, Tryz.ntmps11
      go_upto_region 1 with (fail)
      generalize (w.alloc (.cells #[.int .i64 N, .int .i64 C] 23)) = w0 at *
      replace K_p := hide K_p
      replace HB := hide HB
      have p0 := (Blk.cell K_p.out 0).trans (rfl : _ = some (Value.int .i64 N))
      have p1 := (Blk.cell K_p.out 1).trans (rfl : _ = some (Value.int .i64 C))
      go_wp2_with fail
      refine (HC.out _).mono ?_
      rintro e w1 ⟨rfl, hb⟩
      clear p0 p1
      replace K_p := hide (Blk.below K_p.out hb (Blk.lt K_p.out))
      replace HB := hide (HB.out.trans (hb.mono HB.out.size))
      clear hb
      go_wp2_with fail
      go_ret
      exact ⟨rfl, HB.out⟩

set_option maxRecDepth 100000 in
set_option maxHeartbeats 2000000 in
theorem accs_wrong (w : World) (N C lot bad : Int) (h : fewB N C lot = false) (hs : Std w) :
    Calls Tryz.prog 3 #[.agg #[.int .i64 N, .int .i64 C], .int .i64 lot, .int .i64 bad] w fun e w' => e = .returned (.bool true) ∧ Below w.heap.size w w' := by
  have HS := hide hs
  have HR := hide (fun W => few54_any W N C lot)
  rw [h] at HR
  have HA := hide (fun W (hS : Std W) => awake54_any W hS)
  clear hs h
  have HB := allocs_below w [.cells #[.int .i64 N, .int .i64 C] 23]
  have K_p : Blk (allocs w [.cells #[.int .i64 N, .int .i64 C] 23]) (w.heap.size + 0) 23 #[.int .i64 N, .int .i64 C] := allocs_at w [.cells #[.int .i64 N, .int .i64 C] 23] 0 rfl
  unfold allocs at HB K_p
  simp only [List.foldl_cons, List.foldl_nil] at HB K_p
  rw [Nat.add_zero] at K_p
  go_enter Tryz.func3, Tryz.ntmps3
  go_upto_region 1 with (fail)
  generalize (w.alloc (.cells #[.int .i64 N, .int .i64 C] 23)) = w0 at *
  replace K_p := hide K_p
  replace HB := hide HB
  have p0 := (Blk.cell K_p.out 0).trans (rfl : _ = some (Value.int .i64 N))
  have p1 := (Blk.cell K_p.out 1).trans (rfl : _ = some (Value.int .i64 C))
  go_wp2_with fail
  refine (HR.out _).mono ?_
  rintro e w1 ⟨rfl, hb⟩
  clear p0 p1
  replace K_p := hide (Blk.below K_p.out hb (Blk.lt K_p.out))
  replace HB := hide (HB.out.trans (hb.mono HB.out.size))
  clear hb
  go_wp2_with fail
  refine (HA.out _ (HS.out.below HB.out (Nat.le_refl _))).mono ?_
  rintro e w2 ⟨rfl, hb⟩
  replace K_p := hide (Blk.below K_p.out hb (Blk.lt K_p.out))
  replace HB := hide (HB.out.trans (hb.mono HB.out.size))
  clear hb
  go_wp2_with fail
  go_ret
  exact ⟨rfl, HB.out⟩

set_option maxRecDepth 100000 in
set_option maxHeartbeats 8000000 in
theorem accs_main (w : World) (N C lot bad : Int) (h : fewB N C lot = true) (s1 s2 : ByteArray) (e1 e2 : Int) (g1 : (∀ W, Std W → Calls Tryz.prog 13 #[.agg #[.int .i64 N, .int .i64 C], .int .i64 lot, .int .i64 bad] W fun e w' => e = .returned (.tuple #[.string s1, .int .i64 e1]) ∧ Below W.heap.size W w')) (g2 : (∀ W, Std W → Calls Tryz.prog 15 #[.agg #[.int .i64 N, .int .i64 C], .int .i64 lot, .int .i64 bad] W fun e w' => e = .returned (.tuple #[.string s1, .int .i64 e1]) ∧ Below W.heap.size W w')) (g3 : (∀ W, Std W → Calls Tryz.prog 16 #[.agg #[.int .i64 N, .int .i64 C], .int .i64 lot, .int .i64 bad] W fun e w' => e = .returned (.tuple #[.string s2, .int .i64 e2]) ∧ Below W.heap.size W w')) (g4 : (∀ W, Std W → Calls Tryz.prog 17 #[.agg #[.int .i64 N, .int .i64 C], .int .i64 lot, .int .i64 bad] W fun e w' => e = .returned (.tuple #[.string s2, .int .i64 e2]) ∧ Below W.heap.size W w')) (hs : Std w) :
    Calls Tryz.prog 3 #[.agg #[.int .i64 N, .int .i64 C], .int .i64 lot, .int .i64 bad] w fun e w' => e = .returned (.bool true) ∧ Below w.heap.size w w' := by
  have HS := hide hs
  have HR := hide (fun W => few54_any W N C lot)
  rw [h] at HR
  have HA := hide (fun W (hS : Std W) => awake54_any W hS)
  have HSE := hide (fun W => sent_any W N C)
  have HK1 := hide (fun W => plck_any W N C)
  have HK2 := hide (fun W => rfck_any W N C)
  obtain ⟨k, hk⟩ : ∃ k, ckP N C = k := ⟨_, rfl⟩
  rw [hk] at HK1 HK2
  have H1 := hide g1
  have H2 := hide g2
  have H3 := hide g3
  have H4 := hide g4
  clear hs h hk g1 g2 g3 g4
  have HB := allocs_below w [.cells #[.int .i64 N, .int .i64 C] 23]
  have K_p : Blk (allocs w [.cells #[.int .i64 N, .int .i64 C] 23]) (w.heap.size + 0) 23 #[.int .i64 N, .int .i64 C] := allocs_at w [.cells #[.int .i64 N, .int .i64 C] 23] 0 rfl
  unfold allocs at HB K_p
  simp only [List.foldl_cons, List.foldl_nil] at HB K_p
  rw [Nat.add_zero] at K_p
  go_enter Tryz.func3, Tryz.ntmps3
  go_upto_region 1 with (fail)
  generalize (w.alloc (.cells #[.int .i64 N, .int .i64 C] 23)) = w0 at *
  replace K_p := hide K_p
  replace HB := hide HB
  have p0 := (Blk.cell K_p.out 0).trans (rfl : _ = some (Value.int .i64 N))
  have p1 := (Blk.cell K_p.out 1).trans (rfl : _ = some (Value.int .i64 C))
  go_wp2_with fail
  refine (HR.out _).mono ?_
  rintro e w1 ⟨rfl, hb⟩
  clear p0 p1
  replace K_p := hide (Blk.below K_p.out hb (Blk.lt K_p.out))
  replace HB := hide (HB.out.trans (hb.mono HB.out.size))
  clear hb
  have p0 := (Blk.cell K_p.out 0).trans (rfl : _ = some (Value.int .i64 N))
  have p1 := (Blk.cell K_p.out 1).trans (rfl : _ = some (Value.int .i64 C))
  go_wp2_with fail
  refine (HSE.out _).mono ?_
  rintro e w2 ⟨rfl, hb⟩
  clear p0 p1
  replace K_p := hide (Blk.below K_p.out hb (Blk.lt K_p.out))
  replace HB := hide (HB.out.trans (hb.mono HB.out.size))
  clear hb
  go_wp2_with fail
  refine (H1.out _ (HS.out.below HB.out (Nat.le_refl _))).mono ?_
  rintro e w3 ⟨rfl, hb⟩
  replace K_p := hide (Blk.below K_p.out hb (Blk.lt K_p.out))
  replace HB := hide (HB.out.trans (hb.mono HB.out.size))
  clear hb
  have p0 := (Blk.cell K_p.out 0).trans (rfl : _ = some (Value.int .i64 N))
  have p1 := (Blk.cell K_p.out 1).trans (rfl : _ = some (Value.int .i64 C))
  go_wp2_with fail
  refine (H2.out _ (HS.out.below HB.out (Nat.le_refl _))).mono ?_
  rintro e w4 ⟨rfl, hb⟩
  clear p0 p1
  replace K_p := hide (Blk.below K_p.out hb (Blk.lt K_p.out))
  replace HB := hide (HB.out.trans (hb.mono HB.out.size))
  clear hb
  have p0 := (Blk.cell K_p.out 0).trans (rfl : _ = some (Value.int .i64 N))
  have p1 := (Blk.cell K_p.out 1).trans (rfl : _ = some (Value.int .i64 C))
  go_wp2_with fail
  refine (HSE.out _).mono ?_
  rintro e w5 ⟨rfl, hb⟩
  clear p0 p1
  replace K_p := hide (Blk.below K_p.out hb (Blk.lt K_p.out))
  replace HB := hide (HB.out.trans (hb.mono HB.out.size))
  clear hb
  go_wp2_with fail
  refine (H3.out _ (HS.out.below HB.out (Nat.le_refl _))).mono ?_
  rintro e w6 ⟨rfl, hb⟩
  replace K_p := hide (Blk.below K_p.out hb (Blk.lt K_p.out))
  replace HB := hide (HB.out.trans (hb.mono HB.out.size))
  clear hb
  have p0 := (Blk.cell K_p.out 0).trans (rfl : _ = some (Value.int .i64 N))
  have p1 := (Blk.cell K_p.out 1).trans (rfl : _ = some (Value.int .i64 C))
  go_wp2_with fail
  refine (H4.out _ (HS.out.below HB.out (Nat.le_refl _))).mono ?_
  rintro e w7 ⟨rfl, hb⟩
  clear p0 p1
  replace K_p := hide (Blk.below K_p.out hb (Blk.lt K_p.out))
  replace HB := hide (HB.out.trans (hb.mono HB.out.size))
  clear hb
  go_upto_region 7 with (fail)
  have p0 := (Blk.cell K_p.out 0).trans (rfl : _ = some (Value.int .i64 N))
  have p1 := (Blk.cell K_p.out 1).trans (rfl : _ = some (Value.int .i64 C))
  have SK : ∀ w', Below w7.heap.size w7 w' → Below w7.heap.size w7 w' ∧ w'.cell? ⟨w.heap.size, 0, none⟩ = some (.int .i64 N) ∧ w'.cell? ⟨w.heap.size, 1, none⟩ = some (.int .i64 C) := fun w' h => ⟨h, (bcell h _ _ (block_lt_of_cell p0)).trans p0, (bcell h _ _ (block_lt_of_cell p1)).trans p1⟩
  have SS' : ∀ {R : Prop} {W : World}, Below w7.heap.size w7 W ∧ R → Std W := fun h => (HS.out.below HB.out (Nat.le_refl _)).below h.1 (Nat.le_refl _)
  go_region_held3 (fun w' => Below w7.heap.size w7 w' ∧ w'.cell? ⟨w.heap.size, 0, none⟩ = some (.int .i64 N) ∧ w'.cell? ⟨w.heap.size, 1, none⟩ = some (.int .i64 C)) (first | exact SK _ (Below.refl _ _).drew | exact SK _ (Below.refl _ _) | exact SK _ (bel_next (by assumption) (by assumption) (Nat.le_refl _)))
    (first
      | (go_at_call 12; refine (HA.out _ (SS' (by assumption))).mono ?_; rintro e wx ⟨rfl, hbW⟩)
      | (go_at_call 14; refine (HSE.out _).mono ?_; rintro e wx ⟨rfl, hbW⟩)
      | (go_at_call 18; refine (HK1.out _).mono ?_; rintro e wx ⟨rfl, hbW⟩)
      | (go_at_call 19; refine (HK2.out _).mono ?_; rintro e wx ⟨rfl, hbW⟩))
  obtain ⟨hbx, _⟩ : Below w7.heap.size w7 _ ∧ _ := by assumption
  have HX := hide (HB.out.trans (hbx.mono HB.out.size))
  clear hbx
  go_wp2_with fail
  go_ret
  exact ⟨rfl, HX.out⟩


theorem accepts_any (w : World) (N C lot bad : Int) (hs : Std w) :
    Calls Tryz.prog 3 #[.agg #[.int .i64 N, .int .i64 C], .int .i64 lot, .int .i64 bad] w fun e w' => e = .returned (.bool true) ∧ Below w.heap.size w w' := by
  rcases hF : fewB N C lot with _ | _
  · exact accs_wrong w N C lot bad hF hs
  · by_cases hg : ((1 ≤ N ∧ N ≤ 256 ∧ 0 ≤ C ∧ C ≤ N) ∧ N ≤ lot ∧ lot ≤ 4096) ∧ 0 ≤ bad ∧ bad ≤ lot
    · have hl : lot ≤ 9 := by
        unfold fewB at hF
        rw [ckL_zero.2 hg.1] at hF
        simpa using hF
      obtain ⟨n, rfl⟩ : ∃ n : Nat, N = (n : Int) := ⟨N.toNat, by omega⟩
      obtain ⟨c, rfl⟩ : ∃ c : Nat, C = (c : Int) := ⟨C.toNat, by omega⟩
      obtain ⟨l, rfl⟩ : ∃ l : Nat, lot = (l : Int) := ⟨lot.toNat, by omega⟩
      obtain ⟨b, rfl⟩ : ∃ b : Nat, bad = (b : Int) := ⟨bad.toNat, by omega⟩
      exact accs_main w n c l b hF ⟨(RT (accQ b (l - b) n c)).toArray⟩ ⟨(RT (outQ b (l - b) n c)).toArray⟩ 0 0
        (fun W hS => plAccept_any W n c l b (by omega) (by omega) (by omega) (by omega) (by omega) hS) (fun W _ => rfAccept_any W n c l b (by omega) (by omega) (by omega) (by omega) (by omega))
        (fun W hS => plOut_any W n c l b (by omega) (by omega) (by omega) (by omega) (by omega) hS) (fun W _ => rfOut_any W n c l b (by omega) (by omega) (by omega) (by omega) (by omega)) hs
    · have h2 := ckG_two.2 hg
      exact accs_main w N C lot bad hF ⟨#[]⟩ ⟨#[]⟩ 2 2 (fun W _ => plAccept_bad W N C lot bad h2) (fun W _ => rfAccept_bad W N C lot bad h2) (fun W _ => plOut_bad W N C lot bad h2) (fun W _ => rfOut_bad W N C lot bad h2) hs
end Go.Proofs.YtaccdkbofhlbkaaGreatDoor
