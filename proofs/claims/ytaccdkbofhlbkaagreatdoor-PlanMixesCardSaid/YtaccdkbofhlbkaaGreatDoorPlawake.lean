/- The examples of the chapter about plans. -/
import Derived.Test.YtaccdkbofhlbkaaGreatDoorPlleast
import Derived.Test.YtaccdkbofhlbkaaGreatDoorPlbn
namespace Go.Proofs.YtaccdkbofhlbkaaGreatDoor
open Go.RowKit Go.Shelf MLab

theorem rt_a : (⟨(RT (accQ 2 (5 - 2) 2 0)).toArray⟩ : ByteArray) = ⟨#[51, 47, 49, 48]⟩ := by decide +kernel
theorem rt_b : (⟨(RT (accQ 2 (5 - 2) 2 1)).toArray⟩ : ByteArray) = ⟨#[57, 47, 49, 48]⟩ := by decide +kernel
theorem rt_c : (⟨(RT (outQ 2 (5 - 2) 2 0)).toArray⟩ : ByteArray) = ⟨#[51, 47, 50, 53]⟩ := by decide +kernel
theorem rt_d : (⟨(RT (outQ 2 (5 - 2) 2 1)).toArray⟩ : ByteArray) = ⟨#[54, 47, 50, 53]⟩ := by decide +kernel
theorem rt_x : (⟨(RT (proQ 1 2 3 1)).toArray⟩ : ByteArray) = ⟨#[50, 48, 47, 50, 55]⟩ := by decide +kernel
theorem rt_third : RT (Rat.divInt 1 3) = [49, 47, 51] := by decide +kernel
theorem rt_half : RT (Rat.divInt 1 2) = [49, 47, 50] := by decide +kernel
theorem first_awake : FirstP 5 1 3 0 (Rat.divInt 1 2) 3 1 := by
  refine ⟨by decide, by decide, by decide, by decide +kernel, ?_⟩
  have h : ∀ n' : Fin 4, ∀ c' : Fin 4, 1 ≤ n'.1 → c'.1 ≤ n'.1 → (n'.1 < 3 ∨ (n'.1 = 3 ∧ c'.1 < 1)) → meetsP 5 1 3 0 (Rat.divInt 1 2) n'.1 c'.1 = false := by decide +kernel
  intro n' c' h1 h2 h3
  exact h ⟨n', by omega⟩ ⟨c', by omega⟩ h1 h2 h3

set_option maxRecDepth 100000 in
set_option maxHeartbeats 8000000 in
theorem awake54_any (w : World) (hs : Std w) :
    Calls Tryz.prog 12 #[] w fun e w' => e = .returned (.bool true) ∧ Below w.heap.size w w' := by
  have HS := hide hs
  have H1 := hide (fun W (hS : Std W) => plAccept_any W 2 0 5 2 (by omega) (by omega) (by omega) (by omega) (by omega) hS)
  unfold RetRat at H1
  rw [rt_a] at H1
  have H2 := hide (fun W (hS : Std W) => plAccept_any W 2 1 5 2 (by omega) (by omega) (by omega) (by omega) (by omega) hS)
  unfold RetRat at H2
  rw [rt_b] at H2
  have H3 := hide (fun W (hS : Std W) => plOut_any W 2 0 5 2 (by omega) (by omega) (by omega) (by omega) (by omega) hS)
  unfold RetRat at H3
  rw [rt_c] at H3
  have H4 := hide (fun W (hS : Std W) => plOut_any W 2 1 5 2 (by omega) (by omega) (by omega) (by omega) (by omega) hS)
  unfold RetRat at H4
  rw [rt_d] at H4
  have H5 := hide (fun W (hS : Std W) => plBin_any W 3 1 1 2 1 ⟨#[49, 47, 51]⟩ (Rat.divInt 1 3) rt_third.symm (by decide +kernel) (by decide +kernel) (by omega) (by omega) (by omega) (by omega) (by omega) hS)
  unfold RetRat at H5
  rw [rt_x] at H5
  have H6 := hide (fun W (hS : Std W) => plLeast_any W 5 1 3 ⟨#[48]⟩ ⟨#[49, 47, 50]⟩ (by omega) (by omega) (by omega) (by omega) 0 (Rat.divInt 1 2) RT_zero.symm rt_half.symm (by unfold Sz; decide +kernel) (by unfold Sz; decide +kernel) (by decide +kernel) (by decide +kernel) hS)
  clear hs
  have HB := hide (Below.refl w.heap.size w)
  go_enter Tryz.func12, Tryz.ntmps12
  go_wp2_with fail
  refine (H1.out _ (HS.out.below HB.out (Nat.le_refl _))).mono ?_
  rintro e w1 ⟨rfl, hb⟩
  replace HB := hide (HB.out.trans (hb.mono HB.out.size))
  clear hb
  go_wp2_with fail
  refine (H2.out _ (HS.out.below HB.out (Nat.le_refl _))).mono ?_
  rintro e w2 ⟨rfl, hb⟩
  replace HB := hide (HB.out.trans (hb.mono HB.out.size))
  clear hb
  go_wp2_with fail
  refine (H3.out _ (HS.out.below HB.out (Nat.le_refl _))).mono ?_
  rintro e w3 ⟨rfl, hb⟩
  replace HB := hide (HB.out.trans (hb.mono HB.out.size))
  clear hb
  go_wp2_with fail
  refine (H4.out _ (HS.out.below HB.out (Nat.le_refl _))).mono ?_
  rintro e w4 ⟨rfl, hb⟩
  replace HB := hide (HB.out.trans (hb.mono HB.out.size))
  clear hb
  go_wp2_with fail
  refine (H5.out _ (HS.out.below HB.out (Nat.le_refl _))).mono ?_
  rintro e w5 ⟨rfl, hb⟩
  replace HB := hide (HB.out.trans (hb.mono HB.out.size))
  clear hb
  go_wp2_with fail
  refine (H6.out _ (HS.out.below HB.out (Nat.le_refl _))).mono ?_
  rintro e w6 ⟨n, c, hF, rfl, hb⟩
  obtain ⟨rfl, rfl⟩ := hF.uniq first_awake
  clear hF
  replace HB := hide (HB.out.trans (hb.mono HB.out.size))
  clear hb
  have hbl := (Below.refl w6.heap.size w6).alloc (Nat.le_refl _) (.cells #[.int .i64 3, .int .i64 1] 30)
  have HBL := hide hbl
  clear hbl
  go_wp2_with fail
  go_ret
  exact ⟨rfl, HB.out.trans (HBL.out.mono HB.out.size)⟩

set_option maxRecDepth 100000 in
set_option maxHeartbeats 2000000 in
theorem sent_any (w : World) (N C : Int) :
    Calls Tryz.prog 14 #[.agg #[.int .i64 N, .int .i64 C]] w fun e w' => e = .returned (.agg #[.int .i64 N, .int .i64 C]) ∧ Below w.heap.size w w' := by
  go_enter Tryz.func14, Tryz.ntmps14
  go_wp2_with fail
  refine bodyPost_ret (v := .agg #[.int .i64 N, .int .i64 C]) (by simp [results, Tryz.results14, go_sem]) rfl ⟨rfl, ?_⟩
  exact ((Below.refl _ _).alloc (Nat.le_refl _) _).alloc (by simp) _

/-- A plan is right for a lot that is not great. -/
def rightB (N C lot : Int) : Bool := decide (lot ≤ 40) && decide (ckL N C lot = 0)
theorem rightB_iff {N C lot : Int} : rightB N C lot = true ↔ lot ≤ 40 ∧ 1 ≤ N ∧ 0 ≤ C ∧ C ≤ N ∧ N ≤ lot := by
  unfold rightB
  rw [Bool.and_eq_true, decide_eq_true_eq, decide_eq_true_eq, ckL_zero]
  omega

set_option maxRecDepth 100000 in
set_option maxHeartbeats 2000000 in
theorem right54_any (w : World) (N C lot : Int) :
    Calls Tryz.prog 23 #[.agg #[.int .i64 N, .int .i64 C], .int .i64 lot] w fun e w' => e = .returned (.bool (rightB N C lot)) ∧ Below w.heap.size w w' := by
  by_cases h0 : 40 < lot
  · have HC := hide (fun W => rfsz_any W N C lot)
    have hr : rightB N C lot = false := by unfold rightB; simp; omega
    rw [hr]
    clear hr
    have h40 : ¬ lot ≤ 40 := by omega
    have HB := allocs_below w [.cells #[.int .i64 N, .int .i64 C] 23]
    have K_p : Blk (allocs w [.cells #[.int .i64 N, .int .i64 C] 23]) (w.heap.size + 0) 23 #[.int .i64 N, .int .i64 C] := allocs_at w [.cells #[.int .i64 N, .int .i64 C] 23] 0 rfl
    unfold allocs at HB K_p
    simp only [List.foldl_cons, List.foldl_nil] at HB K_p
    rw [Nat.add_zero] at K_p
    go_enter Tryz.func23, Tryz.ntmps23
    go_upto_region 1 with (fail)
    generalize (w.alloc (.cells #[.int .i64 N, .int .i64 C] 23)) = w0 at *
    replace K_p := hide K_p
    replace HB := hide HB
    have p0 := (Blk.cell K_p.out 0).trans (rfl : _ = some (Value.int .i64 N))
    have p1 := (Blk.cell K_p.out 1).trans (rfl : _ = some (Value.int .i64 C))
    go_wp2_with fail
    go_ret
    exact ⟨rfl, HB.out⟩
  · by_cases h1 : ¬ ((1 ≤ N ∧ N ≤ 256 ∧ 0 ≤ C ∧ C ≤ N) ∧ N ≤ lot ∧ lot ≤ 4096)
    · have HC := hide (fun W => rfsz_any W N C lot)
      rw [ckL_two.2 h1] at HC
      have hr : rightB N C lot = false := by unfold rightB; rw [ckL_two.2 h1]; simp
      rw [hr]
      clear hr
      clear h1
      have h40 : lot ≤ 40 := by omega
      have HB := allocs_below w [.cells #[.int .i64 N, .int .i64 C] 23]
      have K_p : Blk (allocs w [.cells #[.int .i64 N, .int .i64 C] 23]) (w.heap.size + 0) 23 #[.int .i64 N, .int .i64 C] := allocs_at w [.cells #[.int .i64 N, .int .i64 C] 23] 0 rfl
      unfold allocs at HB K_p
      simp only [List.foldl_cons, List.foldl_nil] at HB K_p
      rw [Nat.add_zero] at K_p
      go_enter Tryz.func23, Tryz.ntmps23
      go_upto_region 1 with (fail)
      generalize (w.alloc (.cells #[.int .i64 N, .int .i64 C] 23)) = w0 at *
      replace K_p := hide K_p
      replace HB := hide HB
      have p0 := (Blk.cell K_p.out 0).trans (rfl : _ = some (Value.int .i64 N))
      have p1 := (Blk.cell K_p.out 1).trans (rfl : _ = some (Value.int .i64 C))
      go_wp2_with fail
      refine (HC.out _).mono ?_
      rintro e w1 ⟨rfl, hb⟩
      clear p0 p1
      replace K_p := hide (Blk.below K_p.out hb (Blk.lt K_p.out))
      replace HB := hide (HB.out.trans (hb.mono HB.out.size))
      clear hb
      go_wp2_with fail
      go_ret
      exact ⟨rfl, HB.out⟩
    · have HC := hide (fun W => rfsz_any W N C lot)
      rw [ckL_zero.2 (Classical.not_not.1 h1)] at HC
      have hr : rightB N C lot = true := by unfold rightB; rw [ckL_zero.2 (Classical.not_not.1 h1)]; simp; omega
      rw [hr]
      clear hr
      clear h1
      have h40 : lot ≤ 40 := by omega
      have HB := allocs_below w [.cells #[.int .i64 N, .int .i64 C] 23]
      have K_p : Blk (allocs w [.cells #[.int .i64 N, .int .i64 C] 23]) (w.heap.size + 0) 23 #[.int .i64 N, .int .i64 C] := allocs_at w [.cells #[.int .i64 N, .int .i64 C] 23] 0 rfl
      unfold allocs at HB K_p
      simp only [List.foldl_cons, List.foldl_nil] at HB K_p
      rw [Nat.add_zero] at K_p
      go_enter Tryz.func23, Tryz.ntmps23
      go_upto_region 1 with (fail)
      generalize (w.alloc (.cells #[.int .i64 N, .int .i64 C] 23)) = w0 at *
      replace K_p := hide K_p
      replace HB := hide HB
      have p0 := (Blk.cell K_p.out 0).trans (rfl : _ = some (Value.int .i64 N))
      have p1 := (Blk.cell K_p.out 1).trans (rfl : _ = some (Value.int .i64 C))
      go_wp2_with fail
      refine (HC.out _).mono ?_
      rintro e w1 ⟨rfl, hb⟩
      clear p0 p1
      replace K_p := hide (Blk.below K_p.out hb (Blk.lt K_p.out))
      replace HB := hide (HB.out.trans (hb.mono HB.out.size))
      clear hb
      go_wp2_with fail
      go_ret
      exact ⟨rfl, HB.out⟩

end Go.Proofs.YtaccdkbofhlbkaaGreatDoor
