/- Contracts and plain laws that the statements of this seat share (part Tcao). -/
import Derived.Test.YthmmgjieppknkaaGreatDoorTcaa
import Derived.Test.YthmmgjieppknkaaGreatDoorTcab
import Derived.Test.YthmmgjieppknkaaGreatDoorTcac
import Derived.Test.YthmmgjieppknkaaGreatDoorTcad
import Derived.Test.YthmmgjieppknkaaGreatDoorTcae
import Derived.Test.YthmmgjieppknkaaGreatDoorTcaf
import Derived.Test.YthmmgjieppknkaaGreatDoorTcag
import Derived.Test.YthmmgjieppknkaaGreatDoorTcah
import Derived.Test.YthmmgjieppknkaaGreatDoorTcai
import Derived.Test.YthmmgjieppknkaaGreatDoorTcaj
import Derived.Test.YthmmgjieppknkaaGreatDoorTcak
import Derived.Test.YthmmgjieppknkaaGreatDoorTcal
import Derived.Test.YthmmgjieppknkaaGreatDoorTcam
import Derived.Test.YthmmgjieppknkaaGreatDoorTcan
import Derived.Test.YthmmgjieppknkaaGreatDoorKtaa
import Derived.Test.YthmmgjieppknkaaGreatDoorKtac
import Derived.Test.YthmmgjieppknkaaGreatDoorKtad
import Derived.Test.YthmmgjieppknkaaGreatDoorKtag
import Derived.Test.YthmmgjieppknkaaGreatDoorKtai
import Derived.Test.YthmmgjieppknkaaGreatDoorKtak
import Derived.Test.YthmmgjieppknkaaGreatDoorKtal
import Derived.Test.YthmmgjieppknkaaGreatDoorKtam
import Derived.Test.YthmmgjieppknkaaGreatDoorKtaq
import Derived.Test.YthmmgjieppknkaaGreatDoorKtar
import Derived.Test.YthmmgjieppknkaaGreatDoorKtas
import Derived.Test.YthmmgjieppknkaaGreatDoorKtat
import Derived.Test.YthmmgjieppknkaaGreatDoorKtau
import Derived.Test.YthmmgjieppknkaaGreatDoorKtax
import Derived.Maps.AppendAt
import Derived.Deep.RegionWith
import Derived.Laws.OwnMore
import Derived.Maps.OwnOps
import Derived.Deep.RegionHeld3
import Derived.Deep.RegionHeld
import Derived.DeepKeys4
import Derived.Maps.RangeWalk
import Derived.Deep.RegionLaw
import Derived.RegionTactic
import Derived.Laws.Tables
import Derived.Test.YthmmgjieppknkaaGreatDoorChecked
import Derived.WalkKit
import Derived.WalkSpells
import Derived.WalkLawsBesides
import Derived.Lib.Hide
import Derived.IntWalk
import Derived.BigQuiet
import Derived.Deep.QuietTactic
import Derived.Deep.LoopGhost
import Derived.Deep.DeepCutAuto
import Derived.Deep.DeepFit
import Derived.Deep.Light
import Derived.Outline
import Derived.Laws.Rows
import Derived.Laws.NewBlocks
import Derived.Laws.CopyOwn
import Derived.Lib.ItoaNum
import Derived.Lib.ItoaLen
import Derived.Lib.Atoi
import Derived.Lib.AtoiAll
import Derived.Lib.Strings
import Derived.Lib.SlTrimSet
import Derived.Lib.Builder
import Derived.Lib.AppendStr
import Derived.Laws.Externs
import Derived.WalkSmall
import Derived.Lib.AtoiErrMem
import Derived.Shelf.Strings.SlTrimAscii
import Derived.Shelf.Strings.Builder1
import Derived.Shelf.Strings.Trim
import Derived.Shelf.Small.Utf8
import Derived.Shelf.Small.Strs
import Derived.Shelf.Strings.BuilderF
import Derived.Shelf.Strings.BuilderK
import Derived.Shelf.Strconv.Atoi
import Derived.Shelf.Strconv.Itoa0
import Derived.Shelf.Strconv.Itoa1
import Derived.Shelf.LaysM
import Derived.Shelf.Strconv.Itoa2
import Derived.Shelf.Strconv.Itoa3
import Derived.Shelf.Strings.Search1
import Derived.Shelf.Strings.Search2
import Derived.Shelf.Strings.Cut
import Derived.Shelf.Strings.Shaped
import Derived.Shelf.Strings.Prefix
import Derived.Shelf.Strings.Runes
import Derived.Shelf.Strings.AsciiSet
import Derived.Shelf.Bits.Mul64
import Derived.Shelf.Unicode.DecodeSlow
import Derived.Test.YthmmgjieppknkaaGreatDoorProg
import Derived.Deep.AppendLies
import Derived.Lib.IndexMore
import Derived.Lib.IndexBytes
import Derived.Lib.IndexLaws
namespace Go.Proofs.YthmmgjieppknkaaGreatDoor
open Go.RowKit Go.Shelf Go.Maps MLab
set_option maxRecDepth 100000 in
set_option maxHeartbeats 2000000 in
theorem usual_any (w : World) :
    Calls Tryz.prog 38 #[] w fun e w' => e = .returned (.agg #[.int .i64 20, .int .i64 1, .int .i64 20, .int .i64 0, .int .i64 8, .int .i64 0]) ∧ Below w.heap.size w w' := by
  have HB := allocs_below w [.cells #[.int .i64 0, .int .i64 0, .int .i64 0, .int .i64 0, .int .i64 0, .int .i64 0] 26]
  have K_r : Blk (allocs w [.cells #[.int .i64 0, .int .i64 0, .int .i64 0, .int .i64 0, .int .i64 0, .int .i64 0] 26]) (w.heap.size + 0) 26 #[.int .i64 0, .int .i64 0, .int .i64 0, .int .i64 0, .int .i64 0, .int .i64 0] := allocs_at w [.cells #[.int .i64 0, .int .i64 0, .int .i64 0, .int .i64 0, .int .i64 0, .int .i64 0] 26] 0 rfl
  unfold allocs at HB K_r
  simp only [List.foldl_cons, List.foldl_nil] at HB K_r
  rw [Nat.add_zero] at K_r
  go_enter Tryz.func38, Tryz.ntmps38
  go_upto_region 1 with (fail)
  generalize (w.alloc (.cells #[.int .i64 0, .int .i64 0, .int .i64 0, .int .i64 0, .int .i64 0, .int .i64 0] 26)) = w0 at *
  replace K_r := hide K_r
  replace HB := hide HB
  have r0 := (Blk.cell K_r.out 0).trans (rfl : _ = some (Value.int .i64 0))
  have rf0 := Blk.frozen K_r.out 0
  have r1 := (Blk.cell K_r.out 1).trans (rfl : _ = some (Value.int .i64 0))
  have rf1 := Blk.frozen K_r.out 1
  have r2 := (Blk.cell K_r.out 2).trans (rfl : _ = some (Value.int .i64 0))
  have rf2 := Blk.frozen K_r.out 2
  have r3 := (Blk.cell K_r.out 3).trans (rfl : _ = some (Value.int .i64 0))
  have rf3 := Blk.frozen K_r.out 3
  have r4 := (Blk.cell K_r.out 4).trans (rfl : _ = some (Value.int .i64 0))
  have rf4 := Blk.frozen K_r.out 4
  have r5 := (Blk.cell K_r.out 5).trans (rfl : _ = some (Value.int .i64 0))
  have rf5 := Blk.frozen K_r.out 5
  go_wp2_with fail
  have rc0 := (Blk.cell ((((((K_r.out.set_ 0 (.int .i64 20)).set_ 1 (.int .i64 1)).set_ 2 (.int .i64 20)).set_ 3 (.int .i64 0)).set_ 4 (.int .i64 8)).set_ 5 (.int .i64 0)) 0).trans (rfl : _ = some (Value.int .i64 20))
  have rc1 := (Blk.cell ((((((K_r.out.set_ 0 (.int .i64 20)).set_ 1 (.int .i64 1)).set_ 2 (.int .i64 20)).set_ 3 (.int .i64 0)).set_ 4 (.int .i64 8)).set_ 5 (.int .i64 0)) 1).trans (rfl : _ = some (Value.int .i64 1))
  have rc2 := (Blk.cell ((((((K_r.out.set_ 0 (.int .i64 20)).set_ 1 (.int .i64 1)).set_ 2 (.int .i64 20)).set_ 3 (.int .i64 0)).set_ 4 (.int .i64 8)).set_ 5 (.int .i64 0)) 2).trans (rfl : _ = some (Value.int .i64 20))
  have rc3 := (Blk.cell ((((((K_r.out.set_ 0 (.int .i64 20)).set_ 1 (.int .i64 1)).set_ 2 (.int .i64 20)).set_ 3 (.int .i64 0)).set_ 4 (.int .i64 8)).set_ 5 (.int .i64 0)) 3).trans (rfl : _ = some (Value.int .i64 0))
  have rc4 := (Blk.cell ((((((K_r.out.set_ 0 (.int .i64 20)).set_ 1 (.int .i64 1)).set_ 2 (.int .i64 20)).set_ 3 (.int .i64 0)).set_ 4 (.int .i64 8)).set_ 5 (.int .i64 0)) 4).trans (rfl : _ = some (Value.int .i64 8))
  have rc5 := (Blk.cell ((((((K_r.out.set_ 0 (.int .i64 20)).set_ 1 (.int .i64 1)).set_ 2 (.int .i64 20)).set_ 3 (.int .i64 0)).set_ 4 (.int .i64 8)).set_ 5 (.int .i64 0)) 5).trans (rfl : _ = some (Value.int .i64 0))
  exact bodyPost_ret (v := .agg #[.int .i64 20, .int .i64 1, .int .i64 20, .int .i64 0, .int .i64 8, .int .i64 0]) (by simp [results, Tryz.results38, go_sem, rc0, rc1, rc2, rc3, rc4, rc5]) rfl ⟨rfl, ((((((HB.out.setCell (p := ⟨w.heap.size, 0, none⟩) (by show w.heap.size ≤ w.heap.size; omega) (.int .i64 20)).setCell (p := ⟨w.heap.size, 1, none⟩) (by show w.heap.size ≤ w.heap.size; omega) (.int .i64 1)).setCell (p := ⟨w.heap.size, 2, none⟩) (by show w.heap.size ≤ w.heap.size; omega) (.int .i64 20)).setCell (p := ⟨w.heap.size, 3, none⟩) (by show w.heap.size ≤ w.heap.size; omega) (.int .i64 0)).setCell (p := ⟨w.heap.size, 4, none⟩) (by show w.heap.size ≤ w.heap.size; omega) (.int .i64 8)).setCell (p := ⟨w.heap.size, 5, none⟩) (by show w.heap.size ≤ w.heap.size; omega) (.int .i64 0))⟩
end Go.Proofs.YthmmgjieppknkaaGreatDoor

namespace Go.Proofs.YthmmgjieppknkaaGreatDoor
open Go.RowKit Go.Shelf Go.Maps MLab
theorem caseB_true {S : Nat → Int × Int} (h : caseB S = true) : ∀ j, j < 3 → 1 ≤ (S j).1 ∧ (S j).1 ≤ 12 ∧ 0 ≤ (S j).2 ∧ (S j).2 < (S j).1 := by
  intro j hj
  refine Classical.byContradiction fun hn => ?_
  rw [caseB_bad hj hn] at h
  cases h
end Go.Proofs.YthmmgjieppknkaaGreatDoor

namespace Go.Proofs.YthmmgjieppknkaaGreatDoor
open Go.RowKit Go.Shelf Go.Maps MLab
theorem sumN_zero {g : Nat → Nat} : ∀ {n : Nat}, (∀ i, i < n → g i = 0) → sumN g n = 0
  | 0, _ => rfl
  | n + 1, h => by rw [sumN_succ, h n (by omega), sumN_zero (fun i hi => h i (by omega))]
theorem dC_last {N C n : Nat} (hC : C < N) : dC N C n n = 0 := by
  unfold dC accQ accN
  rw [Nat.sub_self, sumN_zero (fun i hi => by rw [bin_far (show 0 < N - i by omega), Nat.mul_zero])]
  exact Rat.zero_divInt _
theorem dC_first {N C n : Nat} (h : N ≤ n) : dC N C n 0 = 1 := by unfold dC; exact accQ_none (by omega)
theorem dC_falls {N C n i : Nat} (hC : C ≤ N) (hN : N ≤ n) (hi : i + 1 ≤ n) : dC N C n (i + 1) ≤ dC N C n i := by
  unfold dC
  have h := accQ_mono (b := i) (g := n - (i + 1)) (N := N) (C := C) hC (by omega)
  rwa [show n - (i + 1) + 1 = n - i by omega] at h
theorem dC_sz {N C n i : Nat} (hC : C ≤ N) (hN : N ≤ n) (hn : n ≤ 12) (hi : i ≤ n) : Sz 21 21 (dC N C n i) := by
  unfold dC; exact accQ_sz hC (by omega) (by omega) (by omega)
theorem dC_chk (W : World) {N C n i : Nat} (hC : C ≤ N) (hN : N ≤ n) (hn : n ≤ 12) (hi : i ≤ n) : Calls Tryz.prog 35 #[.string ⟨(RT (dC N C n i)).toArray⟩] W fun e w' => e = .returned (.int .i64 0) ∧ Below W.heap.size W w' := by
  have hF := (dC_sz hC hN hn hi).fit (by omega) (by omega)
  have h := rrcheck_any W ⟨(RT (dC N C n i)).toArray⟩ (RT (dC N C n i)) rfl (by rw [Lib.size_eq]; have := RT_len hF; show (RT (dC N C n i)).length ≤ 200000; omega)
  rw [chkR_RT hF] at h
  exact h
theorem dC_ord {N C n i : Nat} (hC : C ≤ N) (hN : N ≤ n) (hn : n ≤ 12) (hi : i + 1 ≤ n) : ∃ z : Int, z ≤ 0 ∧ ∀ W, Calls Tryz.prog 36 #[.string ⟨(RT (dC N C n (i + 1))).toArray⟩, .string ⟨(RT (dC N C n i)).toArray⟩] W fun e w' => e = .returned (.int .i64 z) ∧ Below W.heap.size W w' :=
  ⟨sgn (dC N C n (i + 1)) (dC N C n i), sgn_le.2 (dC_falls hC hN hi), fun W => rqorder_any W _ _ _ _ rfl rfl (m := 21) (by omega) (dC_sz hC hN hn hi) (dC_sz hC hN hn (by omega))⟩
theorem dC_run (W : World) {N C n : Nat} (h1 : 1 ≤ N) (hC : C < N) (hN : N ≤ n) (hn : n ≤ 12) (hs : Std W) : Calls Tryz.prog 51 #[.agg #[.int .i64 (N : Int), .int .i64 (C : Int)], .int .i64 (n : Int)] W fun e w' => (∃ b off c, e = .returned (.tuple #[.slice (some ⟨b, off, none⟩) (n + 1) c, .int .i64 0]) ∧ ∀ i, i < n + 1 → w'.cell? ⟨b, off + i, none⟩ = some (.string ⟨(RT (dC N C n i)).toArray⟩)) ∧ Below W.heap.size W w' := by
  refine (curve_any W N C n h1 (by omega) hN (by omega) hs).mono ?_
  rintro e w' ⟨v, rfl, hv, hb⟩
  obtain ⟨b, off, c, rfl, hc⟩ := curve_shape (by omega) hv
  exact ⟨⟨b, off, c, rfl, hc⟩, hb⟩
theorem none_run (W : World) : Calls Tryz.prog 27 #[.agg #[.int .i64 20, .int .i64 1, .int .i64 20, .int .i64 0, .int .i64 8, .int .i64 0], .slice none 0 0] W fun e w' => (∃ A c rs, e = .returned (.tuple #[.agg #[.int .i64 0, .int .i64 0, .slice A 0 c, .int .i64 0], rs, .int .i64 0, .int .i64 0]) ∧ SlL w' (.slice A 0 c) (bcl [])) ∧ Below W.heap.size W w' := by
  have hg : runG usS [] = .inl cr0 := rfl
  refine (swrun_ok W usS (.slice none 0 0) [] cr0 (SlL.nil W) hg).mono ?_
  rintro e w' ⟨⟨u, rs, rfl, ⟨sl, rfl, hsl⟩, hrs⟩, hb⟩
  obtain ⟨A, c, rfl⟩ := hsl.shape
  exact ⟨⟨A, c, rs, rfl, hsl⟩, hb⟩
set_option maxRecDepth 100000 in
set_option maxHeartbeats 16000000 in
theorem curvet_any (w : World) (S : Nat → Int × Int) (lot : Int) (hlot : 0 ≤ lot ∧ lot < 256) (hs : Std w) :
    Calls Tryz.prog 14 #[schV S, .int .u8 lot] w fun e w' => e = .returned (.bool true) ∧ Below w.heap.size w w' := by
  have HS := hide hs
  have HLO := hide (fun W hS => clots_any W hS)
  have HCS := hide (fun W => casch_any W S)
  have HI := hide (fun (j : Nat) (hj : j < 3) W => idx_rule S hj W)
  obtain ⟨cb, hcb⟩ : ∃ q, caseB S = q := ⟨_, rfl⟩
  rw [hcb] at HCS
  have HCB := hide hcb
  have hw1 : IntKind.i64.wrap lot = lot := IntWalk.i64_in _ (by omega)
  obtain ⟨k9, hk9⟩ : ∃ k : Nat, lot.tmod 9 = (k : Int) := ⟨(lot.tmod 9).toNat, by have := Int.tmod_nonneg (a := lot) 9 hlot.1; omega⟩
  have hk99 : k9 < 9 := by have := Int.tmod_lt_of_pos lot (show (0 : Int) < 9 by omega); omega
  have hw2 : IntKind.i64.wrap (1 + (k9 : Int)) = 1 + (k9 : Int) := IntWalk.i64_in _ (by omega)
  have HK9 := hide hk99
  clear hs hcb hlot hk99
  cases cb with
  | false =>
    unfold schV at HCS HI ⊢
    have HB := allocs_below w [.cells #[.int .i64 (S 0).1, .int .i64 (S 0).2, .int .i64 (S 1).1, .int .i64 (S 1).2, .int .i64 (S 2).1, .int .i64 (S 2).2] 26]
    have K_s : Blk (allocs w [.cells #[.int .i64 (S 0).1, .int .i64 (S 0).2, .int .i64 (S 1).1, .int .i64 (S 1).2, .int .i64 (S 2).1, .int .i64 (S 2).2] 26]) (w.heap.size + 0) 26 #[.int .i64 (S 0).1, .int .i64 (S 0).2, .int .i64 (S 1).1, .int .i64 (S 1).2, .int .i64 (S 2).1, .int .i64 (S 2).2] := allocs_at w [.cells #[.int .i64 (S 0).1, .int .i64 (S 0).2, .int .i64 (S 1).1, .int .i64 (S 1).2, .int .i64 (S 2).1, .int .i64 (S 2).2] 26] 0 rfl
    unfold allocs at HB K_s
    simp only [List.foldl_cons, List.foldl_nil] at HB K_s
    rw [Nat.add_zero] at K_s
    go_enter Tryz.func14, Tryz.ntmps14
    go_upto_region 1 with (fail)
    generalize (w.alloc (.cells #[.int .i64 (S 0).1, .int .i64 (S 0).2, .int .i64 (S 1).1, .int .i64 (S 1).2, .int .i64 (S 2).1, .int .i64 (S 2).2] 26)) = w0 at *
    replace K_s := hide K_s
    replace HB := hide HB
    have s0 := (Blk.cell K_s.out 0).trans (rfl : _ = some (Value.int .i64 (S 0).1))
    have s1 := (Blk.cell K_s.out 1).trans (rfl : _ = some (Value.int .i64 (S 0).2))
    have s2 := (Blk.cell K_s.out 2).trans (rfl : _ = some (Value.int .i64 (S 1).1))
    have s3 := (Blk.cell K_s.out 3).trans (rfl : _ = some (Value.int .i64 (S 1).2))
    have s4 := (Blk.cell K_s.out 4).trans (rfl : _ = some (Value.int .i64 (S 2).1))
    have s5 := (Blk.cell K_s.out 5).trans (rfl : _ = some (Value.int .i64 (S 2).2))
    go_wp2_with fail
    refine (HCS.out _).mono ?_
    rintro e w1 ⟨rfl, hb⟩
    clear s0 s1 s2 s3 s4 s5
    replace K_s := hide (Blk.below K_s.out hb (Blk.lt K_s.out))
    replace HB := hide (HB.out.trans (hb.mono HB.out.size))
    clear hb
    go_wp2_with fail
    refine (HLO.out _ (HS.out.below HB.out (Nat.le_refl _))).mono ?_
    rintro e w2 ⟨rfl, hb⟩
    replace K_s := hide (Blk.below K_s.out hb (Blk.lt K_s.out))
    replace HB := hide (HB.out.trans (hb.mono HB.out.size))
    clear hb
    go_wp2_with fail
    go_ret
    exact ⟨rfl, HB.out⟩
  | true =>
    have HSB := hide (caseB_true HCB.out)
    have HUS := hide (fun W => usual_any W)
    have HNR := hide (fun W => none_run W)
    unfold schV at HCS HI ⊢
    have HB := allocs_below w [.cells #[.int .i64 (S 0).1, .int .i64 (S 0).2, .int .i64 (S 1).1, .int .i64 (S 1).2, .int .i64 (S 2).1, .int .i64 (S 2).2] 26]
    have K_s : Blk (allocs w [.cells #[.int .i64 (S 0).1, .int .i64 (S 0).2, .int .i64 (S 1).1, .int .i64 (S 1).2, .int .i64 (S 2).1, .int .i64 (S 2).2] 26]) (w.heap.size + 0) 26 #[.int .i64 (S 0).1, .int .i64 (S 0).2, .int .i64 (S 1).1, .int .i64 (S 1).2, .int .i64 (S 2).1, .int .i64 (S 2).2] := allocs_at w [.cells #[.int .i64 (S 0).1, .int .i64 (S 0).2, .int .i64 (S 1).1, .int .i64 (S 1).2, .int .i64 (S 2).1, .int .i64 (S 2).2] 26] 0 rfl
    unfold allocs at HB K_s
    simp only [List.foldl_cons, List.foldl_nil] at HB K_s
    rw [Nat.add_zero] at K_s
    go_enter Tryz.func14, Tryz.ntmps14
    go_upto_region 1 with (fail)
    generalize (w.alloc (.cells #[.int .i64 (S 0).1, .int .i64 (S 0).2, .int .i64 (S 1).1, .int .i64 (S 1).2, .int .i64 (S 2).1, .int .i64 (S 2).2] 26)) = w0 at *
    replace K_s := hide K_s
    replace HB := hide HB
    have s0 := (Blk.cell K_s.out 0).trans (rfl : _ = some (Value.int .i64 (S 0).1))
    have s1 := (Blk.cell K_s.out 1).trans (rfl : _ = some (Value.int .i64 (S 0).2))
    have s2 := (Blk.cell K_s.out 2).trans (rfl : _ = some (Value.int .i64 (S 1).1))
    have s3 := (Blk.cell K_s.out 3).trans (rfl : _ = some (Value.int .i64 (S 1).2))
    have s4 := (Blk.cell K_s.out 4).trans (rfl : _ = some (Value.int .i64 (S 2).1))
    have s5 := (Blk.cell K_s.out 5).trans (rfl : _ = some (Value.int .i64 (S 2).2))
    go_wp2_with fail
    refine (HCS.out _).mono ?_
    rintro e w1 ⟨rfl, hb⟩
    clear s0 s1 s2 s3 s4 s5
    replace K_s := hide (Blk.below K_s.out hb (Blk.lt K_s.out))
    replace HB := hide (HB.out.trans (hb.mono HB.out.size))
    clear hb
    have s0 := (Blk.cell K_s.out 0).trans (rfl : _ = some (Value.int .i64 (S 0).1))
    have s1 := (Blk.cell K_s.out 1).trans (rfl : _ = some (Value.int .i64 (S 0).2))
    have s2 := (Blk.cell K_s.out 2).trans (rfl : _ = some (Value.int .i64 (S 1).1))
    have s3 := (Blk.cell K_s.out 3).trans (rfl : _ = some (Value.int .i64 (S 1).2))
    have s4 := (Blk.cell K_s.out 4).trans (rfl : _ = some (Value.int .i64 (S 2).1))
    have s5 := (Blk.cell K_s.out 5).trans (rfl : _ = some (Value.int .i64 (S 2).2))
    go_wp2_with fail
    go_loopg [21] 3 (fun z iv wr => ∃ j : Nat, iv = .int .i64 (j : Int) ∧ z + j = 3 ∧ Below w.heap.size w wr)
    case atStart => exact ⟨0, rfl, rfl, HB.out⟩
    case round =>
      clear HB K_s s0 s1 s2 s3 s4 s5
      obtain ⟨j, rfl, hq, hb⟩ := hrel
      obtain ⟨W1, rfl⟩ : ∃ W, W = wr := ⟨_, rfl⟩
      obtain ⟨g0, hg0⟩ : ∃ g, g = gk := ⟨_, rfl⟩
      have HG0 := hide hg0
      have HQ := hide hq
      have HB := hide hb
      have hj : j ≤ 3 := by omega
      clear hq hb hg0
      by_cases hlt : j < 3
      · have hji : (j : Int) < 3 := by omega
        have hx := HI.out j hlt
        obtain ⟨hs1, hs2, hs3, hs4⟩ := HSB.out j hlt
        obtain ⟨N, hN⟩ : ∃ N : Nat, (S j).1 = (N : Int) := ⟨(S j).1.toNat, by omega⟩
        obtain ⟨C, hC⟩ : ∃ C : Nat, (S j).2 = (C : Int) := ⟨(S j).2.toNat, by omega⟩
        rw [hN] at hs1 hs2 hs4
        rw [hC] at hs3 hs4
        rw [hN, hC] at hx
        obtain ⟨m, hm⟩ : ∃ m : Nat, max (N : Int) (1 + (k9 : Int)) = (m : Int) := ⟨max N (1 + k9), by omega⟩
        obtain ⟨n, hn⟩ : ∃ n : Nat, min (m : Int) 12 = (n : Int) := ⟨min m 12, by omega⟩
        have hNn : N ≤ n := by have := HK9.out; omega
        have hn12 : n ≤ 12 := by omega
        have h1N : 1 ≤ N := by omega
        have hCN : C < N := by omega
        have H1 := hide (fun W hS => dC_run W h1N hCN hNn hn12 hS)
        have HCK := hide (fun (i : Nat) (hi : i ≤ n) W => dC_chk W (i := i) (Nat.le_of_lt hCN) hNn hn12 hi)
        have HOR := hide (fun (i : Nat) (hi : i + 1 ≤ n) => dC_ord (i := i) (Nat.le_of_lt hCN) hNn hn12 hi)
        have hd0 : dC N C n 0 = 1 := dC_first hNn
        have hdn : dC N C n n = 0 := dC_last hCN
        obtain ⟨Dd, hDd⟩ : ∃ D, dC N C n = D := ⟨_, rfl⟩
        rw [hDd] at H1 HCK HOR hd0 hdn
        have HD0 := hide hd0
        have HDN := hide hdn
        have hn0 : 0 < n := by omega
        have hwn : IntKind.i64.wrap ((n : Int) + 1) = ((n + 1 : Nat) : Int) := (IntWalk.i64_in _ (by omega)).trans (by omega)
        obtain ⟨n1, hn1⟩ : ∃ n1, n + 1 = n1 := ⟨_, rfl⟩
        rw [hn1] at H1 hwn
        have HN1 := hide hn1
        have HN12 := hide hn12
        have HN0 := hide hn0
        have hsl : (0 : Int) < (n1 : Int) := by omega
        have hsl2 : (n : Int) < (n1 : Int) := by omega
        have hsl3 : (0 : Int) ≤ (n : Int) := by omega
        clear hs1 hs2 hs3 hs4 hN hC hNn h1N hCN hd0 hdn hDd hn1 hn12 hn0
        go_upto_region 6 with (fail)
        have hbs_r : w.heap.size ≤ W1.heap.size := HB.out.size
        replace HB := HB.out.alloc HB.out.size (.cells #[.int .i64 (N : Int), .int .i64 (C : Int)] 23)
        have K_r := Blk.new W1 23 #[.int .i64 (N : Int), .int .i64 (C : Int)]
        generalize W1.alloc (.cells #[.int .i64 (N : Int), .int .i64 (C : Int)] 23) = w5 at *
        replace K_r := hide K_r
        replace HB := hide HB
        clear hx
        have r0 := (Blk.cell K_r.out 0).trans (rfl : _ = some (Value.int .i64 (N : Int)))
        have r1 := (Blk.cell K_r.out 1).trans (rfl : _ = some (Value.int .i64 (C : Int)))
        go_wp2_with fail
        refine (H1.out _ (HS.out.below HB.out (Nat.le_refl _))).mono ?_
        rintro e w6 ⟨⟨b, off, c, rfl, hcell⟩, hb⟩
        clear r0 r1
        replace K_r := hide (Blk.below K_r.out hb (Blk.lt K_r.out))
        replace HB := hide (HB.out.trans (hb.mono HB.out.size))
        clear hb
        have HX := hide hcell
        have x0 : w6.cell? ⟨b, off, none⟩ = some (.string ⟨#[49]⟩) := by
          have h := hcell 0 (by have := HN1.out; omega)
          rwa [HD0.out, RT_one] at h
        have xn : w6.cell? ⟨b, off + n, none⟩ = some (.string ⟨#[48]⟩) := by
          have h := hcell n (by have := HN1.out; omega)
          rwa [HDN.out, RT_zero] at h
        clear hcell K_r
        go_wp2_with fail
        clear x0 xn
        have HB6 := HB
        go_loopg [10] n (fun z iv wr => ∃ k : Nat, iv = .int .i64 ((k : Int) + 1) ∧ z + k = n ∧ Below w6.heap.size w6 wr)
        case atStart => exact ⟨0, rfl, rfl, Below.refl _ _⟩
        case round =>
          clear HB
          obtain ⟨k, rfl, hq2, hb2⟩ := hrel
          obtain ⟨W2, rfl⟩ : ∃ W, W = wr := ⟨_, rfl⟩
          have HQ2 := hide hq2
          have HW2 := hide hb2
          have HB := hide (HB6.out.trans (hb2.mono HB6.out.size))
          have hkn : k ≤ n := by omega
          clear hq2 hb2
          by_cases hlk : k < n
          · obtain ⟨i, hi⟩ : ∃ i, k + 1 = i := ⟨_, rfl⟩
            have hii : (k : Int) + 1 = (i : Int) := by omega
            rw [hii]
            have hin : (i : Int) ≤ (n : Int) := by omega
            have hi0 : (0 : Int) ≤ (i : Int) := by omega
            have hk0 : (0 : Int) ≤ (k : Int) := by omega
            have his : (i : Int) < (n1 : Int) := by omega
            have hks : (k : Int) < (n1 : Int) := by omega
            have hwi : IntKind.i64.wrap ((i : Int) - 1) = (k : Int) := (IntWalk.i64_in _ (by have := HN12.out; omega)).trans (by omega)
            have hwi2 : IntKind.i64.wrap ((i : Int) + 1) = (i : Int) + 1 := IntWalk.i64_in _ (by have := HN12.out; omega)
            have y1 := (bcell HW2.out _ _ (block_lt_of_cell (HX.out i (by have := HN1.out; omega)))).trans (HX.out i (by have := HN1.out; omega))
            have y2 := (bcell HW2.out _ _ (block_lt_of_cell (HX.out k (by have := HN1.out; omega)))).trans (HX.out k (by have := HN1.out; omega))
            have HC1 := hide (HCK.out i (by omega))
            obtain ⟨sg, hsg, ho⟩ := HOR.out k (by omega)
            rw [hi] at ho
            have HO1 := hide ho
            have hsgn : ¬ 0 < sg := by omega
            have HII := hide hii
            have HLK := hide hlk
            clear hsg ho hi hii hkn hlk
            have SK : ∀ w', Below W2.heap.size W2 w' → Below W2.heap.size W2 w' ∧ w'.cell? ⟨b, off + i, none⟩ = some (.string ⟨(RT (Dd i)).toArray⟩) ∧ w'.cell? ⟨b, off + k, none⟩ = some (.string ⟨(RT (Dd k)).toArray⟩) := fun w' h => ⟨h, (bcell h _ _ (block_lt_of_cell y1)).trans y1, (bcell h _ _ (block_lt_of_cell y2)).trans y2⟩
            go_upto_region 13 with (fail)
            go_region_held3 (fun w' => Below W2.heap.size W2 w' ∧ w'.cell? ⟨b, off + i, none⟩ = some (.string ⟨(RT (Dd i)).toArray⟩) ∧ w'.cell? ⟨b, off + k, none⟩ = some (.string ⟨(RT (Dd k)).toArray⟩)) (first | exact SK _ (Below.refl _ _).drew | exact SK _ (Below.refl _ _) | exact SK _ (bel_next (by assumption) (by assumption) (Nat.le_refl _)))
              (first
                | (go_at_call 35; refine (HC1.out _).mono ?_; rintro e wx ⟨rfl, hbW⟩)
                | (go_at_call 36; refine (HO1.out _).mono ?_; rintro e wx ⟨rfl, hbW⟩))
            obtain ⟨hbx, _⟩ : Below W2.heap.size W2 _ ∧ _ := by assumption
            have HXW := hide (HW2.out.trans (hbx.mono HW2.out.size))
            clear hbx SK y1 y2
            go_wp2_with fail
            go_roundg (gk - 1)
            case measure => have := HQ2.out; have := HLK.out; omega
            case rel => exact ⟨k + 1, by rw [← HII.out]; go_num, by have := HQ2.out; have := HLK.out; omega, HXW.out⟩
          · obtain rfl : k = n := by omega
            have hin : ¬ (k : Int) + 1 ≤ (k : Int) := by omega
            have hm1 : g0 - 1 + (j + 1) = 3 := by have := HQ.out; have := HG0.out; omega
            go_wp2_with fail
            go_roundg (g0 - 1)
            case measure => have := HQ.out; have := HG0.out; omega
            case rel => exact ⟨j + 1, by go_num, by have := HQ.out; have := HG0.out; omega, HB.out⟩
      · have hji : ¬ (j : Int) < 3 := by omega
        have HR0 := hide (fun (W : World) (A : Option Addr) (c : Nat) (h : SlL W (.slice A 0 c) (bcl [])) => (show Calls Tryz.prog 23 #[.agg #[.int .i64 0, .int .i64 0, .slice A 0 c, .int .i64 0]] W (fun e w' => e = .returned (.int .i64 0) ∧ Below W.heap.size W w') from rswright_any W 0 0 0 _ [] h (by decide)))
        go_wp2_with fail
        refine (HUS.out _).mono ?_
        rintro e w2 ⟨rfl, hb⟩
        replace HB := hide (HB.out.trans (hb.mono HB.out.size))
        clear hb
        go_wp2_with fail
        refine (HNR.out _).mono ?_
        rintro e w3 ⟨⟨A, c, rs, rfl, hsl⟩, hb⟩
        replace HB := hide (HB.out.trans (hb.mono HB.out.size))
        clear hb
        have HSL := hide hsl
        clear hsl
        go_upto_region 17 with (fail)
        have hbs_x : w.heap.size ≤ w3.heap.size := HB.out.size
        replace HB := HB.out.alloc HB.out.size (.cells #[.int .i64 0, .int .i64 0, .slice A 0 c, .int .i64 0] 29)
        have K_x := Blk.new w3 29 #[.int .i64 0, .int .i64 0, .slice A 0 c, .int .i64 0]
        replace HSL := HSL.out.below ((Below.refl w3.heap.size w3).alloc (Nat.le_refl _) (.cells #[.int .i64 0, .int .i64 0, .slice A 0 c, .int .i64 0] 29))
        generalize w3.alloc (.cells #[.int .i64 0, .int .i64 0, .slice A 0 c, .int .i64 0] 29) = w4 at *
        replace K_x := hide K_x
        replace HB := hide HB
        replace HSL := hide HSL
        have x0 := (Blk.cell K_x.out 0).trans (rfl : _ = some (Value.int .i64 0))
        have x1 := (Blk.cell K_x.out 1).trans (rfl : _ = some (Value.int .i64 0))
        have x2 := (Blk.cell K_x.out 2).trans (rfl : _ = some (Value.slice A 0 c))
        have x3 := (Blk.cell K_x.out 3).trans (rfl : _ = some (Value.int .i64 0))
        go_wp2_with fail
        refine (HR0.out _ _ _ HSL.out).mono ?_
        rintro e w5 ⟨rfl, hb⟩
        clear x0 x1 x2 x3
        replace K_x := hide (Blk.below K_x.out hb (Blk.lt K_x.out))
        replace HB := hide (HB.out.trans (hb.mono HB.out.size))
        replace HSL := hide (HSL.out.below hb)
        clear hb
        go_wp2_with fail
        refine (HLO.out _ (HS.out.below HB.out (Nat.le_refl _))).mono ?_
        rintro e w6 ⟨rfl, hb⟩
        replace K_x := hide (Blk.below K_x.out hb (Blk.lt K_x.out))
        replace HB := hide (HB.out.trans (hb.mono HB.out.size))
        replace HSL := hide (HSL.out.below hb)
        clear hb
        go_wp2_with fail
        go_ret
        exact ⟨rfl, HB.out⟩
end Go.Proofs.YthmmgjieppknkaaGreatDoor
