/- Contracts and plain laws that the statements of this seat share (part Ecaa). -/
import Derived.Test.YthmmgjieppknkaaGreatDoorKaa
import Derived.Test.YthmmgjieppknkaaGreatDoorKab
import Derived.Test.YthmmgjieppknkaaGreatDoorKac
import Derived.Test.YthmmgjieppknkaaGreatDoorKad
import Derived.Test.YthmmgjieppknkaaGreatDoorKag
import Derived.Test.YthmmgjieppknkaaGreatDoorKai
import Derived.Test.YthmmgjieppknkaaGreatDoorKak
import Derived.Test.YthmmgjieppknkaaGreatDoorKal
import Derived.Test.YthmmgjieppknkaaGreatDoorKam
import Derived.Test.YthmmgjieppknkaaGreatDoorKas
import Derived.Test.YthmmgjieppknkaaGreatDoorKat
import Derived.Test.YthmmgjieppknkaaGreatDoorKau
import Derived.ProofKit
import Derived.Maps.AppendAt
import Derived.OwnWalk
import Derived.Deep.RegionHeld3
import Derived.Laws.ResultCell
import Derived.ChangeKeysEq
import Derived.DeepKeys
import Derived.Test.YthmmgjieppknkaaGreatDoorChecked
import Derived.WalkKit
import Derived.WalkSpells
import Derived.WalkLawsBesides
import Derived.Lib.Hide
import Derived.IntWalk
import Derived.BigQuiet
import Derived.Deep.QuietTactic
import Derived.Deep.LoopGhost
import Derived.Deep.DeepCutAuto
import Derived.Deep.DeepFit
import Derived.Deep.Light
import Derived.Outline
import Derived.Laws.Rows
import Derived.Laws.NewBlocks
import Derived.Laws.CopyOwn
import Derived.Laws.Tables
import Derived.Lib.ItoaNum
import Derived.Lib.ItoaLen
import Derived.Lib.Atoi
import Derived.Lib.AtoiAll
import Derived.Lib.Strings
import Derived.Lib.SlTrimSet
namespace Go.Proofs.YthmmgjieppknkaaGreatDoor
open Go.RowKit MLab
set_option maxRecDepth 100000 in
set_option maxHeartbeats 2000000 in
theorem rswck_any (w : World) (S : Nat → Int × Int) :
    Calls Tryz.prog 20 #[schV S] w fun e w' => e = .returned (.int .i64 (ckS S)) ∧ Below w.heap.size w w' := by
  have HBJ := hide (fun j (hj : j < 3) h => ckS_bad (S := S) (j := j) hj h)
  have HOK := hide (fun h => ckS_ok (S := S) h)
  show Calls Tryz.prog 20 #[.agg #[.int .i64 (S 0).1, .int .i64 (S 0).2, .int .i64 (S 1).1, .int .i64 (S 1).2, .int .i64 (S 2).1, .int .i64 (S 2).2]] w _
  have HB := allocs_below w [.cells #[.int .i64 (S 0).1, .int .i64 (S 0).2, .int .i64 (S 1).1, .int .i64 (S 1).2, .int .i64 (S 2).1, .int .i64 (S 2).2] 43]
  have K_p : Blk (allocs w [.cells #[.int .i64 (S 0).1, .int .i64 (S 0).2, .int .i64 (S 1).1, .int .i64 (S 1).2, .int .i64 (S 2).1, .int .i64 (S 2).2] 43]) (w.heap.size + 0) 43 #[.int .i64 (S 0).1, .int .i64 (S 0).2, .int .i64 (S 1).1, .int .i64 (S 1).2, .int .i64 (S 2).1, .int .i64 (S 2).2] := allocs_at w [.cells #[.int .i64 (S 0).1, .int .i64 (S 0).2, .int .i64 (S 1).1, .int .i64 (S 1).2, .int .i64 (S 2).1, .int .i64 (S 2).2] 43] 0 rfl
  unfold allocs at HB K_p
  simp only [List.foldl_cons, List.foldl_nil] at HB K_p
  rw [Nat.add_zero] at K_p
  go_enter Tryz.func20, Tryz.ntmps20
  go_upto_region 1 with (fail)
  generalize (w.alloc (.cells #[.int .i64 (S 0).1, .int .i64 (S 0).2, .int .i64 (S 1).1, .int .i64 (S 1).2, .int .i64 (S 2).1, .int .i64 (S 2).2] 43)) = w0 at *
  replace K_p := hide K_p
  replace HB := hide HB
  have hat : ∀ j, j < 3 → w0.cell? ⟨w.heap.size, j * 2, none⟩ = some (.int .i64 (S j).1) ∧ w0.cell? ⟨w.heap.size, j * 2 + 1, none⟩ = some (.int .i64 (S j).2) := fun j hj => by
    rcases (by omega : j = 0 ∨ j = 1 ∨ j = 2) with rfl | rfl | rfl
    · exact ⟨(Blk.cell K_p.out 0).trans rfl, (Blk.cell K_p.out 1).trans rfl⟩
    · exact ⟨(Blk.cell K_p.out 2).trans rfl, (Blk.cell K_p.out 3).trans rfl⟩
    · exact ⟨(Blk.cell K_p.out 4).trans rfl, (Blk.cell K_p.out 5).trans rfl⟩
  have HAT := hide hat
  clear hat
  go_wp2_with fail
  go_loopg [3] 3 (fun z iv wr => ∃ j : Nat, iv = .int .i64 (j : Int) ∧ z + j = 3 ∧ Below w0.heap.size w0 wr ∧ ∀ i, i < j → 1 ≤ (S i).1 ∧ (S i).1 ≤ 1048576 ∧ 0 ≤ (S i).2 ∧ (S i).2 < (S i).1)
  case atStart => exact ⟨0, rfl, rfl, Below.refl _ _, fun i hi => absurd hi (by omega)⟩
  case round =>
    obtain ⟨j, rfl, hq, hb, hr⟩ := hrel
    have HQ := hide hq
    have HBL := hide hb
    have HR := hide hr
    have hj : j ≤ 3 := by omega
    have HX := hide (HB.out.trans (hb.mono HB.out.size))
    clear hq hb hr
    by_cases hlt : j < 3
    · have hji : (j : Int) < 3 := by omega
      have hj0 : (0 : Int) ≤ (j : Int) := by omega
      have HBAD := hide (fun h => HBJ.out j hlt h)
      obtain ⟨x1, x2⟩ := HAT.out j hlt
      obtain ⟨p, hp⟩ : ∃ p, S j = p := ⟨_, rfl⟩
      obtain ⟨s, a⟩ := p
      rw [hp] at x1 x2 HBAD
      simp only at x1 x2
      have HSJ := hide hp
      clear hp
      have hbs := HBL.out.size
      have hbx := HX.out.size
      have y1 := (bcell HBL.out _ _ (block_lt_of_cell x1)).trans x1
      have y2 := (bcell HBL.out _ _ (block_lt_of_cell x2)).trans x2
      clear x1 x2
      by_cases c1 : s < 1
      · have hz := HBAD.out (by omega)
        have HZ := hide hz
        clear hz
        go_wp2_with fail
        go_ret
        rw [HZ.out]
        exact ⟨rfl, HX.out.alloc hbx _⟩
      · by_cases c2 : 1048576 < s
        · have hz := HBAD.out (by omega)
          have HZ := hide hz
          clear hz
          go_wp2_with fail
          go_ret
          rw [HZ.out]
          exact ⟨rfl, HX.out.alloc hbx _⟩
        · by_cases c3 : a < 0
          · have hz := HBAD.out (by omega)
            have HZ := hide hz
            clear hz
            go_wp2_with fail
            go_ret
            rw [HZ.out]
            exact ⟨rfl, HX.out.alloc hbx _⟩
          · by_cases c4 : s ≤ a
            · have hz := HBAD.out (by omega)
              have HZ := hide hz
              clear hz
              go_wp2_with fail
              go_ret
              rw [HZ.out]
              exact ⟨rfl, HX.out.alloc hbx _⟩
            · go_wp2_with fail
              go_roundg (gk - 1)
              case measure => have := HQ.out; omega
              case rel => exact ⟨j + 1, by go_num, by have := HQ.out; omega, HBL.out.alloc hbs _, fun i hi => by
  rcases (by omega : i < j ∨ i = j) with h | h
  · exact HR.out i h
  · subst h; rw [HSJ.out]; exact ⟨by show 1 ≤ s; omega, by show s ≤ 1048576; omega, by show 0 ≤ a; omega, by show a < s; omega⟩⟩
    · have hji : ¬ (j : Int) < 3 := by omega
      have h3 : j = 3 := by omega
      subst h3
      go_wp2_with fail
      go_ret
      rw [HOK.out HR.out]
      exact ⟨rfl, HX.out⟩
end Go.Proofs.YthmmgjieppknkaaGreatDoor

namespace Go.Proofs.YthmmgjieppknkaaGreatDoor
open Go.RowKit MLab
def scanB (l : List Bool) : Nat → Nat × Nat
  | 0 => (0, 0)
  | j + 1 => if l[j]? = some false then ((scanB l j).1 + 1, j) else scanB l j
theorem scanB_le (l : List Bool) : ∀ j, (scanB l j).1 ≤ j
  | 0 => Nat.le_refl _
  | j + 1 => by
    rw [scanB]
    have := scanB_le l j
    split
    · show (scanB l j).1 + 1 ≤ j + 1; omega
    · omega
theorem scanB_at (l : List Bool) : ∀ j, (scanB l j).2 ≤ j
  | 0 => Nat.le_refl _
  | j + 1 => by
    rw [scanB]
    have := scanB_at l j
    split
    · show j ≤ j + 1; omega
    · omega
set_option maxRecDepth 100000 in
theorem scan_all : ∀ l ∈ allB, ((scanB l l.length).1 = 0 → firstF l = none) ∧ ((scanB l l.length).1 = 1 → firstF l = some (scanB l l.length).2 ∧ (l.drop ((scanB l l.length).2 + 1)).contains false = false) ∧
    (2 ≤ (scanB l l.length).1 → (match firstF l with | some k => (l.drop (k + 1)).contains false | none => false) = true) := by decide
theorem fits_zero {l : List Bool} (hl : l.length ≤ 4) (h : (scanB l l.length).1 = 0) (run : Int) : fitsI 0 run l = if l.length < 4 then decide (run = (l.length : Int)) else decide (4 ≤ run) := by
  unfold fitsI
  rw [if_neg (by simp), (scan_all l (mem_allB hl)).1 h]
theorem fits_one {l : List Bool} (hl : l.length ≤ 4) (h : (scanB l l.length).1 = 1) (run : Int) : fitsI 0 run l = decide (run = (l.length : Int) - 1 - ((scanB l l.length).2 : Int)) := by
  obtain ⟨h1, h2⟩ := (scan_all l (mem_allB hl)).2.1 h
  unfold fitsI
  rw [if_neg (by simp), h1]
  simp only [h2]
  rfl
theorem fits_two {l : List Bool} (hl : l.length ≤ 4) (h : 2 ≤ (scanB l l.length).1) (run : Int) : fitsI 0 run l = false := by
  have h1 := (scan_all l (mem_allB hl)).2.2 h
  unfold fitsI
  rw [if_neg (by simp)]
  cases hf : firstF l with
  | none => rw [hf] at h1; cases h1
  | some k =>
    rw [hf] at h1
    simp only at h1 ⊢
    rw [h1]; rfl
set_option maxRecDepth 100000 in
set_option maxHeartbeats 1000000 in
theorem rlongest_any (w : World) (mode : Int) :
    Calls Tryz.prog 53 #[.int .i64 mode] w fun e w' => e = .returned (.int .i64 (longI mode)) ∧ w' = w := by
  by_cases c1 : mode = 0
  · subst c1
    have hr : longI 0 = 10 := rfl
    rw [hr]
    clear hr
    go_enter Tryz.func53, Tryz.ntmps53
    go_wp2_with fail
    go_ret
    exact ⟨rfl, rfl⟩
  · by_cases c2 : mode = 1
    · subst c2
      have hr : longI 1 = 5 := rfl
      rw [hr]
      clear hr
      go_enter Tryz.func53, Tryz.ntmps53
      go_wp2_with fail
      go_ret
      exact ⟨rfl, rfl⟩
    · have h1 : (mode == 0) = false := by simpa using c1
      have h2 : (mode == 1) = false := by simpa using c2
      have hr : longI mode = 1 := by unfold longI; rw [if_neg c1, if_neg c2]
      rw [hr]
      clear hr
      go_enter Tryz.func53, Tryz.ntmps53
      go_wp2_with fail
      go_ret
      exact ⟨rfl, rfl⟩
set_option maxRecDepth 100000 in
set_option maxHeartbeats 4000000 in
theorem rfits_any (w : World) (mode run rej : Int) (v : Value) (l : List Bool) (hv : SlL w v (bcl l)) (hl : l.length ≤ 4) :
    Calls Tryz.prog 54 #[.agg #[.int .i64 mode, .int .i64 run, v, .int .i64 rej]] w fun e w' => e = .returned (.bool (fitsI mode run l)) ∧ Below w.heap.size w w' := by
  have HV := hide hv
  obtain ⟨A, c, rfl, -, hc⟩ := hv
  have HC := hide hc
  clear hc
  rw [bcl_len] at HV HC ⊢
  have H0 := hide (fun h => fits_zero hl h run)
  have H1 := hide (fun h => fits_one hl h run)
  have H2 := hide (fun h => fits_two hl h run)
  have hle := scanB_at l
  obtain ⟨N, hN⟩ : ∃ N, l.length = N := ⟨_, rfl⟩
  rw [hN] at HV HC hl H0 H1 H2 ⊢
  by_cases h0 : mode = 0
  · subst h0
    have HN := hide hN
    have HLE := hide hle
    clear hN hle
    have HB := allocs_below w [.cells #[.int .i64 0, .int .i64 run, .slice A N c, .int .i64 rej] 34]
    have K_p : Blk (allocs w [.cells #[.int .i64 0, .int .i64 run, .slice A N c, .int .i64 rej] 34]) (w.heap.size + 0) 34 #[.int .i64 0, .int .i64 run, .slice A N c, .int .i64 rej] := allocs_at w [.cells #[.int .i64 0, .int .i64 run, .slice A N c, .int .i64 rej] 34] 0 rfl
    unfold allocs at HB K_p
    simp only [List.foldl_cons, List.foldl_nil] at HB K_p
    rw [Nat.add_zero] at K_p
    go_enter Tryz.func54, Tryz.ntmps54
    go_upto_region 1 with (fail)
    generalize (w.alloc (.cells #[.int .i64 0, .int .i64 run, .slice A N c, .int .i64 rej] 34)) = w0 at *
    replace K_p := hide K_p
    replace HB := hide HB
    have p0 := (Blk.cell K_p.out 0).trans (rfl : _ = some (Value.int .i64 0))
    have p1 := (Blk.cell K_p.out 1).trans (rfl : _ = some (Value.int .i64 run))
    have p2 := (Blk.cell K_p.out 2).trans (rfl : _ = some (Value.slice A N c))
    have p3 := (Blk.cell K_p.out 3).trans (rfl : _ = some (Value.int .i64 rej))
    go_wp2_with fail
    go_loopg [4, 5, 6] N (fun z bv av iv wr => ∃ j : Nat, iv = .int .i64 (j : Int) ∧ z + j = N ∧ bv = .int .i64 ((scanB l j).1 : Int) ∧ av = .int .i64 ((scanB l j).2 : Int) ∧ Below w0.heap.size w0 wr)
    case atStart => exact ⟨0, rfl, rfl, rfl, rfl, Below.refl _ _⟩
    case round =>
      obtain ⟨j, rfl, hq, rfl, rfl, hb⟩ := hrel
      have HQ := hide hq
      have HBL := hide hb
      have hj : j ≤ N := by omega
      have HX := hide (HB.out.trans (hb.mono HB.out.size))
      have q1 := (bcell hb _ _ (block_lt_of_cell p1)).trans p1
      have q2 := (bcell hb _ _ (block_lt_of_cell p2)).trans p2
      clear hq hb p0 p1 p2 p3
      by_cases hlt : j < N
      · have hji : (j : Int) < (N : Int) := by omega
        have hj0 : (0 : Int) ≤ (j : Int) := by omega
        obtain ⟨g, og, rfl, hcell⟩ := HC.out (by omega)
        obtain ⟨b, hx⟩ : ∃ b, l[j]? = some b := ⟨_, List.getElem?_eq_getElem (by rw [HN.out]; exact hlt)⟩
        have a := hcell j _ (bcl_at hx)
        have a2 := (bcell HX.out _ _ (block_lt_of_cell a)).trans a
        have hsl := scanB_le l j
        have hs1 : scanB l (j + 1) = if l[j]? = some false then ((scanB l j).1 + 1, j) else scanB l j := rfl
        rw [hx] at hs1
        have HS1 := hide hs1
        clear a hcell hx HC hs1
        obtain ⟨x, hxx⟩ : ∃ x, (scanB l j).1 = x := ⟨_, rfl⟩
        obtain ⟨y, hyy⟩ : ∃ y, (scanB l j).2 = y := ⟨_, rfl⟩
        rw [hxx] at HS1 hsl ⊢
        rw [hyy]
        have hwx : IntKind.i64.wrap ((x : Int) + 1) = ((x + 1 : Nat) : Int) := (IntWalk.i64_in _ (by omega)).trans (by omega)
        have HXX := hide hxx
        have HYY := hide hyy
        clear hxx hyy
        cases b with
        | false =>
          go_wp2_with fail
          go_roundg (gk - 1)
          case measure => have := HQ.out; omega
          case rel => exact ⟨j + 1, by go_num, by have := HQ.out; omega, by rw [HS1.out]; simp, by rw [HS1.out]; simp, HBL.out⟩
        | true =>
          go_wp2_with fail
          go_roundg (gk - 1)
          case measure => have := HQ.out; omega
          case rel => exact ⟨j + 1, by go_num, by have := HQ.out; omega, by rw [HS1.out, if_neg (by simp), HXX.out], by rw [HS1.out, if_neg (by simp), HYY.out], HBL.out⟩
      · have hji : ¬ (j : Int) < (N : Int) := by omega
        have hjN : j = N := by omega
        subst hjN
        have hbl := scanB_le l j
        have hal := HLE.out j
        obtain ⟨x, hxx⟩ : ∃ x, (scanB l j).1 = x := ⟨_, rfl⟩
        obtain ⟨y, hyy⟩ : ∃ y, (scanB l j).2 = y := ⟨_, rfl⟩
        rw [hxx] at H0 H1 H2 hbl ⊢
        rw [hyy] at H1 hal ⊢
        have HXX := hide hxx
        have HYY := hide hyy
        clear hxx hyy
        by_cases hx0 : x = 0
        · subst hx0
          have hz := H0.out rfl
          by_cases h4 : j < 4
          · rw [if_pos h4] at hz
            have h4i : (j : Int) < 4 := by omega
            by_cases hq : run = (j : Int)
            · rw [decide_eq_true hq] at hz
              have HRR := hide hz
              have hd : (run == (j : Int)) = true := by rw [hq]; exact beq_self_eq_true _
              have HQ2 := hide hq
              clear hz hq
              clear H0 H1 H2
              go_wp2_with fail
              go_ret
              rw [HRR.out]
              exact ⟨rfl, HX.out⟩
            · rw [decide_eq_false hq] at hz
              have HRR := hide hz
              have hd : (run == (j : Int)) = false := by simpa using hq
              have HQ2 := hide hq
              clear hz hq
              clear H0 H1 H2
              go_wp2_with fail
              go_ret
              rw [HRR.out]
              exact ⟨rfl, HX.out⟩
          · rw [if_neg h4] at hz
            have h4i : ¬ (j : Int) < 4 := by omega
            have hd4 : decide ((j : Int) < 4) = false := decide_eq_false h4i
            by_cases hq : 4 ≤ run
            · rw [decide_eq_true hq] at hz
              have HRR := hide hz
              clear hz
              clear H0 H1 H2
              go_wp2_with fail
              go_ret
              rw [HRR.out]
              exact ⟨rfl, HX.out⟩
            · rw [decide_eq_false hq] at hz
              have HRR := hide hz
              have hd : decide (4 ≤ run) = false := decide_eq_false hq
              clear hz
              clear H0 H1 H2
              go_wp2_with fail
              go_ret
              rw [HRR.out]
              exact ⟨rfl, HX.out⟩
        · by_cases hx1 : x = 1
          · subst hx1
            have hz := H1.out rfl
            have hw2 : IntKind.i64.wrap (IntKind.i64.wrap ((j : Int) - 1) - (y : Int)) = (j : Int) - 1 - (y : Int) := by rw [IntWalk.i64_in ((j : Int) - 1) (by omega)]; exact IntWalk.i64_in _ (by omega)
            have hw3 : IntKind.i64.wrap ((j : Int) - 1) = (j : Int) - 1 := IntWalk.i64_in _ (by omega)
            have hw4 : IntKind.i64.wrap ((j : Int) - 1 - (y : Int)) = (j : Int) - 1 - (y : Int) := IntWalk.i64_in _ (by omega)
            by_cases hq : run = (j : Int) - 1 - (y : Int)
            · rw [decide_eq_true hq] at hz
              have HRR := hide hz
              have hd : (run == (j : Int) - 1 - (y : Int)) = true := by rw [hq]; exact beq_self_eq_true _
              have HQ2 := hide hq
              clear hz hq
              clear H0 H1 H2
              go_wp2_with fail
              go_ret
              rw [HRR.out]
              exact ⟨rfl, HX.out⟩
            · rw [decide_eq_false hq] at hz
              have HRR := hide hz
              have hd : (run == (j : Int) - 1 - (y : Int)) = false := by simpa using hq
              have HQ2 := hide hq
              clear hz hq
              clear H0 H1 H2
              go_wp2_with fail
              go_ret
              rw [HRR.out]
              exact ⟨rfl, HX.out⟩
          · have hz := H2.out (by omega)
            have HRR := hide hz
            have hd : ((x : Int) == 1) = false := by simp; omega
            have hx2 : 0 < x := by omega
            clear hz
            clear H0 H1 H2
            go_wp2_with fail
            go_ret
            rw [HRR.out]
            exact ⟨rfl, HX.out⟩
  · by_cases hz : N = 0
    · have hr : fitsI mode run l = true := by
        unfold fitsI
        rw [if_pos h0, hN]
        exact decide_eq_true hz
      rw [hr]
      clear hle
      subst hz
      clear hr H0 H1 H2
      have HN := hide hN
      clear hN
      have HB := allocs_below w [.cells #[.int .i64 mode, .int .i64 run, .slice A 0 c, .int .i64 rej] 34]
      have K_p : Blk (allocs w [.cells #[.int .i64 mode, .int .i64 run, .slice A 0 c, .int .i64 rej] 34]) (w.heap.size + 0) 34 #[.int .i64 mode, .int .i64 run, .slice A 0 c, .int .i64 rej] := allocs_at w [.cells #[.int .i64 mode, .int .i64 run, .slice A 0 c, .int .i64 rej] 34] 0 rfl
      unfold allocs at HB K_p
      simp only [List.foldl_cons, List.foldl_nil] at HB K_p
      rw [Nat.add_zero] at K_p
      go_enter Tryz.func54, Tryz.ntmps54
      go_upto_region 1 with (fail)
      generalize (w.alloc (.cells #[.int .i64 mode, .int .i64 run, .slice A 0 c, .int .i64 rej] 34)) = w0 at *
      replace K_p := hide K_p
      replace HB := hide HB
      have p0 := (Blk.cell K_p.out 0).trans (rfl : _ = some (Value.int .i64 mode))
      have p1 := (Blk.cell K_p.out 1).trans (rfl : _ = some (Value.int .i64 run))
      have p2 := (Blk.cell K_p.out 2).trans (rfl : _ = some (Value.slice A 0 c))
      have p3 := (Blk.cell K_p.out 3).trans (rfl : _ = some (Value.int .i64 rej))
      go_wp2_with fail
      go_ret
      exact ⟨rfl, HB.out⟩
    · have hr : fitsI mode run l = false := by
        unfold fitsI
        rw [if_pos h0, hN]
        exact decide_eq_false hz
      rw [hr]
      clear hle
      have hd : ((N : Int) == 0) = false := by simp; omega
      clear hr H0 H1 H2
      have HN := hide hN
      clear hN
      have HB := allocs_below w [.cells #[.int .i64 mode, .int .i64 run, .slice A N c, .int .i64 rej] 34]
      have K_p : Blk (allocs w [.cells #[.int .i64 mode, .int .i64 run, .slice A N c, .int .i64 rej] 34]) (w.heap.size + 0) 34 #[.int .i64 mode, .int .i64 run, .slice A N c, .int .i64 rej] := allocs_at w [.cells #[.int .i64 mode, .int .i64 run, .slice A N c, .int .i64 rej] 34] 0 rfl
      unfold allocs at HB K_p
      simp only [List.foldl_cons, List.foldl_nil] at HB K_p
      rw [Nat.add_zero] at K_p
      go_enter Tryz.func54, Tryz.ntmps54
      go_upto_region 1 with (fail)
      generalize (w.alloc (.cells #[.int .i64 mode, .int .i64 run, .slice A N c, .int .i64 rej] 34)) = w0 at *
      replace K_p := hide K_p
      replace HB := hide HB
      have p0 := (Blk.cell K_p.out 0).trans (rfl : _ = some (Value.int .i64 mode))
      have p1 := (Blk.cell K_p.out 1).trans (rfl : _ = some (Value.int .i64 run))
      have p2 := (Blk.cell K_p.out 2).trans (rfl : _ = some (Value.slice A N c))
      have p3 := (Blk.cell K_p.out 3).trans (rfl : _ = some (Value.int .i64 rej))
      go_wp2_with fail
      go_ret
      exact ⟨rfl, HB.out⟩
set_option maxRecDepth 100000 in
set_option maxHeartbeats 4000000 in
theorem rswright_any (w : World) (mode run rej : Int) (v : Value) (l : List Bool) (hv : SlL w v (bcl l)) (hl : l.length ≤ 1000000) :
    Calls Tryz.prog 23 #[.agg #[.int .i64 mode, .int .i64 run, v, .int .i64 rej]] w fun e w' => e = .returned (.int .i64 (rightI mode run l rej)) ∧ Below w.heap.size w w' := by
  have HV := hide hv
  obtain ⟨A, c, rfl, -⟩ := hv
  rw [bcl_len] at HV ⊢
  obtain ⟨N, hN⟩ : ∃ N, l.length = N := ⟨_, rfl⟩
  have HFI := hide (fun (W : World) (h : SlL W (.slice A N c) (bcl l)) (h4 : l.length ≤ 4) => rfits_any W mode run rej _ l h h4)
  have HLO := hide (fun W => rlongest_any W mode)
  rw [hN] at HV HFI hl ⊢
  have hre := rightI_eq mode run l rej
  rw [hN] at hre
  by_cases c1 : mode < 0
  · rw [if_pos (by omega)] at hre
    have HR := hide hre
    clear hre
    have HN := hide hN
    clear hN
    have HB := allocs_below w [.cells #[.int .i64 mode, .int .i64 run, .slice A N c, .int .i64 rej] 34]
    have K_p : Blk (allocs w [.cells #[.int .i64 mode, .int .i64 run, .slice A N c, .int .i64 rej] 34]) (w.heap.size + 0) 34 #[.int .i64 mode, .int .i64 run, .slice A N c, .int .i64 rej] := allocs_at w [.cells #[.int .i64 mode, .int .i64 run, .slice A N c, .int .i64 rej] 34] 0 rfl
    unfold allocs at HB K_p
    simp only [List.foldl_cons, List.foldl_nil] at HB K_p
    rw [Nat.add_zero] at K_p
    go_enter Tryz.func23, Tryz.ntmps23
    go_upto_region 1 with (fail)
    generalize (w.alloc (.cells #[.int .i64 mode, .int .i64 run, .slice A N c, .int .i64 rej] 34)) = w0 at *
    replace K_p := hide K_p
    replace HB := hide HB
    have p0 := (Blk.cell K_p.out 0).trans (rfl : _ = some (Value.int .i64 mode))
    have p1 := (Blk.cell K_p.out 1).trans (rfl : _ = some (Value.int .i64 run))
    have p2 := (Blk.cell K_p.out 2).trans (rfl : _ = some (Value.slice A N c))
    have p3 := (Blk.cell K_p.out 3).trans (rfl : _ = some (Value.int .i64 rej))
    go_wp2_with fail
    go_ret
    rw [HR.out]
    exact ⟨rfl, HB.out⟩
  · by_cases c2 : 3 < mode
    · rw [if_pos (by omega)] at hre
      have HR := hide hre
      clear hre
      have HN := hide hN
      clear hN
      have HB := allocs_below w [.cells #[.int .i64 mode, .int .i64 run, .slice A N c, .int .i64 rej] 34]
      have K_p : Blk (allocs w [.cells #[.int .i64 mode, .int .i64 run, .slice A N c, .int .i64 rej] 34]) (w.heap.size + 0) 34 #[.int .i64 mode, .int .i64 run, .slice A N c, .int .i64 rej] := allocs_at w [.cells #[.int .i64 mode, .int .i64 run, .slice A N c, .int .i64 rej] 34] 0 rfl
      unfold allocs at HB K_p
      simp only [List.foldl_cons, List.foldl_nil] at HB K_p
      rw [Nat.add_zero] at K_p
      go_enter Tryz.func23, Tryz.ntmps23
      go_upto_region 1 with (fail)
      generalize (w.alloc (.cells #[.int .i64 mode, .int .i64 run, .slice A N c, .int .i64 rej] 34)) = w0 at *
      replace K_p := hide K_p
      replace HB := hide HB
      have p0 := (Blk.cell K_p.out 0).trans (rfl : _ = some (Value.int .i64 mode))
      have p1 := (Blk.cell K_p.out 1).trans (rfl : _ = some (Value.int .i64 run))
      have p2 := (Blk.cell K_p.out 2).trans (rfl : _ = some (Value.slice A N c))
      have p3 := (Blk.cell K_p.out 3).trans (rfl : _ = some (Value.int .i64 rej))
      go_wp2_with fail
      go_ret
      rw [HR.out]
      exact ⟨rfl, HB.out⟩
    · obtain ⟨lg, hlg⟩ : ∃ z, longI mode = z := ⟨_, rfl⟩
      rw [hlg] at hre HLO
      have HLG := hide hlg
      clear hlg
      by_cases c3 : run < 0
      · rw [if_neg (by omega)] at hre
        rw [if_pos (by omega)] at hre
        have HR := hide hre
        clear hre
        have HN := hide hN
        clear hN
        have hmd : decide (mode < 0) = false := decide_eq_false (by omega)
        have hd1 : decide (run < 0) = true := decide_eq_true c3
        have HB := allocs_below w [.cells #[.int .i64 mode, .int .i64 run, .slice A N c, .int .i64 rej] 34]
        have K_p : Blk (allocs w [.cells #[.int .i64 mode, .int .i64 run, .slice A N c, .int .i64 rej] 34]) (w.heap.size + 0) 34 #[.int .i64 mode, .int .i64 run, .slice A N c, .int .i64 rej] := allocs_at w [.cells #[.int .i64 mode, .int .i64 run, .slice A N c, .int .i64 rej] 34] 0 rfl
        unfold allocs at HB K_p
        simp only [List.foldl_cons, List.foldl_nil] at HB K_p
        rw [Nat.add_zero] at K_p
        go_enter Tryz.func23, Tryz.ntmps23
        go_upto_region 1 with (fail)
        generalize (w.alloc (.cells #[.int .i64 mode, .int .i64 run, .slice A N c, .int .i64 rej] 34)) = w0 at *
        replace K_p := hide K_p
        replace HB := hide HB
        have p0 := (Blk.cell K_p.out 0).trans (rfl : _ = some (Value.int .i64 mode))
        have p1 := (Blk.cell K_p.out 1).trans (rfl : _ = some (Value.int .i64 run))
        have p2 := (Blk.cell K_p.out 2).trans (rfl : _ = some (Value.slice A N c))
        have p3 := (Blk.cell K_p.out 3).trans (rfl : _ = some (Value.int .i64 rej))
        go_upto_region 3 with (fail)
        go_quiet (fail)
        go_wp2_with fail
        go_ret
        rw [HR.out]
        exact ⟨rfl, below_drewN HB.out _⟩
      · by_cases c4 : lg ≤ run
        · rw [if_neg (by omega)] at hre
          rw [if_pos (by omega)] at hre
          have HR := hide hre
          clear hre
          have HN := hide hN
          clear hN
          have hmd : decide (mode < 0) = false := decide_eq_false (by omega)
          have hd1 : decide (run < 0) = false := decide_eq_false c3
          have hd2 : decide (lg ≤ run) = true := decide_eq_true c4
          have HB := allocs_below w [.cells #[.int .i64 mode, .int .i64 run, .slice A N c, .int .i64 rej] 34]
          have K_p : Blk (allocs w [.cells #[.int .i64 mode, .int .i64 run, .slice A N c, .int .i64 rej] 34]) (w.heap.size + 0) 34 #[.int .i64 mode, .int .i64 run, .slice A N c, .int .i64 rej] := allocs_at w [.cells #[.int .i64 mode, .int .i64 run, .slice A N c, .int .i64 rej] 34] 0 rfl
          unfold allocs at HB K_p
          simp only [List.foldl_cons, List.foldl_nil] at HB K_p
          rw [Nat.add_zero] at K_p
          go_enter Tryz.func23, Tryz.ntmps23
          go_upto_region 1 with (fail)
          generalize (w.alloc (.cells #[.int .i64 mode, .int .i64 run, .slice A N c, .int .i64 rej] 34)) = w0 at *
          replace K_p := hide K_p
          replace HB := hide HB
          have p0 := (Blk.cell K_p.out 0).trans (rfl : _ = some (Value.int .i64 mode))
          have p1 := (Blk.cell K_p.out 1).trans (rfl : _ = some (Value.int .i64 run))
          have p2 := (Blk.cell K_p.out 2).trans (rfl : _ = some (Value.slice A N c))
          have p3 := (Blk.cell K_p.out 3).trans (rfl : _ = some (Value.int .i64 rej))
          go_upto_region 3 with (fail)
          go_quiet ((go_at_call 53; exact Calls.quiet_of_same (HLO.out _)))
          go_wp2_with fail
          go_ret
          rw [HR.out]
          exact ⟨rfl, below_drewN HB.out _⟩
        · by_cases c5 : rej < 0
          · rw [if_neg (by omega)] at hre
            rw [if_neg (by omega)] at hre
            rw [if_pos (by unfold fourI; split <;> omega)] at hre
            have HR := hide hre
            clear hre
            have HN := hide hN
            clear hN
            have hmd : decide (mode < 0) = false := decide_eq_false (by omega)
            have hd1 : decide (run < 0) = false := decide_eq_false c3
            have hd2 : decide (lg ≤ run) = false := decide_eq_false c4
            have hd3 : decide (rej < 0) = true := decide_eq_true c5
            have HB := allocs_below w [.cells #[.int .i64 mode, .int .i64 run, .slice A N c, .int .i64 rej] 34]
            have K_p : Blk (allocs w [.cells #[.int .i64 mode, .int .i64 run, .slice A N c, .int .i64 rej] 34]) (w.heap.size + 0) 34 #[.int .i64 mode, .int .i64 run, .slice A N c, .int .i64 rej] := allocs_at w [.cells #[.int .i64 mode, .int .i64 run, .slice A N c, .int .i64 rej] 34] 0 rfl
            unfold allocs at HB K_p
            simp only [List.foldl_cons, List.foldl_nil] at HB K_p
            rw [Nat.add_zero] at K_p
            go_enter Tryz.func23, Tryz.ntmps23
            go_upto_region 1 with (fail)
            generalize (w.alloc (.cells #[.int .i64 mode, .int .i64 run, .slice A N c, .int .i64 rej] 34)) = w0 at *
            replace K_p := hide K_p
            replace HB := hide HB
            have p0 := (Blk.cell K_p.out 0).trans (rfl : _ = some (Value.int .i64 mode))
            have p1 := (Blk.cell K_p.out 1).trans (rfl : _ = some (Value.int .i64 run))
            have p2 := (Blk.cell K_p.out 2).trans (rfl : _ = some (Value.slice A N c))
            have p3 := (Blk.cell K_p.out 3).trans (rfl : _ = some (Value.int .i64 rej))
            go_upto_region 3 with (fail)
            go_quiet ((go_at_call 53; exact Calls.quiet_of_same (HLO.out _)))
            go_wp2_with fail
            go_ret
            rw [HR.out]
            exact ⟨rfl, below_drewN HB.out _⟩
          · by_cases c6 : 4 < rej
            · rw [if_neg (by omega)] at hre
              rw [if_neg (by omega)] at hre
              rw [if_pos (by unfold fourI; split <;> omega)] at hre
              have HR := hide hre
              clear hre
              have HN := hide hN
              clear hN
              have hmd : decide (mode < 0) = false := decide_eq_false (by omega)
              have hd1 : decide (run < 0) = false := decide_eq_false c3
              have hd2 : decide (lg ≤ run) = false := decide_eq_false c4
              have hd3 : decide (rej < 0) = false := decide_eq_false c5
              have hd4 : decide (4 < rej) = true := decide_eq_true c6
              have HB := allocs_below w [.cells #[.int .i64 mode, .int .i64 run, .slice A N c, .int .i64 rej] 34]
              have K_p : Blk (allocs w [.cells #[.int .i64 mode, .int .i64 run, .slice A N c, .int .i64 rej] 34]) (w.heap.size + 0) 34 #[.int .i64 mode, .int .i64 run, .slice A N c, .int .i64 rej] := allocs_at w [.cells #[.int .i64 mode, .int .i64 run, .slice A N c, .int .i64 rej] 34] 0 rfl
              unfold allocs at HB K_p
              simp only [List.foldl_cons, List.foldl_nil] at HB K_p
              rw [Nat.add_zero] at K_p
              go_enter Tryz.func23, Tryz.ntmps23
              go_upto_region 1 with (fail)
              generalize (w.alloc (.cells #[.int .i64 mode, .int .i64 run, .slice A N c, .int .i64 rej] 34)) = w0 at *
              replace K_p := hide K_p
              replace HB := hide HB
              have p0 := (Blk.cell K_p.out 0).trans (rfl : _ = some (Value.int .i64 mode))
              have p1 := (Blk.cell K_p.out 1).trans (rfl : _ = some (Value.int .i64 run))
              have p2 := (Blk.cell K_p.out 2).trans (rfl : _ = some (Value.slice A N c))
              have p3 := (Blk.cell K_p.out 3).trans (rfl : _ = some (Value.int .i64 rej))
              go_upto_region 3 with (fail)
              go_quiet ((go_at_call 53; exact Calls.quiet_of_same (HLO.out _)))
              go_wp2_with fail
              go_ret
              rw [HR.out]
              exact ⟨rfl, below_drewN HB.out _⟩
            · by_cases c7 : 0 < rej ∧ ¬ mode = 1
              · rw [if_neg (by omega)] at hre
                rw [if_neg (by omega)] at hre
                rw [if_pos (by unfold fourI; split <;> omega)] at hre
                have HR := hide hre
                clear hre
                have HN := hide hN
                clear hN
                have hmd : decide (mode < 0) = false := decide_eq_false (by omega)
                have hd1 : decide (run < 0) = false := decide_eq_false c3
                have hd2 : decide (lg ≤ run) = false := decide_eq_false c4
                have hd3 : decide (rej < 0) = false := decide_eq_false c5
                have hd4 : decide (4 < rej) = false := decide_eq_false c6
                obtain ⟨c7, hm1⟩ := c7
                have hd5 : decide (0 < rej) = true := decide_eq_true c7
                have hd6 : (mode == 1) = false := by simpa using hm1
                have HB := allocs_below w [.cells #[.int .i64 mode, .int .i64 run, .slice A N c, .int .i64 rej] 34]
                have K_p : Blk (allocs w [.cells #[.int .i64 mode, .int .i64 run, .slice A N c, .int .i64 rej] 34]) (w.heap.size + 0) 34 #[.int .i64 mode, .int .i64 run, .slice A N c, .int .i64 rej] := allocs_at w [.cells #[.int .i64 mode, .int .i64 run, .slice A N c, .int .i64 rej] 34] 0 rfl
                unfold allocs at HB K_p
                simp only [List.foldl_cons, List.foldl_nil] at HB K_p
                rw [Nat.add_zero] at K_p
                go_enter Tryz.func23, Tryz.ntmps23
                go_upto_region 1 with (fail)
                generalize (w.alloc (.cells #[.int .i64 mode, .int .i64 run, .slice A N c, .int .i64 rej] 34)) = w0 at *
                replace K_p := hide K_p
                replace HB := hide HB
                have p0 := (Blk.cell K_p.out 0).trans (rfl : _ = some (Value.int .i64 mode))
                have p1 := (Blk.cell K_p.out 1).trans (rfl : _ = some (Value.int .i64 run))
                have p2 := (Blk.cell K_p.out 2).trans (rfl : _ = some (Value.slice A N c))
                have p3 := (Blk.cell K_p.out 3).trans (rfl : _ = some (Value.int .i64 rej))
                go_upto_region 3 with (fail)
                go_quiet ((go_at_call 53; exact Calls.quiet_of_same (HLO.out _)))
                go_wp2_with fail
                go_ret
                rw [HR.out]
                exact ⟨rfl, below_drewN HB.out _⟩
              · by_cases hr0 : rej = 0
                · subst hr0
                  by_cases c8 : 4 < N
                  · rw [if_neg (by omega)] at hre
                    rw [if_neg (by omega)] at hre
                    rw [if_neg (by unfold fourI; split <;> omega)] at hre
                    rw [if_pos c8] at hre
                    have HR := hide hre
                    clear hre
                    have HN := hide hN
                    clear hN
                    have hmd : decide (mode < 0) = false := decide_eq_false (by omega)
                    have hd1 : decide (run < 0) = false := decide_eq_false c3
                    have hd2 : decide (lg ≤ run) = false := decide_eq_false c4
                    have hd7 : (4 : Int) < (N : Int) := by omega
                    have HB := allocs_below w [.cells #[.int .i64 mode, .int .i64 run, .slice A N c, .int .i64 0] 34]
                    have K_p : Blk (allocs w [.cells #[.int .i64 mode, .int .i64 run, .slice A N c, .int .i64 0] 34]) (w.heap.size + 0) 34 #[.int .i64 mode, .int .i64 run, .slice A N c, .int .i64 0] := allocs_at w [.cells #[.int .i64 mode, .int .i64 run, .slice A N c, .int .i64 0] 34] 0 rfl
                    unfold allocs at HB K_p
                    simp only [List.foldl_cons, List.foldl_nil] at HB K_p
                    rw [Nat.add_zero] at K_p
                    go_enter Tryz.func23, Tryz.ntmps23
                    go_upto_region 1 with (fail)
                    generalize (w.alloc (.cells #[.int .i64 mode, .int .i64 run, .slice A N c, .int .i64 0] 34)) = w0 at *
                    replace K_p := hide K_p
                    replace HB := hide HB
                    have p0 := (Blk.cell K_p.out 0).trans (rfl : _ = some (Value.int .i64 mode))
                    have p1 := (Blk.cell K_p.out 1).trans (rfl : _ = some (Value.int .i64 run))
                    have p2 := (Blk.cell K_p.out 2).trans (rfl : _ = some (Value.slice A N c))
                    have p3 := (Blk.cell K_p.out 3).trans (rfl : _ = some (Value.int .i64 0))
                    go_upto_region 3 with (fail)
                    go_quiet ((go_at_call 53; exact Calls.quiet_of_same (HLO.out _)))
                    go_wp2_with fail
                    go_ret
                    rw [HR.out]
                    exact ⟨rfl, below_drewN HB.out _⟩
                  · by_cases c9 : fitsI mode run l = false
                    · rw [if_neg (by omega)] at hre
                      rw [if_neg (by omega)] at hre
                      rw [if_neg (by unfold fourI; split <;> omega)] at hre
                      rw [if_neg c8] at hre
                      rw [if_pos c9] at hre
                      have HR := hide hre
                      clear hre
                      have HF2 := hide (fun W h => HFI.out W h (by omega))
                      rw [c9] at HF2
                      clear c9
                      have HN := hide hN
                      clear hN
                      have hmd : decide (mode < 0) = false := decide_eq_false (by omega)
                      have hd1 : decide (run < 0) = false := decide_eq_false c3
                      have hd2 : decide (lg ≤ run) = false := decide_eq_false c4
                      have hd7 : ¬ (4 : Int) < (N : Int) := by omega
                      have HB := allocs_below w [.cells #[.int .i64 mode, .int .i64 run, .slice A N c, .int .i64 0] 34]
                      have K_p : Blk (allocs w [.cells #[.int .i64 mode, .int .i64 run, .slice A N c, .int .i64 0] 34]) (w.heap.size + 0) 34 #[.int .i64 mode, .int .i64 run, .slice A N c, .int .i64 0] := allocs_at w [.cells #[.int .i64 mode, .int .i64 run, .slice A N c, .int .i64 0] 34] 0 rfl
                      unfold allocs at HB K_p
                      simp only [List.foldl_cons, List.foldl_nil] at HB K_p
                      rw [Nat.add_zero] at K_p
                      go_enter Tryz.func23, Tryz.ntmps23
                      go_upto_region 1 with (fail)
                      generalize (w.alloc (.cells #[.int .i64 mode, .int .i64 run, .slice A N c, .int .i64 0] 34)) = w0 at *
                      replace K_p := hide K_p
                      replace HB := hide HB
                      have p0 := (Blk.cell K_p.out 0).trans (rfl : _ = some (Value.int .i64 mode))
                      have p1 := (Blk.cell K_p.out 1).trans (rfl : _ = some (Value.int .i64 run))
                      have p2 := (Blk.cell K_p.out 2).trans (rfl : _ = some (Value.slice A N c))
                      have p3 := (Blk.cell K_p.out 3).trans (rfl : _ = some (Value.int .i64 0))
                      go_upto_region 3 with (fail)
                      go_quiet ((go_at_call 53; exact Calls.quiet_of_same (HLO.out _)))
                      go_wp2_with fail
                      refine (HF2.out _ (HV.out.below ?bel)).mono ?_
                      case bel => exact below_drewN HB.out _
                      rintro e w1 ⟨rfl, hb⟩
                      have HX := hide ((below_drewN HB.out _).trans (hb.mono HB.out.size))
                      clear hb
                      go_wp2_with fail
                      go_ret
                      rw [HR.out]
                      exact ⟨rfl, HX.out⟩
                    · rw [if_neg (by omega)] at hre
                      rw [if_neg (by omega)] at hre
                      rw [if_neg (by unfold fourI; split <;> omega)] at hre
                      rw [if_neg c8] at hre
                      rw [if_neg c9] at hre
                      have HR := hide hre
                      clear hre
                      have HF2 := hide (fun W h => HFI.out W h (by omega))
                      rw [show fitsI _ run l = true by simpa using c9] at HF2
                      clear c9
                      have HN := hide hN
                      clear hN
                      have hmd : decide (mode < 0) = false := decide_eq_false (by omega)
                      have hd1 : decide (run < 0) = false := decide_eq_false c3
                      have hd2 : decide (lg ≤ run) = false := decide_eq_false c4
                      have hd7 : ¬ (4 : Int) < (N : Int) := by omega
                      have HB := allocs_below w [.cells #[.int .i64 mode, .int .i64 run, .slice A N c, .int .i64 0] 34]
                      have K_p : Blk (allocs w [.cells #[.int .i64 mode, .int .i64 run, .slice A N c, .int .i64 0] 34]) (w.heap.size + 0) 34 #[.int .i64 mode, .int .i64 run, .slice A N c, .int .i64 0] := allocs_at w [.cells #[.int .i64 mode, .int .i64 run, .slice A N c, .int .i64 0] 34] 0 rfl
                      unfold allocs at HB K_p
                      simp only [List.foldl_cons, List.foldl_nil] at HB K_p
                      rw [Nat.add_zero] at K_p
                      go_enter Tryz.func23, Tryz.ntmps23
                      go_upto_region 1 with (fail)
                      generalize (w.alloc (.cells #[.int .i64 mode, .int .i64 run, .slice A N c, .int .i64 0] 34)) = w0 at *
                      replace K_p := hide K_p
                      replace HB := hide HB
                      have p0 := (Blk.cell K_p.out 0).trans (rfl : _ = some (Value.int .i64 mode))
                      have p1 := (Blk.cell K_p.out 1).trans (rfl : _ = some (Value.int .i64 run))
                      have p2 := (Blk.cell K_p.out 2).trans (rfl : _ = some (Value.slice A N c))
                      have p3 := (Blk.cell K_p.out 3).trans (rfl : _ = some (Value.int .i64 0))
                      go_upto_region 3 with (fail)
                      go_quiet ((go_at_call 53; exact Calls.quiet_of_same (HLO.out _)))
                      go_wp2_with fail
                      refine (HF2.out _ (HV.out.below ?bel)).mono ?_
                      case bel => exact below_drewN HB.out _
                      rintro e w1 ⟨rfl, hb⟩
                      have HX := hide ((below_drewN HB.out _).trans (hb.mono HB.out.size))
                      clear hb
                      go_wp2_with fail
                      go_ret
                      rw [HR.out]
                      exact ⟨rfl, HX.out⟩
                · obtain rfl : mode = 1 := by omega
                  by_cases c8 : 4 < N
                  · rw [if_neg (by omega)] at hre
                    rw [if_neg (by omega)] at hre
                    rw [if_neg (by unfold fourI; split <;> omega)] at hre
                    rw [if_pos c8] at hre
                    have HR := hide hre
                    clear hre
                    have HN := hide hN
                    clear hN
                    have hd1 : decide (run < 0) = false := decide_eq_false c3
                    have hd2 : decide (lg ≤ run) = false := decide_eq_false c4
                    have hd3 : decide (rej < 0) = false := decide_eq_false c5
                    have hd4 : decide (4 < rej) = false := decide_eq_false c6
                    have hrp : 0 < rej := by omega
                    have hd7 : (4 : Int) < (N : Int) := by omega
                    have HB := allocs_below w [.cells #[.int .i64 1, .int .i64 run, .slice A N c, .int .i64 rej] 34]
                    have K_p : Blk (allocs w [.cells #[.int .i64 1, .int .i64 run, .slice A N c, .int .i64 rej] 34]) (w.heap.size + 0) 34 #[.int .i64 1, .int .i64 run, .slice A N c, .int .i64 rej] := allocs_at w [.cells #[.int .i64 1, .int .i64 run, .slice A N c, .int .i64 rej] 34] 0 rfl
                    unfold allocs at HB K_p
                    simp only [List.foldl_cons, List.foldl_nil] at HB K_p
                    rw [Nat.add_zero] at K_p
                    go_enter Tryz.func23, Tryz.ntmps23
                    go_upto_region 1 with (fail)
                    generalize (w.alloc (.cells #[.int .i64 1, .int .i64 run, .slice A N c, .int .i64 rej] 34)) = w0 at *
                    replace K_p := hide K_p
                    replace HB := hide HB
                    have p0 := (Blk.cell K_p.out 0).trans (rfl : _ = some (Value.int .i64 1))
                    have p1 := (Blk.cell K_p.out 1).trans (rfl : _ = some (Value.int .i64 run))
                    have p2 := (Blk.cell K_p.out 2).trans (rfl : _ = some (Value.slice A N c))
                    have p3 := (Blk.cell K_p.out 3).trans (rfl : _ = some (Value.int .i64 rej))
                    go_upto_region 3 with (fail)
                    go_quiet ((go_at_call 53; exact Calls.quiet_of_same (HLO.out _)))
                    go_wp2_with fail
                    go_ret
                    rw [HR.out]
                    exact ⟨rfl, below_drewN HB.out _⟩
                  · by_cases c9 : fitsI 1 run l = false
                    · rw [if_neg (by omega)] at hre
                      rw [if_neg (by omega)] at hre
                      rw [if_neg (by unfold fourI; split <;> omega)] at hre
                      rw [if_neg c8] at hre
                      rw [if_pos c9] at hre
                      have HR := hide hre
                      clear hre
                      have HF2 := hide (fun W h => HFI.out W h (by omega))
                      rw [c9] at HF2
                      clear c9
                      have HN := hide hN
                      clear hN
                      have hd1 : decide (run < 0) = false := decide_eq_false c3
                      have hd2 : decide (lg ≤ run) = false := decide_eq_false c4
                      have hd3 : decide (rej < 0) = false := decide_eq_false c5
                      have hd4 : decide (4 < rej) = false := decide_eq_false c6
                      have hrp : 0 < rej := by omega
                      have hd7 : ¬ (4 : Int) < (N : Int) := by omega
                      have HB := allocs_below w [.cells #[.int .i64 1, .int .i64 run, .slice A N c, .int .i64 rej] 34]
                      have K_p : Blk (allocs w [.cells #[.int .i64 1, .int .i64 run, .slice A N c, .int .i64 rej] 34]) (w.heap.size + 0) 34 #[.int .i64 1, .int .i64 run, .slice A N c, .int .i64 rej] := allocs_at w [.cells #[.int .i64 1, .int .i64 run, .slice A N c, .int .i64 rej] 34] 0 rfl
                      unfold allocs at HB K_p
                      simp only [List.foldl_cons, List.foldl_nil] at HB K_p
                      rw [Nat.add_zero] at K_p
                      go_enter Tryz.func23, Tryz.ntmps23
                      go_upto_region 1 with (fail)
                      generalize (w.alloc (.cells #[.int .i64 1, .int .i64 run, .slice A N c, .int .i64 rej] 34)) = w0 at *
                      replace K_p := hide K_p
                      replace HB := hide HB
                      have p0 := (Blk.cell K_p.out 0).trans (rfl : _ = some (Value.int .i64 1))
                      have p1 := (Blk.cell K_p.out 1).trans (rfl : _ = some (Value.int .i64 run))
                      have p2 := (Blk.cell K_p.out 2).trans (rfl : _ = some (Value.slice A N c))
                      have p3 := (Blk.cell K_p.out 3).trans (rfl : _ = some (Value.int .i64 rej))
                      go_upto_region 3 with (fail)
                      go_quiet ((go_at_call 53; exact Calls.quiet_of_same (HLO.out _)))
                      go_wp2_with fail
                      refine (HF2.out _ (HV.out.below ?bel)).mono ?_
                      case bel => exact below_drewN HB.out _
                      rintro e w1 ⟨rfl, hb⟩
                      have HX := hide ((below_drewN HB.out _).trans (hb.mono HB.out.size))
                      clear hb
                      go_wp2_with fail
                      go_ret
                      rw [HR.out]
                      exact ⟨rfl, HX.out⟩
                    · rw [if_neg (by omega)] at hre
                      rw [if_neg (by omega)] at hre
                      rw [if_neg (by unfold fourI; split <;> omega)] at hre
                      rw [if_neg c8] at hre
                      rw [if_neg c9] at hre
                      have HR := hide hre
                      clear hre
                      have HF2 := hide (fun W h => HFI.out W h (by omega))
                      rw [show fitsI _ run l = true by simpa using c9] at HF2
                      clear c9
                      have HN := hide hN
                      clear hN
                      have hd1 : decide (run < 0) = false := decide_eq_false c3
                      have hd2 : decide (lg ≤ run) = false := decide_eq_false c4
                      have hd3 : decide (rej < 0) = false := decide_eq_false c5
                      have hd4 : decide (4 < rej) = false := decide_eq_false c6
                      have hrp : 0 < rej := by omega
                      have hd7 : ¬ (4 : Int) < (N : Int) := by omega
                      have HB := allocs_below w [.cells #[.int .i64 1, .int .i64 run, .slice A N c, .int .i64 rej] 34]
                      have K_p : Blk (allocs w [.cells #[.int .i64 1, .int .i64 run, .slice A N c, .int .i64 rej] 34]) (w.heap.size + 0) 34 #[.int .i64 1, .int .i64 run, .slice A N c, .int .i64 rej] := allocs_at w [.cells #[.int .i64 1, .int .i64 run, .slice A N c, .int .i64 rej] 34] 0 rfl
                      unfold allocs at HB K_p
                      simp only [List.foldl_cons, List.foldl_nil] at HB K_p
                      rw [Nat.add_zero] at K_p
                      go_enter Tryz.func23, Tryz.ntmps23
                      go_upto_region 1 with (fail)
                      generalize (w.alloc (.cells #[.int .i64 1, .int .i64 run, .slice A N c, .int .i64 rej] 34)) = w0 at *
                      replace K_p := hide K_p
                      replace HB := hide HB
                      have p0 := (Blk.cell K_p.out 0).trans (rfl : _ = some (Value.int .i64 1))
                      have p1 := (Blk.cell K_p.out 1).trans (rfl : _ = some (Value.int .i64 run))
                      have p2 := (Blk.cell K_p.out 2).trans (rfl : _ = some (Value.slice A N c))
                      have p3 := (Blk.cell K_p.out 3).trans (rfl : _ = some (Value.int .i64 rej))
                      go_upto_region 3 with (fail)
                      go_quiet ((go_at_call 53; exact Calls.quiet_of_same (HLO.out _)))
                      go_wp2_with fail
                      refine (HF2.out _ (HV.out.below ?bel)).mono ?_
                      case bel => exact below_drewN HB.out _
                      rintro e w1 ⟨rfl, hb⟩
                      have HX := hide ((below_drewN HB.out _).trans (hb.mono HB.out.size))
                      clear hb
                      go_wp2_with fail
                      go_ret
                      rw [HR.out]
                      exact ⟨rfl, HX.out⟩
end Go.Proofs.YthmmgjieppknkaaGreatDoor

namespace Go.Proofs.YthmmgjieppknkaaGreatDoor
open Go.RowKit MLab
set_option maxRecDepth 100000 in
set_option maxHeartbeats 2000000 in
theorem rswrst_bad (w : World) (mode run rej z : Int) (v : Value) (l : List Bool) (hv : SlL w v (bcl l)) (hl : l.length ≤ 1000000) (hz : z ≠ 0) (h : rstE mode run l rej = z) :
    Calls Tryz.prog 17 #[.agg #[.int .i64 mode, .int .i64 run, v, .int .i64 rej]] w fun e w' => e = .returned (.tuple #[.agg #[.int .i64 0, .int .i64 0, .slice none 0 0, .int .i64 0], .int .i64 z]) ∧ Below w.heap.size w w' := by
  have HV := hide hv
  have HR := hide (fun (W : World) (h : SlL W v (bcl l)) => rswright_any W mode run rej v l h hl)
  unfold rstE at h
  by_cases h1 : rightI mode run l rej ≠ 0
  · rw [if_pos h1] at h
    rw [h] at HR
    have hzi : (z == 0) = false := by simpa using hz
    have HZ := hide hz
    clear hz
    clear h h1
    have HB := allocs_below w [.cells #[.int .i64 mode, .int .i64 run, v, .int .i64 rej] 34, .cells #[.int .i64 0, .int .i64 0, .slice none 0 0, .int .i64 0] 34]
    have K_x : Blk (allocs w [.cells #[.int .i64 mode, .int .i64 run, v, .int .i64 rej] 34, .cells #[.int .i64 0, .int .i64 0, .slice none 0 0, .int .i64 0] 34]) (w.heap.size + 0) 34 #[.int .i64 mode, .int .i64 run, v, .int .i64 rej] := allocs_at w [.cells #[.int .i64 mode, .int .i64 run, v, .int .i64 rej] 34, .cells #[.int .i64 0, .int .i64 0, .slice none 0 0, .int .i64 0] 34] 0 rfl
    have K_r : Blk (allocs w [.cells #[.int .i64 mode, .int .i64 run, v, .int .i64 rej] 34, .cells #[.int .i64 0, .int .i64 0, .slice none 0 0, .int .i64 0] 34]) (w.heap.size + 1) 34 #[.int .i64 0, .int .i64 0, .slice none 0 0, .int .i64 0] := allocs_at w [.cells #[.int .i64 mode, .int .i64 run, v, .int .i64 rej] 34, .cells #[.int .i64 0, .int .i64 0, .slice none 0 0, .int .i64 0] 34] 1 rfl
    unfold allocs at HB K_x K_r
    simp only [List.foldl_cons, List.foldl_nil] at HB K_x K_r
    rw [Nat.add_zero] at K_x
    go_enter Tryz.func17, Tryz.ntmps17
    go_upto_region 1 with (fail)
    generalize ((w.alloc (.cells #[.int .i64 mode, .int .i64 run, v, .int .i64 rej] 34)).alloc (.cells #[.int .i64 0, .int .i64 0, .slice none 0 0, .int .i64 0] 34)) = w0 at *
    replace K_x := hide K_x
    replace K_r := hide K_r
    replace HB := hide HB
    have x0 := (Blk.cell K_x.out 0).trans (rfl : _ = some (Value.int .i64 mode))
    have x1 := (Blk.cell K_x.out 1).trans (rfl : _ = some (Value.int .i64 run))
    have x2 := (Blk.cell K_x.out 2).trans (rfl : _ = some (v))
    have x3 := (Blk.cell K_x.out 3).trans (rfl : _ = some (Value.int .i64 rej))
    go_wp2_with fail
    refine (HR.out _ (HV.out.below HB.out)).mono ?_
    rintro e w1 ⟨rfl, hb⟩
    clear x0 x1 x2 x3
    replace K_x := hide (Blk.below K_x.out hb (Blk.lt K_x.out))
    replace K_r := hide (Blk.below K_r.out hb (Blk.lt K_r.out))
    replace HB := hide (HB.out.trans (hb.mono HB.out.size))
    clear hb
    have r0 := (Blk.cell K_r.out 0).trans (rfl : _ = some (Value.int .i64 0))
    have rf0 := Blk.frozen K_r.out 0
    have r1 := (Blk.cell K_r.out 1).trans (rfl : _ = some (Value.int .i64 0))
    have rf1 := Blk.frozen K_r.out 1
    have r2 := (Blk.cell K_r.out 2).trans (rfl : _ = some (Value.slice none 0 0))
    have rf2 := Blk.frozen K_r.out 2
    have r3 := (Blk.cell K_r.out 3).trans (rfl : _ = some (Value.int .i64 0))
    have rf3 := Blk.frozen K_r.out 3
    go_wp2_with fail
    have rc0 := (Blk.cell ((((K_r.out.set_ 0 (.int .i64 0)).set_ 1 (.int .i64 0)).set_ 2 (.slice none 0 0)).set_ 3 (.int .i64 0)) 0).trans (rfl : _ = some (Value.int .i64 0))
    have rc1 := (Blk.cell ((((K_r.out.set_ 0 (.int .i64 0)).set_ 1 (.int .i64 0)).set_ 2 (.slice none 0 0)).set_ 3 (.int .i64 0)) 1).trans (rfl : _ = some (Value.int .i64 0))
    have rc2 := (Blk.cell ((((K_r.out.set_ 0 (.int .i64 0)).set_ 1 (.int .i64 0)).set_ 2 (.slice none 0 0)).set_ 3 (.int .i64 0)) 2).trans (rfl : _ = some (Value.slice none 0 0))
    have rc3 := (Blk.cell ((((K_r.out.set_ 0 (.int .i64 0)).set_ 1 (.int .i64 0)).set_ 2 (.slice none 0 0)).set_ 3 (.int .i64 0)) 3).trans (rfl : _ = some (Value.int .i64 0))
    exact bodyPost_ret (v := .tuple #[.agg #[.int .i64 0, .int .i64 0, .slice none 0 0, .int .i64 0], .int .i64 z]) (by simp [results, Tryz.results17, go_sem, rc0, rc1, rc2, rc3]) rfl ⟨rfl, ((((HB.out.setCell (p := ⟨(w.heap.size + 1), 0, none⟩) (by show w.heap.size ≤ (w.heap.size + 1); omega) (.int .i64 0)).setCell (p := ⟨(w.heap.size + 1), 1, none⟩) (by show w.heap.size ≤ (w.heap.size + 1); omega) (.int .i64 0)).setCell (p := ⟨(w.heap.size + 1), 2, none⟩) (by show w.heap.size ≤ (w.heap.size + 1); omega) (.slice none 0 0)).setCell (p := ⟨(w.heap.size + 1), 3, none⟩) (by show w.heap.size ≤ (w.heap.size + 1); omega) (.int .i64 0))⟩
  · by_cases h2 : mode ≠ 3
    · rw [if_neg h1] at h
      rw [if_pos h2] at h
      rw [Classical.not_not.1 h1] at HR
      subst h
      have hm3 : (mode == 3) = false := by simpa using h2
      clear h1
      have HB := allocs_below w [.cells #[.int .i64 mode, .int .i64 run, v, .int .i64 rej] 34, .cells #[.int .i64 0, .int .i64 0, .slice none 0 0, .int .i64 0] 34]
      have K_x : Blk (allocs w [.cells #[.int .i64 mode, .int .i64 run, v, .int .i64 rej] 34, .cells #[.int .i64 0, .int .i64 0, .slice none 0 0, .int .i64 0] 34]) (w.heap.size + 0) 34 #[.int .i64 mode, .int .i64 run, v, .int .i64 rej] := allocs_at w [.cells #[.int .i64 mode, .int .i64 run, v, .int .i64 rej] 34, .cells #[.int .i64 0, .int .i64 0, .slice none 0 0, .int .i64 0] 34] 0 rfl
      have K_r : Blk (allocs w [.cells #[.int .i64 mode, .int .i64 run, v, .int .i64 rej] 34, .cells #[.int .i64 0, .int .i64 0, .slice none 0 0, .int .i64 0] 34]) (w.heap.size + 1) 34 #[.int .i64 0, .int .i64 0, .slice none 0 0, .int .i64 0] := allocs_at w [.cells #[.int .i64 mode, .int .i64 run, v, .int .i64 rej] 34, .cells #[.int .i64 0, .int .i64 0, .slice none 0 0, .int .i64 0] 34] 1 rfl
      unfold allocs at HB K_x K_r
      simp only [List.foldl_cons, List.foldl_nil] at HB K_x K_r
      rw [Nat.add_zero] at K_x
      go_enter Tryz.func17, Tryz.ntmps17
      go_upto_region 1 with (fail)
      generalize ((w.alloc (.cells #[.int .i64 mode, .int .i64 run, v, .int .i64 rej] 34)).alloc (.cells #[.int .i64 0, .int .i64 0, .slice none 0 0, .int .i64 0] 34)) = w0 at *
      replace K_x := hide K_x
      replace K_r := hide K_r
      replace HB := hide HB
      have x0 := (Blk.cell K_x.out 0).trans (rfl : _ = some (Value.int .i64 mode))
      have x1 := (Blk.cell K_x.out 1).trans (rfl : _ = some (Value.int .i64 run))
      have x2 := (Blk.cell K_x.out 2).trans (rfl : _ = some (v))
      have x3 := (Blk.cell K_x.out 3).trans (rfl : _ = some (Value.int .i64 rej))
      go_wp2_with fail
      refine (HR.out _ (HV.out.below HB.out)).mono ?_
      rintro e w1 ⟨rfl, hb⟩
      clear x0 x1 x2 x3
      replace K_x := hide (Blk.below K_x.out hb (Blk.lt K_x.out))
      replace K_r := hide (Blk.below K_r.out hb (Blk.lt K_r.out))
      replace HB := hide (HB.out.trans (hb.mono HB.out.size))
      clear hb
      have x0 := (Blk.cell K_x.out 0).trans (rfl : _ = some (Value.int .i64 mode))
      have x1 := (Blk.cell K_x.out 1).trans (rfl : _ = some (Value.int .i64 run))
      have x2 := (Blk.cell K_x.out 2).trans (rfl : _ = some (v))
      have x3 := (Blk.cell K_x.out 3).trans (rfl : _ = some (Value.int .i64 rej))
      have r0 := (Blk.cell K_r.out 0).trans (rfl : _ = some (Value.int .i64 0))
      have rf0 := Blk.frozen K_r.out 0
      have r1 := (Blk.cell K_r.out 1).trans (rfl : _ = some (Value.int .i64 0))
      have rf1 := Blk.frozen K_r.out 1
      have r2 := (Blk.cell K_r.out 2).trans (rfl : _ = some (Value.slice none 0 0))
      have rf2 := Blk.frozen K_r.out 2
      have r3 := (Blk.cell K_r.out 3).trans (rfl : _ = some (Value.int .i64 0))
      have rf3 := Blk.frozen K_r.out 3
      go_wp2_with fail
      have rc0 := (Blk.cell ((((K_r.out.set_ 0 (.int .i64 0)).set_ 1 (.int .i64 0)).set_ 2 (.slice none 0 0)).set_ 3 (.int .i64 0)) 0).trans (rfl : _ = some (Value.int .i64 0))
      have rc1 := (Blk.cell ((((K_r.out.set_ 0 (.int .i64 0)).set_ 1 (.int .i64 0)).set_ 2 (.slice none 0 0)).set_ 3 (.int .i64 0)) 1).trans (rfl : _ = some (Value.int .i64 0))
      have rc2 := (Blk.cell ((((K_r.out.set_ 0 (.int .i64 0)).set_ 1 (.int .i64 0)).set_ 2 (.slice none 0 0)).set_ 3 (.int .i64 0)) 2).trans (rfl : _ = some (Value.slice none 0 0))
      have rc3 := (Blk.cell ((((K_r.out.set_ 0 (.int .i64 0)).set_ 1 (.int .i64 0)).set_ 2 (.slice none 0 0)).set_ 3 (.int .i64 0)) 3).trans (rfl : _ = some (Value.int .i64 0))
      exact bodyPost_ret (v := .tuple #[.agg #[.int .i64 0, .int .i64 0, .slice none 0 0, .int .i64 0], .int .i64 14]) (by simp [results, Tryz.results17, go_sem, rc0, rc1, rc2, rc3]) rfl ⟨rfl, ((((HB.out.setCell (p := ⟨(w.heap.size + 1), 0, none⟩) (by show w.heap.size ≤ (w.heap.size + 1); omega) (.int .i64 0)).setCell (p := ⟨(w.heap.size + 1), 1, none⟩) (by show w.heap.size ≤ (w.heap.size + 1); omega) (.int .i64 0)).setCell (p := ⟨(w.heap.size + 1), 2, none⟩) (by show w.heap.size ≤ (w.heap.size + 1); omega) (.slice none 0 0)).setCell (p := ⟨(w.heap.size + 1), 3, none⟩) (by show w.heap.size ≤ (w.heap.size + 1); omega) (.int .i64 0))⟩
    · rw [if_neg h1, if_neg h2] at h; exact absurd h.symm hz
set_option maxRecDepth 100000 in
set_option maxHeartbeats 2000000 in
theorem rswrst_ok (w : World) (run rej : Int) (v : Value) (l : List Bool) (hv : SlL w v (bcl l)) (hl : l.length ≤ 1000000) (h : rightI 3 run l rej = 0) :
    Calls Tryz.prog 17 #[.agg #[.int .i64 3, .int .i64 run, v, .int .i64 rej]] w fun e w' => e = .returned (.tuple #[.agg #[.int .i64 1, .int .i64 0, .slice none 0 0, .int .i64 0], .int .i64 0]) ∧ Below w.heap.size w w' := by
  have HV := hide hv
  have HR := hide (fun (W : World) (h : SlL W v (bcl l)) => rswright_any W 3 run rej v l h hl)
  rw [h] at HR
  clear h
  have HB := allocs_below w [.cells #[.int .i64 3, .int .i64 run, v, .int .i64 rej] 34, .cells #[.int .i64 0, .int .i64 0, .slice none 0 0, .int .i64 0] 34]
  have K_x : Blk (allocs w [.cells #[.int .i64 3, .int .i64 run, v, .int .i64 rej] 34, .cells #[.int .i64 0, .int .i64 0, .slice none 0 0, .int .i64 0] 34]) (w.heap.size + 0) 34 #[.int .i64 3, .int .i64 run, v, .int .i64 rej] := allocs_at w [.cells #[.int .i64 3, .int .i64 run, v, .int .i64 rej] 34, .cells #[.int .i64 0, .int .i64 0, .slice none 0 0, .int .i64 0] 34] 0 rfl
  have K_r : Blk (allocs w [.cells #[.int .i64 3, .int .i64 run, v, .int .i64 rej] 34, .cells #[.int .i64 0, .int .i64 0, .slice none 0 0, .int .i64 0] 34]) (w.heap.size + 1) 34 #[.int .i64 0, .int .i64 0, .slice none 0 0, .int .i64 0] := allocs_at w [.cells #[.int .i64 3, .int .i64 run, v, .int .i64 rej] 34, .cells #[.int .i64 0, .int .i64 0, .slice none 0 0, .int .i64 0] 34] 1 rfl
  unfold allocs at HB K_x K_r
  simp only [List.foldl_cons, List.foldl_nil] at HB K_x K_r
  rw [Nat.add_zero] at K_x
  go_enter Tryz.func17, Tryz.ntmps17
  go_upto_region 1 with (fail)
  generalize ((w.alloc (.cells #[.int .i64 3, .int .i64 run, v, .int .i64 rej] 34)).alloc (.cells #[.int .i64 0, .int .i64 0, .slice none 0 0, .int .i64 0] 34)) = w0 at *
  replace K_x := hide K_x
  replace K_r := hide K_r
  replace HB := hide HB
  have x0 := (Blk.cell K_x.out 0).trans (rfl : _ = some (Value.int .i64 3))
  have x1 := (Blk.cell K_x.out 1).trans (rfl : _ = some (Value.int .i64 run))
  have x2 := (Blk.cell K_x.out 2).trans (rfl : _ = some (v))
  have x3 := (Blk.cell K_x.out 3).trans (rfl : _ = some (Value.int .i64 rej))
  go_wp2_with fail
  refine (HR.out _ (HV.out.below HB.out)).mono ?_
  rintro e w1 ⟨rfl, hb⟩
  clear x0 x1 x2 x3
  replace K_x := hide (Blk.below K_x.out hb (Blk.lt K_x.out))
  replace K_r := hide (Blk.below K_r.out hb (Blk.lt K_r.out))
  replace HB := hide (HB.out.trans (hb.mono HB.out.size))
  clear hb
  have x0 := (Blk.cell K_x.out 0).trans (rfl : _ = some (Value.int .i64 3))
  have x1 := (Blk.cell K_x.out 1).trans (rfl : _ = some (Value.int .i64 run))
  have x2 := (Blk.cell K_x.out 2).trans (rfl : _ = some (v))
  have x3 := (Blk.cell K_x.out 3).trans (rfl : _ = some (Value.int .i64 rej))
  have r0 := (Blk.cell K_r.out 0).trans (rfl : _ = some (Value.int .i64 0))
  have rf0 := Blk.frozen K_r.out 0
  have r1 := (Blk.cell K_r.out 1).trans (rfl : _ = some (Value.int .i64 0))
  have rf1 := Blk.frozen K_r.out 1
  have r2 := (Blk.cell K_r.out 2).trans (rfl : _ = some (Value.slice none 0 0))
  have rf2 := Blk.frozen K_r.out 2
  have r3 := (Blk.cell K_r.out 3).trans (rfl : _ = some (Value.int .i64 0))
  have rf3 := Blk.frozen K_r.out 3
  go_wp2_with fail
  have rc0 := (Blk.cell ((((K_r.out.set_ 0 (.int .i64 1)).set_ 1 (.int .i64 0)).set_ 2 (.slice none 0 0)).set_ 3 (.int .i64 0)) 0).trans (rfl : _ = some (Value.int .i64 1))
  have rc1 := (Blk.cell ((((K_r.out.set_ 0 (.int .i64 1)).set_ 1 (.int .i64 0)).set_ 2 (.slice none 0 0)).set_ 3 (.int .i64 0)) 1).trans (rfl : _ = some (Value.int .i64 0))
  have rc2 := (Blk.cell ((((K_r.out.set_ 0 (.int .i64 1)).set_ 1 (.int .i64 0)).set_ 2 (.slice none 0 0)).set_ 3 (.int .i64 0)) 2).trans (rfl : _ = some (Value.slice none 0 0))
  have rc3 := (Blk.cell ((((K_r.out.set_ 0 (.int .i64 1)).set_ 1 (.int .i64 0)).set_ 2 (.slice none 0 0)).set_ 3 (.int .i64 0)) 3).trans (rfl : _ = some (Value.int .i64 0))
  exact bodyPost_ret (v := .tuple #[.agg #[.int .i64 1, .int .i64 0, .slice none 0 0, .int .i64 0], .int .i64 0]) (by simp [results, Tryz.results17, go_sem, rc0, rc1, rc2, rc3]) rfl ⟨rfl, ((((HB.out.setCell (p := ⟨(w.heap.size + 1), 0, none⟩) (by show w.heap.size ≤ (w.heap.size + 1); omega) (.int .i64 1)).setCell (p := ⟨(w.heap.size + 1), 1, none⟩) (by show w.heap.size ≤ (w.heap.size + 1); omega) (.int .i64 0)).setCell (p := ⟨(w.heap.size + 1), 2, none⟩) (by show w.heap.size ≤ (w.heap.size + 1); omega) (.slice none 0 0)).setCell (p := ⟨(w.heap.size + 1), 3, none⟩) (by show w.heap.size ≤ (w.heap.size + 1); omega) (.int .i64 0))⟩
end Go.Proofs.YthmmgjieppknkaaGreatDoor
