/- Contracts and plain laws that the statements of this seat share (part Erac). -/
import Derived.Test.YthmmgjieppknkaaGreatDoorEraa
import Derived.Test.YthmmgjieppknkaaGreatDoorErab
import Derived.Test.YthmmgjieppknkaaGreatDoorKaa
import Derived.Test.YthmmgjieppknkaaGreatDoorKab
import Derived.Test.YthmmgjieppknkaaGreatDoorKac
import Derived.Test.YthmmgjieppknkaaGreatDoorKad
import Derived.Test.YthmmgjieppknkaaGreatDoorKag
import Derived.Test.YthmmgjieppknkaaGreatDoorKai
import Derived.Test.YthmmgjieppknkaaGreatDoorKak
import Derived.Test.YthmmgjieppknkaaGreatDoorKal
import Derived.Test.YthmmgjieppknkaaGreatDoorKam
import Derived.Test.YthmmgjieppknkaaGreatDoorKas
import Derived.Test.YthmmgjieppknkaaGreatDoorKat
import Derived.Test.YthmmgjieppknkaaGreatDoorKau
import Derived.Test.YthmmgjieppknkaaGreatDoorKax
import Derived.Deep.QuietTactic
import Derived.BigQuiet
namespace Go.Proofs.YthmmgjieppknkaaGreatDoor
open Go.RowKit MLab
set_option maxRecDepth 100000 in
set_option maxHeartbeats 2000000 in
theorem rswck_any (w : World) (S : Nat → Int × Int) :
    Calls Tryz.prog 20 #[schV S] w fun e w' => e = .returned (.int .i64 (ckS S)) ∧ Below w.heap.size w w' := by
  have HBJ := hide (fun j (hj : j < 3) h => ckS_bad (S := S) (j := j) hj h)
  have HOK := hide (fun h => ckS_ok (S := S) h)
  show Calls Tryz.prog 20 #[.agg #[.int .i64 (S 0).1, .int .i64 (S 0).2, .int .i64 (S 1).1, .int .i64 (S 1).2, .int .i64 (S 2).1, .int .i64 (S 2).2]] w _
  have HB := allocs_below w [.cells #[.int .i64 (S 0).1, .int .i64 (S 0).2, .int .i64 (S 1).1, .int .i64 (S 1).2, .int .i64 (S 2).1, .int .i64 (S 2).2] 43]
  have K_p : Blk (allocs w [.cells #[.int .i64 (S 0).1, .int .i64 (S 0).2, .int .i64 (S 1).1, .int .i64 (S 1).2, .int .i64 (S 2).1, .int .i64 (S 2).2] 43]) (w.heap.size + 0) 43 #[.int .i64 (S 0).1, .int .i64 (S 0).2, .int .i64 (S 1).1, .int .i64 (S 1).2, .int .i64 (S 2).1, .int .i64 (S 2).2] := allocs_at w [.cells #[.int .i64 (S 0).1, .int .i64 (S 0).2, .int .i64 (S 1).1, .int .i64 (S 1).2, .int .i64 (S 2).1, .int .i64 (S 2).2] 43] 0 rfl
  unfold allocs at HB K_p
  simp only [List.foldl_cons, List.foldl_nil] at HB K_p
  rw [Nat.add_zero] at K_p
  go_enter Tryz.func20, Tryz.ntmps20
  go_upto_region 1 with (fail)
  generalize (w.alloc (.cells #[.int .i64 (S 0).1, .int .i64 (S 0).2, .int .i64 (S 1).1, .int .i64 (S 1).2, .int .i64 (S 2).1, .int .i64 (S 2).2] 43)) = w0 at *
  replace K_p := hide K_p
  replace HB := hide HB
  have hat : ∀ j, j < 3 → w0.cell? ⟨w.heap.size, j * 2, none⟩ = some (.int .i64 (S j).1) ∧ w0.cell? ⟨w.heap.size, j * 2 + 1, none⟩ = some (.int .i64 (S j).2) := fun j hj => by
    rcases (by omega : j = 0 ∨ j = 1 ∨ j = 2) with rfl | rfl | rfl
    · exact ⟨(Blk.cell K_p.out 0).trans rfl, (Blk.cell K_p.out 1).trans rfl⟩
    · exact ⟨(Blk.cell K_p.out 2).trans rfl, (Blk.cell K_p.out 3).trans rfl⟩
    · exact ⟨(Blk.cell K_p.out 4).trans rfl, (Blk.cell K_p.out 5).trans rfl⟩
  have HAT := hide hat
  clear hat
  go_wp2_with fail
  go_loopg [3] 3 (fun z iv wr => ∃ j : Nat, iv = .int .i64 (j : Int) ∧ z + j = 3 ∧ Below w0.heap.size w0 wr ∧ ∀ i, i < j → 1 ≤ (S i).1 ∧ (S i).1 ≤ 1048576 ∧ 0 ≤ (S i).2 ∧ (S i).2 < (S i).1)
  case atStart => exact ⟨0, rfl, rfl, Below.refl _ _, fun i hi => absurd hi (by omega)⟩
  case round =>
    obtain ⟨j, rfl, hq, hb, hr⟩ := hrel
    have HQ := hide hq
    have HBL := hide hb
    have HR := hide hr
    have hj : j ≤ 3 := by omega
    have HX := hide (HB.out.trans (hb.mono HB.out.size))
    clear hq hb hr
    by_cases hlt : j < 3
    · have hji : (j : Int) < 3 := by omega
      have hj0 : (0 : Int) ≤ (j : Int) := by omega
      have HBAD := hide (fun h => HBJ.out j hlt h)
      obtain ⟨x1, x2⟩ := HAT.out j hlt
      obtain ⟨p, hp⟩ : ∃ p, S j = p := ⟨_, rfl⟩
      obtain ⟨s, a⟩ := p
      rw [hp] at x1 x2 HBAD
      simp only at x1 x2
      have HSJ := hide hp
      clear hp
      have hbs := HBL.out.size
      have hbx := HX.out.size
      have y1 := (bcell HBL.out _ _ (block_lt_of_cell x1)).trans x1
      have y2 := (bcell HBL.out _ _ (block_lt_of_cell x2)).trans x2
      clear x1 x2
      by_cases c1 : s < 1
      · have hz := HBAD.out (by omega)
        have HZ := hide hz
        clear hz
        go_wp2_with fail
        go_ret
        rw [HZ.out]
        exact ⟨rfl, HX.out.alloc hbx _⟩
      · by_cases c2 : 1048576 < s
        · have hz := HBAD.out (by omega)
          have HZ := hide hz
          clear hz
          go_wp2_with fail
          go_ret
          rw [HZ.out]
          exact ⟨rfl, HX.out.alloc hbx _⟩
        · by_cases c3 : a < 0
          · have hz := HBAD.out (by omega)
            have HZ := hide hz
            clear hz
            go_wp2_with fail
            go_ret
            rw [HZ.out]
            exact ⟨rfl, HX.out.alloc hbx _⟩
          · by_cases c4 : s ≤ a
            · have hz := HBAD.out (by omega)
              have HZ := hide hz
              clear hz
              go_wp2_with fail
              go_ret
              rw [HZ.out]
              exact ⟨rfl, HX.out.alloc hbx _⟩
            · go_wp2_with fail
              go_roundg (gk - 1)
              case measure => have := HQ.out; omega
              case rel => exact ⟨j + 1, by go_num, by have := HQ.out; omega, HBL.out.alloc hbs _, fun i hi => by
  rcases (by omega : i < j ∨ i = j) with h | h
  · exact HR.out i h
  · subst h; rw [HSJ.out]; exact ⟨by show 1 ≤ s; omega, by show s ≤ 1048576; omega, by show 0 ≤ a; omega, by show a < s; omega⟩⟩
    · have hji : ¬ (j : Int) < 3 := by omega
      have h3 : j = 3 := by omega
      subst h3
      go_wp2_with fail
      go_ret
      rw [HOK.out HR.out]
      exact ⟨rfl, HX.out⟩
end Go.Proofs.YthmmgjieppknkaaGreatDoor

namespace Go.Proofs.YthmmgjieppknkaaGreatDoor
open Go.RowKit MLab
def scanB (l : List Bool) : Nat → Nat × Nat
  | 0 => (0, 0)
  | j + 1 => if l[j]? = some false then ((scanB l j).1 + 1, j) else scanB l j
theorem scanB_le (l : List Bool) : ∀ j, (scanB l j).1 ≤ j
  | 0 => Nat.le_refl _
  | j + 1 => by
    rw [scanB]
    have := scanB_le l j
    split
    · show (scanB l j).1 + 1 ≤ j + 1; omega
    · omega
theorem scanB_at (l : List Bool) : ∀ j, (scanB l j).2 ≤ j
  | 0 => Nat.le_refl _
  | j + 1 => by
    rw [scanB]
    have := scanB_at l j
    split
    · show j ≤ j + 1; omega
    · omega
set_option maxRecDepth 100000 in
theorem scan_all : ∀ l ∈ allB, ((scanB l l.length).1 = 0 → firstF l = none) ∧ ((scanB l l.length).1 = 1 → firstF l = some (scanB l l.length).2 ∧ (l.drop ((scanB l l.length).2 + 1)).contains false = false) ∧
    (2 ≤ (scanB l l.length).1 → (match firstF l with | some k => (l.drop (k + 1)).contains false | none => false) = true) := by decide
theorem fits_zero {l : List Bool} (hl : l.length ≤ 4) (h : (scanB l l.length).1 = 0) (run : Int) : fitsI 0 run l = if l.length < 4 then decide (run = (l.length : Int)) else decide (4 ≤ run) := by
  unfold fitsI
  rw [if_neg (by simp), (scan_all l (mem_allB hl)).1 h]
theorem fits_one {l : List Bool} (hl : l.length ≤ 4) (h : (scanB l l.length).1 = 1) (run : Int) : fitsI 0 run l = decide (run = (l.length : Int) - 1 - ((scanB l l.length).2 : Int)) := by
  obtain ⟨h1, h2⟩ := (scan_all l (mem_allB hl)).2.1 h
  unfold fitsI
  rw [if_neg (by simp), h1]
  simp only [h2]
  rfl
theorem fits_two {l : List Bool} (hl : l.length ≤ 4) (h : 2 ≤ (scanB l l.length).1) (run : Int) : fitsI 0 run l = false := by
  have h1 := (scan_all l (mem_allB hl)).2.2 h
  unfold fitsI
  rw [if_neg (by simp)]
  cases hf : firstF l with
  | none => rw [hf] at h1; cases h1
  | some k =>
    rw [hf] at h1
    simp only at h1 ⊢
    rw [h1]; rfl
set_option maxRecDepth 100000 in
set_option maxHeartbeats 1000000 in
theorem rlongest_any (w : World) (mode : Int) :
    Calls Tryz.prog 53 #[.int .i64 mode] w fun e w' => e = .returned (.int .i64 (longI mode)) ∧ w' = w := by
  by_cases c1 : mode = 0
  · subst c1
    have hr : longI 0 = 10 := rfl
    rw [hr]
    clear hr
    go_enter Tryz.func53, Tryz.ntmps53
    go_wp2_with fail
    go_ret
    exact ⟨rfl, rfl⟩
  · by_cases c2 : mode = 1
    · subst c2
      have hr : longI 1 = 5 := rfl
      rw [hr]
      clear hr
      go_enter Tryz.func53, Tryz.ntmps53
      go_wp2_with fail
      go_ret
      exact ⟨rfl, rfl⟩
    · have h1 : (mode == 0) = false := by simpa using c1
      have h2 : (mode == 1) = false := by simpa using c2
      have hr : longI mode = 1 := by unfold longI; rw [if_neg c1, if_neg c2]
      rw [hr]
      clear hr
      go_enter Tryz.func53, Tryz.ntmps53
      go_wp2_with fail
      go_ret
      exact ⟨rfl, rfl⟩
set_option maxRecDepth 100000 in
set_option maxHeartbeats 4000000 in
theorem rfits_any (w : World) (mode run rej : Int) (v : Value) (l : List Bool) (hv : SlL w v (bcl l)) (hl : l.length ≤ 4) :
    Calls Tryz.prog 54 #[.agg #[.int .i64 mode, .int .i64 run, v, .int .i64 rej]] w fun e w' => e = .returned (.bool (fitsI mode run l)) ∧ Below w.heap.size w w' := by
  have HV := hide hv
  obtain ⟨A, c, rfl, -, hc⟩ := hv
  have HC := hide hc
  clear hc
  rw [bcl_len] at HV HC ⊢
  have H0 := hide (fun h => fits_zero hl h run)
  have H1 := hide (fun h => fits_one hl h run)
  have H2 := hide (fun h => fits_two hl h run)
  have hle := scanB_at l
  obtain ⟨N, hN⟩ : ∃ N, l.length = N := ⟨_, rfl⟩
  rw [hN] at HV HC hl H0 H1 H2 ⊢
  by_cases h0 : mode = 0
  · subst h0
    have HN := hide hN
    have HLE := hide hle
    clear hN hle
    have HB := allocs_below w [.cells #[.int .i64 0, .int .i64 run, .slice A N c, .int .i64 rej] 34]
    have K_p : Blk (allocs w [.cells #[.int .i64 0, .int .i64 run, .slice A N c, .int .i64 rej] 34]) (w.heap.size + 0) 34 #[.int .i64 0, .int .i64 run, .slice A N c, .int .i64 rej] := allocs_at w [.cells #[.int .i64 0, .int .i64 run, .slice A N c, .int .i64 rej] 34] 0 rfl
    unfold allocs at HB K_p
    simp only [List.foldl_cons, List.foldl_nil] at HB K_p
    rw [Nat.add_zero] at K_p
    go_enter Tryz.func54, Tryz.ntmps54
    go_upto_region 1 with (fail)
    generalize (w.alloc (.cells #[.int .i64 0, .int .i64 run, .slice A N c, .int .i64 rej] 34)) = w0 at *
    replace K_p := hide K_p
    replace HB := hide HB
    have p0 := (Blk.cell K_p.out 0).trans (rfl : _ = some (Value.int .i64 0))
    have p1 := (Blk.cell K_p.out 1).trans (rfl : _ = some (Value.int .i64 run))
    have p2 := (Blk.cell K_p.out 2).trans (rfl : _ = some (Value.slice A N c))
    have p3 := (Blk.cell K_p.out 3).trans (rfl : _ = some (Value.int .i64 rej))
    go_wp2_with fail
    go_loopg [4, 5, 6] N (fun z bv av iv wr => ∃ j : Nat, iv = .int .i64 (j : Int) ∧ z + j = N ∧ bv = .int .i64 ((scanB l j).1 : Int) ∧ av = .int .i64 ((scanB l j).2 : Int) ∧ Below w0.heap.size w0 wr)
    case atStart => exact ⟨0, rfl, rfl, rfl, rfl, Below.refl _ _⟩
    case round =>
      obtain ⟨j, rfl, hq, rfl, rfl, hb⟩ := hrel
      have HQ := hide hq
      have HBL := hide hb
      have hj : j ≤ N := by omega
      have HX := hide (HB.out.trans (hb.mono HB.out.size))
      have q1 := (bcell hb _ _ (block_lt_of_cell p1)).trans p1
      have q2 := (bcell hb _ _ (block_lt_of_cell p2)).trans p2
      clear hq hb p0 p1 p2 p3
      by_cases hlt : j < N
      · have hji : (j : Int) < (N : Int) := by omega
        have hj0 : (0 : Int) ≤ (j : Int) := by omega
        obtain ⟨g, og, rfl, hcell⟩ := HC.out (by omega)
        obtain ⟨b, hx⟩ : ∃ b, l[j]? = some b := ⟨_, List.getElem?_eq_getElem (by rw [HN.out]; exact hlt)⟩
        have a := hcell j _ (bcl_at hx)
        have a2 := (bcell HX.out _ _ (block_lt_of_cell a)).trans a
        have hsl := scanB_le l j
        have hs1 : scanB l (j + 1) = if l[j]? = some false then ((scanB l j).1 + 1, j) else scanB l j := rfl
        rw [hx] at hs1
        have HS1 := hide hs1
        clear a hcell hx HC hs1
        obtain ⟨x, hxx⟩ : ∃ x, (scanB l j).1 = x := ⟨_, rfl⟩
        obtain ⟨y, hyy⟩ : ∃ y, (scanB l j).2 = y := ⟨_, rfl⟩
        rw [hxx] at HS1 hsl ⊢
        rw [hyy]
        have hwx : IntKind.i64.wrap ((x : Int) + 1) = ((x + 1 : Nat) : Int) := (IntWalk.i64_in _ (by omega)).trans (by omega)
        have HXX := hide hxx
        have HYY := hide hyy
        clear hxx hyy
        cases b with
        | false =>
          go_wp2_with fail
          go_roundg (gk - 1)
          case measure => have := HQ.out; omega
          case rel => exact ⟨j + 1, by go_num, by have := HQ.out; omega, by rw [HS1.out]; simp, by rw [HS1.out]; simp, HBL.out⟩
        | true =>
          go_wp2_with fail
          go_roundg (gk - 1)
          case measure => have := HQ.out; omega
          case rel => exact ⟨j + 1, by go_num, by have := HQ.out; omega, by rw [HS1.out, if_neg (by simp), HXX.out], by rw [HS1.out, if_neg (by simp), HYY.out], HBL.out⟩
      · have hji : ¬ (j : Int) < (N : Int) := by omega
        have hjN : j = N := by omega
        subst hjN
        have hbl := scanB_le l j
        have hal := HLE.out j
        obtain ⟨x, hxx⟩ : ∃ x, (scanB l j).1 = x := ⟨_, rfl⟩
        obtain ⟨y, hyy⟩ : ∃ y, (scanB l j).2 = y := ⟨_, rfl⟩
        rw [hxx] at H0 H1 H2 hbl ⊢
        rw [hyy] at H1 hal ⊢
        have HXX := hide hxx
        have HYY := hide hyy
        clear hxx hyy
        by_cases hx0 : x = 0
        · subst hx0
          have hz := H0.out rfl
          by_cases h4 : j < 4
          · rw [if_pos h4] at hz
            have h4i : (j : Int) < 4 := by omega
            by_cases hq : run = (j : Int)
            · rw [decide_eq_true hq] at hz
              have HRR := hide hz
              have hd : (run == (j : Int)) = true := by rw [hq]; exact beq_self_eq_true _
              have HQ2 := hide hq
              clear hz hq
              clear H0 H1 H2
              go_wp2_with fail
              go_ret
              rw [HRR.out]
              exact ⟨rfl, HX.out⟩
            · rw [decide_eq_false hq] at hz
              have HRR := hide hz
              have hd : (run == (j : Int)) = false := by simpa using hq
              have HQ2 := hide hq
              clear hz hq
              clear H0 H1 H2
              go_wp2_with fail
              go_ret
              rw [HRR.out]
              exact ⟨rfl, HX.out⟩
          · rw [if_neg h4] at hz
            have h4i : ¬ (j : Int) < 4 := by omega
            have hd4 : decide ((j : Int) < 4) = false := decide_eq_false h4i
            by_cases hq : 4 ≤ run
            · rw [decide_eq_true hq] at hz
              have HRR := hide hz
              clear hz
              clear H0 H1 H2
              go_wp2_with fail
              go_ret
              rw [HRR.out]
              exact ⟨rfl, HX.out⟩
            · rw [decide_eq_false hq] at hz
              have HRR := hide hz
              have hd : decide (4 ≤ run) = false := decide_eq_false hq
              clear hz
              clear H0 H1 H2
              go_wp2_with fail
              go_ret
              rw [HRR.out]
              exact ⟨rfl, HX.out⟩
        · by_cases hx1 : x = 1
          · subst hx1
            have hz := H1.out rfl
            have hw2 : IntKind.i64.wrap (IntKind.i64.wrap ((j : Int) - 1) - (y : Int)) = (j : Int) - 1 - (y : Int) := by rw [IntWalk.i64_in ((j : Int) - 1) (by omega)]; exact IntWalk.i64_in _ (by omega)
            have hw3 : IntKind.i64.wrap ((j : Int) - 1) = (j : Int) - 1 := IntWalk.i64_in _ (by omega)
            have hw4 : IntKind.i64.wrap ((j : Int) - 1 - (y : Int)) = (j : Int) - 1 - (y : Int) := IntWalk.i64_in _ (by omega)
            by_cases hq : run = (j : Int) - 1 - (y : Int)
            · rw [decide_eq_true hq] at hz
              have HRR := hide hz
              have hd : (run == (j : Int) - 1 - (y : Int)) = true := by rw [hq]; exact beq_self_eq_true _
              have HQ2 := hide hq
              clear hz hq
              clear H0 H1 H2
              go_wp2_with fail
              go_ret
              rw [HRR.out]
              exact ⟨rfl, HX.out⟩
            · rw [decide_eq_false hq] at hz
              have HRR := hide hz
              have hd : (run == (j : Int) - 1 - (y : Int)) = false := by simpa using hq
              have HQ2 := hide hq
              clear hz hq
              clear H0 H1 H2
              go_wp2_with fail
              go_ret
              rw [HRR.out]
              exact ⟨rfl, HX.out⟩
          · have hz := H2.out (by omega)
            have HRR := hide hz
            have hd : ((x : Int) == 1) = false := by simp; omega
            have hx2 : 0 < x := by omega
            clear hz
            clear H0 H1 H2
            go_wp2_with fail
            go_ret
            rw [HRR.out]
            exact ⟨rfl, HX.out⟩
  · by_cases hz : N = 0
    · have hr : fitsI mode run l = true := by
        unfold fitsI
        rw [if_pos h0, hN]
        exact decide_eq_true hz
      rw [hr]
      clear hle
      subst hz
      clear hr H0 H1 H2
      have HN := hide hN
      clear hN
      have HB := allocs_below w [.cells #[.int .i64 mode, .int .i64 run, .slice A 0 c, .int .i64 rej] 34]
      have K_p : Blk (allocs w [.cells #[.int .i64 mode, .int .i64 run, .slice A 0 c, .int .i64 rej] 34]) (w.heap.size + 0) 34 #[.int .i64 mode, .int .i64 run, .slice A 0 c, .int .i64 rej] := allocs_at w [.cells #[.int .i64 mode, .int .i64 run, .slice A 0 c, .int .i64 rej] 34] 0 rfl
      unfold allocs at HB K_p
      simp only [List.foldl_cons, List.foldl_nil] at HB K_p
      rw [Nat.add_zero] at K_p
      go_enter Tryz.func54, Tryz.ntmps54
      go_upto_region 1 with (fail)
      generalize (w.alloc (.cells #[.int .i64 mode, .int .i64 run, .slice A 0 c, .int .i64 rej] 34)) = w0 at *
      replace K_p := hide K_p
      replace HB := hide HB
      have p0 := (Blk.cell K_p.out 0).trans (rfl : _ = some (Value.int .i64 mode))
      have p1 := (Blk.cell K_p.out 1).trans (rfl : _ = some (Value.int .i64 run))
      have p2 := (Blk.cell K_p.out 2).trans (rfl : _ = some (Value.slice A 0 c))
      have p3 := (Blk.cell K_p.out 3).trans (rfl : _ = some (Value.int .i64 rej))
      go_wp2_with fail
      go_ret
      exact ⟨rfl, HB.out⟩
    · have hr : fitsI mode run l = false := by
        unfold fitsI
        rw [if_pos h0, hN]
        exact decide_eq_false hz
      rw [hr]
      clear hle
      have hd : ((N : Int) == 0) = false := by simp; omega
      clear hr H0 H1 H2
      have HN := hide hN
      clear hN
      have HB := allocs_below w [.cells #[.int .i64 mode, .int .i64 run, .slice A N c, .int .i64 rej] 34]
      have K_p : Blk (allocs w [.cells #[.int .i64 mode, .int .i64 run, .slice A N c, .int .i64 rej] 34]) (w.heap.size + 0) 34 #[.int .i64 mode, .int .i64 run, .slice A N c, .int .i64 rej] := allocs_at w [.cells #[.int .i64 mode, .int .i64 run, .slice A N c, .int .i64 rej] 34] 0 rfl
      unfold allocs at HB K_p
      simp only [List.foldl_cons, List.foldl_nil] at HB K_p
      rw [Nat.add_zero] at K_p
      go_enter Tryz.func54, Tryz.ntmps54
      go_upto_region 1 with (fail)
      generalize (w.alloc (.cells #[.int .i64 mode, .int .i64 run, .slice A N c, .int .i64 rej] 34)) = w0 at *
      replace K_p := hide K_p
      replace HB := hide HB
      have p0 := (Blk.cell K_p.out 0).trans (rfl : _ = some (Value.int .i64 mode))
      have p1 := (Blk.cell K_p.out 1).trans (rfl : _ = some (Value.int .i64 run))
      have p2 := (Blk.cell K_p.out 2).trans (rfl : _ = some (Value.slice A N c))
      have p3 := (Blk.cell K_p.out 3).trans (rfl : _ = some (Value.int .i64 rej))
      go_wp2_with fail
      go_ret
      exact ⟨rfl, HB.out⟩
set_option maxRecDepth 100000 in
set_option maxHeartbeats 4000000 in
theorem rswright_any (w : World) (mode run rej : Int) (v : Value) (l : List Bool) (hv : SlL w v (bcl l)) (hl : l.length ≤ 1000000) :
    Calls Tryz.prog 23 #[.agg #[.int .i64 mode, .int .i64 run, v, .int .i64 rej]] w fun e w' => e = .returned (.int .i64 (rightI mode run l rej)) ∧ Below w.heap.size w w' := by
  have HV := hide hv
  obtain ⟨A, c, rfl, -⟩ := hv
  rw [bcl_len] at HV ⊢
  obtain ⟨N, hN⟩ : ∃ N, l.length = N := ⟨_, rfl⟩
  have HFI := hide (fun (W : World) (h : SlL W (.slice A N c) (bcl l)) (h4 : l.length ≤ 4) => rfits_any W mode run rej _ l h h4)
  have HLO := hide (fun W => rlongest_any W mode)
  rw [hN] at HV HFI hl ⊢
  have hre := rightI_eq mode run l rej
  rw [hN] at hre
  by_cases c1 : mode < 0
  · rw [if_pos (by omega)] at hre
    have HR := hide hre
    clear hre
    have HN := hide hN
    clear hN
    have HB := allocs_below w [.cells #[.int .i64 mode, .int .i64 run, .slice A N c, .int .i64 rej] 34]
    have K_p : Blk (allocs w [.cells #[.int .i64 mode, .int .i64 run, .slice A N c, .int .i64 rej] 34]) (w.heap.size + 0) 34 #[.int .i64 mode, .int .i64 run, .slice A N c, .int .i64 rej] := allocs_at w [.cells #[.int .i64 mode, .int .i64 run, .slice A N c, .int .i64 rej] 34] 0 rfl
    unfold allocs at HB K_p
    simp only [List.foldl_cons, List.foldl_nil] at HB K_p
    rw [Nat.add_zero] at K_p
    go_enter Tryz.func23, Tryz.ntmps23
    go_upto_region 1 with (fail)
    generalize (w.alloc (.cells #[.int .i64 mode, .int .i64 run, .slice A N c, .int .i64 rej] 34)) = w0 at *
    replace K_p := hide K_p
    replace HB := hide HB
    have p0 := (Blk.cell K_p.out 0).trans (rfl : _ = some (Value.int .i64 mode))
    have p1 := (Blk.cell K_p.out 1).trans (rfl : _ = some (Value.int .i64 run))
    have p2 := (Blk.cell K_p.out 2).trans (rfl : _ = some (Value.slice A N c))
    have p3 := (Blk.cell K_p.out 3).trans (rfl : _ = some (Value.int .i64 rej))
    go_wp2_with fail
    go_ret
    rw [HR.out]
    exact ⟨rfl, HB.out⟩
  · by_cases c2 : 3 < mode
    · rw [if_pos (by omega)] at hre
      have HR := hide hre
      clear hre
      have HN := hide hN
      clear hN
      have HB := allocs_below w [.cells #[.int .i64 mode, .int .i64 run, .slice A N c, .int .i64 rej] 34]
      have K_p : Blk (allocs w [.cells #[.int .i64 mode, .int .i64 run, .slice A N c, .int .i64 rej] 34]) (w.heap.size + 0) 34 #[.int .i64 mode, .int .i64 run, .slice A N c, .int .i64 rej] := allocs_at w [.cells #[.int .i64 mode, .int .i64 run, .slice A N c, .int .i64 rej] 34] 0 rfl
      unfold allocs at HB K_p
      simp only [List.foldl_cons, List.foldl_nil] at HB K_p
      rw [Nat.add_zero] at K_p
      go_enter Tryz.func23, Tryz.ntmps23
      go_upto_region 1 with (fail)
      generalize (w.alloc (.cells #[.int .i64 mode, .int .i64 run, .slice A N c, .int .i64 rej] 34)) = w0 at *
      replace K_p := hide K_p
      replace HB := hide HB
      have p0 := (Blk.cell K_p.out 0).trans (rfl : _ = some (Value.int .i64 mode))
      have p1 := (Blk.cell K_p.out 1).trans (rfl : _ = some (Value.int .i64 run))
      have p2 := (Blk.cell K_p.out 2).trans (rfl : _ = some (Value.slice A N c))
      have p3 := (Blk.cell K_p.out 3).trans (rfl : _ = some (Value.int .i64 rej))
      go_wp2_with fail
      go_ret
      rw [HR.out]
      exact ⟨rfl, HB.out⟩
    · obtain ⟨lg, hlg⟩ : ∃ z, longI mode = z := ⟨_, rfl⟩
      rw [hlg] at hre HLO
      have HLG := hide hlg
      clear hlg
      by_cases c3 : run < 0
      · rw [if_neg (by omega)] at hre
        rw [if_pos (by omega)] at hre
        have HR := hide hre
        clear hre
        have HN := hide hN
        clear hN
        have hmd : decide (mode < 0) = false := decide_eq_false (by omega)
        have hd1 : decide (run < 0) = true := decide_eq_true c3
        have HB := allocs_below w [.cells #[.int .i64 mode, .int .i64 run, .slice A N c, .int .i64 rej] 34]
        have K_p : Blk (allocs w [.cells #[.int .i64 mode, .int .i64 run, .slice A N c, .int .i64 rej] 34]) (w.heap.size + 0) 34 #[.int .i64 mode, .int .i64 run, .slice A N c, .int .i64 rej] := allocs_at w [.cells #[.int .i64 mode, .int .i64 run, .slice A N c, .int .i64 rej] 34] 0 rfl
        unfold allocs at HB K_p
        simp only [List.foldl_cons, List.foldl_nil] at HB K_p
        rw [Nat.add_zero] at K_p
        go_enter Tryz.func23, Tryz.ntmps23
        go_upto_region 1 with (fail)
        generalize (w.alloc (.cells #[.int .i64 mode, .int .i64 run, .slice A N c, .int .i64 rej] 34)) = w0 at *
        replace K_p := hide K_p
        replace HB := hide HB
        have p0 := (Blk.cell K_p.out 0).trans (rfl : _ = some (Value.int .i64 mode))
        have p1 := (Blk.cell K_p.out 1).trans (rfl : _ = some (Value.int .i64 run))
        have p2 := (Blk.cell K_p.out 2).trans (rfl : _ = some (Value.slice A N c))
        have p3 := (Blk.cell K_p.out 3).trans (rfl : _ = some (Value.int .i64 rej))
        go_upto_region 3 with (fail)
        go_quiet (fail)
        go_wp2_with fail
        go_ret
        rw [HR.out]
        exact ⟨rfl, below_drewN HB.out _⟩
      · by_cases c4 : lg ≤ run
        · rw [if_neg (by omega)] at hre
          rw [if_pos (by omega)] at hre
          have HR := hide hre
          clear hre
          have HN := hide hN
          clear hN
          have hmd : decide (mode < 0) = false := decide_eq_false (by omega)
          have hd1 : decide (run < 0) = false := decide_eq_false c3
          have hd2 : decide (lg ≤ run) = true := decide_eq_true c4
          have HB := allocs_below w [.cells #[.int .i64 mode, .int .i64 run, .slice A N c, .int .i64 rej] 34]
          have K_p : Blk (allocs w [.cells #[.int .i64 mode, .int .i64 run, .slice A N c, .int .i64 rej] 34]) (w.heap.size + 0) 34 #[.int .i64 mode, .int .i64 run, .slice A N c, .int .i64 rej] := allocs_at w [.cells #[.int .i64 mode, .int .i64 run, .slice A N c, .int .i64 rej] 34] 0 rfl
          unfold allocs at HB K_p
          simp only [List.foldl_cons, List.foldl_nil] at HB K_p
          rw [Nat.add_zero] at K_p
          go_enter Tryz.func23, Tryz.ntmps23
          go_upto_region 1 with (fail)
          generalize (w.alloc (.cells #[.int .i64 mode, .int .i64 run, .slice A N c, .int .i64 rej] 34)) = w0 at *
          replace K_p := hide K_p
          replace HB := hide HB
          have p0 := (Blk.cell K_p.out 0).trans (rfl : _ = some (Value.int .i64 mode))
          have p1 := (Blk.cell K_p.out 1).trans (rfl : _ = some (Value.int .i64 run))
          have p2 := (Blk.cell K_p.out 2).trans (rfl : _ = some (Value.slice A N c))
          have p3 := (Blk.cell K_p.out 3).trans (rfl : _ = some (Value.int .i64 rej))
          go_upto_region 3 with (fail)
          go_quiet ((go_at_call 53; exact Calls.quiet_of_same (HLO.out _)))
          go_wp2_with fail
          go_ret
          rw [HR.out]
          exact ⟨rfl, below_drewN HB.out _⟩
        · by_cases c5 : rej < 0
          · rw [if_neg (by omega)] at hre
            rw [if_neg (by omega)] at hre
            rw [if_pos (by unfold fourI; split <;> omega)] at hre
            have HR := hide hre
            clear hre
            have HN := hide hN
            clear hN
            have hmd : decide (mode < 0) = false := decide_eq_false (by omega)
            have hd1 : decide (run < 0) = false := decide_eq_false c3
            have hd2 : decide (lg ≤ run) = false := decide_eq_false c4
            have hd3 : decide (rej < 0) = true := decide_eq_true c5
            have HB := allocs_below w [.cells #[.int .i64 mode, .int .i64 run, .slice A N c, .int .i64 rej] 34]
            have K_p : Blk (allocs w [.cells #[.int .i64 mode, .int .i64 run, .slice A N c, .int .i64 rej] 34]) (w.heap.size + 0) 34 #[.int .i64 mode, .int .i64 run, .slice A N c, .int .i64 rej] := allocs_at w [.cells #[.int .i64 mode, .int .i64 run, .slice A N c, .int .i64 rej] 34] 0 rfl
            unfold allocs at HB K_p
            simp only [List.foldl_cons, List.foldl_nil] at HB K_p
            rw [Nat.add_zero] at K_p
            go_enter Tryz.func23, Tryz.ntmps23
            go_upto_region 1 with (fail)
            generalize (w.alloc (.cells #[.int .i64 mode, .int .i64 run, .slice A N c, .int .i64 rej] 34)) = w0 at *
            replace K_p := hide K_p
            replace HB := hide HB
            have p0 := (Blk.cell K_p.out 0).trans (rfl : _ = some (Value.int .i64 mode))
            have p1 := (Blk.cell K_p.out 1).trans (rfl : _ = some (Value.int .i64 run))
            have p2 := (Blk.cell K_p.out 2).trans (rfl : _ = some (Value.slice A N c))
            have p3 := (Blk.cell K_p.out 3).trans (rfl : _ = some (Value.int .i64 rej))
            go_upto_region 3 with (fail)
            go_quiet ((go_at_call 53; exact Calls.quiet_of_same (HLO.out _)))
            go_wp2_with fail
            go_ret
            rw [HR.out]
            exact ⟨rfl, below_drewN HB.out _⟩
          · by_cases c6 : 4 < rej
            · rw [if_neg (by omega)] at hre
              rw [if_neg (by omega)] at hre
              rw [if_pos (by unfold fourI; split <;> omega)] at hre
              have HR := hide hre
              clear hre
              have HN := hide hN
              clear hN
              have hmd : decide (mode < 0) = false := decide_eq_false (by omega)
              have hd1 : decide (run < 0) = false := decide_eq_false c3
              have hd2 : decide (lg ≤ run) = false := decide_eq_false c4
              have hd3 : decide (rej < 0) = false := decide_eq_false c5
              have hd4 : decide (4 < rej) = true := decide_eq_true c6
              have HB := allocs_below w [.cells #[.int .i64 mode, .int .i64 run, .slice A N c, .int .i64 rej] 34]
              have K_p : Blk (allocs w [.cells #[.int .i64 mode, .int .i64 run, .slice A N c, .int .i64 rej] 34]) (w.heap.size + 0) 34 #[.int .i64 mode, .int .i64 run, .slice A N c, .int .i64 rej] := allocs_at w [.cells #[.int .i64 mode, .int .i64 run, .slice A N c, .int .i64 rej] 34] 0 rfl
              unfold allocs at HB K_p
              simp only [List.foldl_cons, List.foldl_nil] at HB K_p
              rw [Nat.add_zero] at K_p
              go_enter Tryz.func23, Tryz.ntmps23
              go_upto_region 1 with (fail)
              generalize (w.alloc (.cells #[.int .i64 mode, .int .i64 run, .slice A N c, .int .i64 rej] 34)) = w0 at *
              replace K_p := hide K_p
              replace HB := hide HB
              have p0 := (Blk.cell K_p.out 0).trans (rfl : _ = some (Value.int .i64 mode))
              have p1 := (Blk.cell K_p.out 1).trans (rfl : _ = some (Value.int .i64 run))
              have p2 := (Blk.cell K_p.out 2).trans (rfl : _ = some (Value.slice A N c))
              have p3 := (Blk.cell K_p.out 3).trans (rfl : _ = some (Value.int .i64 rej))
              go_upto_region 3 with (fail)
              go_quiet ((go_at_call 53; exact Calls.quiet_of_same (HLO.out _)))
              go_wp2_with fail
              go_ret
              rw [HR.out]
              exact ⟨rfl, below_drewN HB.out _⟩
            · by_cases c7 : 0 < rej ∧ ¬ mode = 1
              · rw [if_neg (by omega)] at hre
                rw [if_neg (by omega)] at hre
                rw [if_pos (by unfold fourI; split <;> omega)] at hre
                have HR := hide hre
                clear hre
                have HN := hide hN
                clear hN
                have hmd : decide (mode < 0) = false := decide_eq_false (by omega)
                have hd1 : decide (run < 0) = false := decide_eq_false c3
                have hd2 : decide (lg ≤ run) = false := decide_eq_false c4
                have hd3 : decide (rej < 0) = false := decide_eq_false c5
                have hd4 : decide (4 < rej) = false := decide_eq_false c6
                obtain ⟨c7, hm1⟩ := c7
                have hd5 : decide (0 < rej) = true := decide_eq_true c7
                have hd6 : (mode == 1) = false := by simpa using hm1
                have HB := allocs_below w [.cells #[.int .i64 mode, .int .i64 run, .slice A N c, .int .i64 rej] 34]
                have K_p : Blk (allocs w [.cells #[.int .i64 mode, .int .i64 run, .slice A N c, .int .i64 rej] 34]) (w.heap.size + 0) 34 #[.int .i64 mode, .int .i64 run, .slice A N c, .int .i64 rej] := allocs_at w [.cells #[.int .i64 mode, .int .i64 run, .slice A N c, .int .i64 rej] 34] 0 rfl
                unfold allocs at HB K_p
                simp only [List.foldl_cons, List.foldl_nil] at HB K_p
                rw [Nat.add_zero] at K_p
                go_enter Tryz.func23, Tryz.ntmps23
                go_upto_region 1 with (fail)
                generalize (w.alloc (.cells #[.int .i64 mode, .int .i64 run, .slice A N c, .int .i64 rej] 34)) = w0 at *
                replace K_p := hide K_p
                replace HB := hide HB
                have p0 := (Blk.cell K_p.out 0).trans (rfl : _ = some (Value.int .i64 mode))
                have p1 := (Blk.cell K_p.out 1).trans (rfl : _ = some (Value.int .i64 run))
                have p2 := (Blk.cell K_p.out 2).trans (rfl : _ = some (Value.slice A N c))
                have p3 := (Blk.cell K_p.out 3).trans (rfl : _ = some (Value.int .i64 rej))
                go_upto_region 3 with (fail)
                go_quiet ((go_at_call 53; exact Calls.quiet_of_same (HLO.out _)))
                go_wp2_with fail
                go_ret
                rw [HR.out]
                exact ⟨rfl, below_drewN HB.out _⟩
              · by_cases hr0 : rej = 0
                · subst hr0
                  by_cases c8 : 4 < N
                  · rw [if_neg (by omega)] at hre
                    rw [if_neg (by omega)] at hre
                    rw [if_neg (by unfold fourI; split <;> omega)] at hre
                    rw [if_pos c8] at hre
                    have HR := hide hre
                    clear hre
                    have HN := hide hN
                    clear hN
                    have hmd : decide (mode < 0) = false := decide_eq_false (by omega)
                    have hd1 : decide (run < 0) = false := decide_eq_false c3
                    have hd2 : decide (lg ≤ run) = false := decide_eq_false c4
                    have hd7 : (4 : Int) < (N : Int) := by omega
                    have HB := allocs_below w [.cells #[.int .i64 mode, .int .i64 run, .slice A N c, .int .i64 0] 34]
                    have K_p : Blk (allocs w [.cells #[.int .i64 mode, .int .i64 run, .slice A N c, .int .i64 0] 34]) (w.heap.size + 0) 34 #[.int .i64 mode, .int .i64 run, .slice A N c, .int .i64 0] := allocs_at w [.cells #[.int .i64 mode, .int .i64 run, .slice A N c, .int .i64 0] 34] 0 rfl
                    unfold allocs at HB K_p
                    simp only [List.foldl_cons, List.foldl_nil] at HB K_p
                    rw [Nat.add_zero] at K_p
                    go_enter Tryz.func23, Tryz.ntmps23
                    go_upto_region 1 with (fail)
                    generalize (w.alloc (.cells #[.int .i64 mode, .int .i64 run, .slice A N c, .int .i64 0] 34)) = w0 at *
                    replace K_p := hide K_p
                    replace HB := hide HB
                    have p0 := (Blk.cell K_p.out 0).trans (rfl : _ = some (Value.int .i64 mode))
                    have p1 := (Blk.cell K_p.out 1).trans (rfl : _ = some (Value.int .i64 run))
                    have p2 := (Blk.cell K_p.out 2).trans (rfl : _ = some (Value.slice A N c))
                    have p3 := (Blk.cell K_p.out 3).trans (rfl : _ = some (Value.int .i64 0))
                    go_upto_region 3 with (fail)
                    go_quiet ((go_at_call 53; exact Calls.quiet_of_same (HLO.out _)))
                    go_wp2_with fail
                    go_ret
                    rw [HR.out]
                    exact ⟨rfl, below_drewN HB.out _⟩
                  · by_cases c9 : fitsI mode run l = false
                    · rw [if_neg (by omega)] at hre
                      rw [if_neg (by omega)] at hre
                      rw [if_neg (by unfold fourI; split <;> omega)] at hre
                      rw [if_neg c8] at hre
                      rw [if_pos c9] at hre
                      have HR := hide hre
                      clear hre
                      have HF2 := hide (fun W h => HFI.out W h (by omega))
                      rw [c9] at HF2
                      clear c9
                      have HN := hide hN
                      clear hN
                      have hmd : decide (mode < 0) = false := decide_eq_false (by omega)
                      have hd1 : decide (run < 0) = false := decide_eq_false c3
                      have hd2 : decide (lg ≤ run) = false := decide_eq_false c4
                      have hd7 : ¬ (4 : Int) < (N : Int) := by omega
                      have HB := allocs_below w [.cells #[.int .i64 mode, .int .i64 run, .slice A N c, .int .i64 0] 34]
                      have K_p : Blk (allocs w [.cells #[.int .i64 mode, .int .i64 run, .slice A N c, .int .i64 0] 34]) (w.heap.size + 0) 34 #[.int .i64 mode, .int .i64 run, .slice A N c, .int .i64 0] := allocs_at w [.cells #[.int .i64 mode, .int .i64 run, .slice A N c, .int .i64 0] 34] 0 rfl
                      unfold allocs at HB K_p
                      simp only [List.foldl_cons, List.foldl_nil] at HB K_p
                      rw [Nat.add_zero] at K_p
                      go_enter Tryz.func23, Tryz.ntmps23
                      go_upto_region 1 with (fail)
                      generalize (w.alloc (.cells #[.int .i64 mode, .int .i64 run, .slice A N c, .int .i64 0] 34)) = w0 at *
                      replace K_p := hide K_p
                      replace HB := hide HB
                      have p0 := (Blk.cell K_p.out 0).trans (rfl : _ = some (Value.int .i64 mode))
                      have p1 := (Blk.cell K_p.out 1).trans (rfl : _ = some (Value.int .i64 run))
                      have p2 := (Blk.cell K_p.out 2).trans (rfl : _ = some (Value.slice A N c))
                      have p3 := (Blk.cell K_p.out 3).trans (rfl : _ = some (Value.int .i64 0))
                      go_upto_region 3 with (fail)
                      go_quiet ((go_at_call 53; exact Calls.quiet_of_same (HLO.out _)))
                      go_wp2_with fail
                      refine (HF2.out _ (HV.out.below ?bel)).mono ?_
                      case bel => exact below_drewN HB.out _
                      rintro e w1 ⟨rfl, hb⟩
                      have HX := hide ((below_drewN HB.out _).trans (hb.mono HB.out.size))
                      clear hb
                      go_wp2_with fail
                      go_ret
                      rw [HR.out]
                      exact ⟨rfl, HX.out⟩
                    · rw [if_neg (by omega)] at hre
                      rw [if_neg (by omega)] at hre
                      rw [if_neg (by unfold fourI; split <;> omega)] at hre
                      rw [if_neg c8] at hre
                      rw [if_neg c9] at hre
                      have HR := hide hre
                      clear hre
                      have HF2 := hide (fun W h => HFI.out W h (by omega))
                      rw [show fitsI _ run l = true by simpa using c9] at HF2
                      clear c9
                      have HN := hide hN
                      clear hN
                      have hmd : decide (mode < 0) = false := decide_eq_false (by omega)
                      have hd1 : decide (run < 0) = false := decide_eq_false c3
                      have hd2 : decide (lg ≤ run) = false := decide_eq_false c4
                      have hd7 : ¬ (4 : Int) < (N : Int) := by omega
                      have HB := allocs_below w [.cells #[.int .i64 mode, .int .i64 run, .slice A N c, .int .i64 0] 34]
                      have K_p : Blk (allocs w [.cells #[.int .i64 mode, .int .i64 run, .slice A N c, .int .i64 0] 34]) (w.heap.size + 0) 34 #[.int .i64 mode, .int .i64 run, .slice A N c, .int .i64 0] := allocs_at w [.cells #[.int .i64 mode, .int .i64 run, .slice A N c, .int .i64 0] 34] 0 rfl
                      unfold allocs at HB K_p
                      simp only [List.foldl_cons, List.foldl_nil] at HB K_p
                      rw [Nat.add_zero] at K_p
                      go_enter Tryz.func23, Tryz.ntmps23
                      go_upto_region 1 with (fail)
                      generalize (w.alloc (.cells #[.int .i64 mode, .int .i64 run, .slice A N c, .int .i64 0] 34)) = w0 at *
                      replace K_p := hide K_p
                      replace HB := hide HB
                      have p0 := (Blk.cell K_p.out 0).trans (rfl : _ = some (Value.int .i64 mode))
                      have p1 := (Blk.cell K_p.out 1).trans (rfl : _ = some (Value.int .i64 run))
                      have p2 := (Blk.cell K_p.out 2).trans (rfl : _ = some (Value.slice A N c))
                      have p3 := (Blk.cell K_p.out 3).trans (rfl : _ = some (Value.int .i64 0))
                      go_upto_region 3 with (fail)
                      go_quiet ((go_at_call 53; exact Calls.quiet_of_same (HLO.out _)))
                      go_wp2_with fail
                      refine (HF2.out _ (HV.out.below ?bel)).mono ?_
                      case bel => exact below_drewN HB.out _
                      rintro e w1 ⟨rfl, hb⟩
                      have HX := hide ((below_drewN HB.out _).trans (hb.mono HB.out.size))
                      clear hb
                      go_wp2_with fail
                      go_ret
                      rw [HR.out]
                      exact ⟨rfl, HX.out⟩
                · obtain rfl : mode = 1 := by omega
                  by_cases c8 : 4 < N
                  · rw [if_neg (by omega)] at hre
                    rw [if_neg (by omega)] at hre
                    rw [if_neg (by unfold fourI; split <;> omega)] at hre
                    rw [if_pos c8] at hre
                    have HR := hide hre
                    clear hre
                    have HN := hide hN
                    clear hN
                    have hd1 : decide (run < 0) = false := decide_eq_false c3
                    have hd2 : decide (lg ≤ run) = false := decide_eq_false c4
                    have hd3 : decide (rej < 0) = false := decide_eq_false c5
                    have hd4 : decide (4 < rej) = false := decide_eq_false c6
                    have hrp : 0 < rej := by omega
                    have hd7 : (4 : Int) < (N : Int) := by omega
                    have HB := allocs_below w [.cells #[.int .i64 1, .int .i64 run, .slice A N c, .int .i64 rej] 34]
                    have K_p : Blk (allocs w [.cells #[.int .i64 1, .int .i64 run, .slice A N c, .int .i64 rej] 34]) (w.heap.size + 0) 34 #[.int .i64 1, .int .i64 run, .slice A N c, .int .i64 rej] := allocs_at w [.cells #[.int .i64 1, .int .i64 run, .slice A N c, .int .i64 rej] 34] 0 rfl
                    unfold allocs at HB K_p
                    simp only [List.foldl_cons, List.foldl_nil] at HB K_p
                    rw [Nat.add_zero] at K_p
                    go_enter Tryz.func23, Tryz.ntmps23
                    go_upto_region 1 with (fail)
                    generalize (w.alloc (.cells #[.int .i64 1, .int .i64 run, .slice A N c, .int .i64 rej] 34)) = w0 at *
                    replace K_p := hide K_p
                    replace HB := hide HB
                    have p0 := (Blk.cell K_p.out 0).trans (rfl : _ = some (Value.int .i64 1))
                    have p1 := (Blk.cell K_p.out 1).trans (rfl : _ = some (Value.int .i64 run))
                    have p2 := (Blk.cell K_p.out 2).trans (rfl : _ = some (Value.slice A N c))
                    have p3 := (Blk.cell K_p.out 3).trans (rfl : _ = some (Value.int .i64 rej))
                    go_upto_region 3 with (fail)
                    go_quiet ((go_at_call 53; exact Calls.quiet_of_same (HLO.out _)))
                    go_wp2_with fail
                    go_ret
                    rw [HR.out]
                    exact ⟨rfl, below_drewN HB.out _⟩
                  · by_cases c9 : fitsI 1 run l = false
                    · rw [if_neg (by omega)] at hre
                      rw [if_neg (by omega)] at hre
                      rw [if_neg (by unfold fourI; split <;> omega)] at hre
                      rw [if_neg c8] at hre
                      rw [if_pos c9] at hre
                      have HR := hide hre
                      clear hre
                      have HF2 := hide (fun W h => HFI.out W h (by omega))
                      rw [c9] at HF2
                      clear c9
                      have HN := hide hN
                      clear hN
                      have hd1 : decide (run < 0) = false := decide_eq_false c3
                      have hd2 : decide (lg ≤ run) = false := decide_eq_false c4
                      have hd3 : decide (rej < 0) = false := decide_eq_false c5
                      have hd4 : decide (4 < rej) = false := decide_eq_false c6
                      have hrp : 0 < rej := by omega
                      have hd7 : ¬ (4 : Int) < (N : Int) := by omega
                      have HB := allocs_below w [.cells #[.int .i64 1, .int .i64 run, .slice A N c, .int .i64 rej] 34]
                      have K_p : Blk (allocs w [.cells #[.int .i64 1, .int .i64 run, .slice A N c, .int .i64 rej] 34]) (w.heap.size + 0) 34 #[.int .i64 1, .int .i64 run, .slice A N c, .int .i64 rej] := allocs_at w [.cells #[.int .i64 1, .int .i64 run, .slice A N c, .int .i64 rej] 34] 0 rfl
                      unfold allocs at HB K_p
                      simp only [List.foldl_cons, List.foldl_nil] at HB K_p
                      rw [Nat.add_zero] at K_p
                      go_enter Tryz.func23, Tryz.ntmps23
                      go_upto_region 1 with (fail)
                      generalize (w.alloc (.cells #[.int .i64 1, .int .i64 run, .slice A N c, .int .i64 rej] 34)) = w0 at *
                      replace K_p := hide K_p
                      replace HB := hide HB
                      have p0 := (Blk.cell K_p.out 0).trans (rfl : _ = some (Value.int .i64 1))
                      have p1 := (Blk.cell K_p.out 1).trans (rfl : _ = some (Value.int .i64 run))
                      have p2 := (Blk.cell K_p.out 2).trans (rfl : _ = some (Value.slice A N c))
                      have p3 := (Blk.cell K_p.out 3).trans (rfl : _ = some (Value.int .i64 rej))
                      go_upto_region 3 with (fail)
                      go_quiet ((go_at_call 53; exact Calls.quiet_of_same (HLO.out _)))
                      go_wp2_with fail
                      refine (HF2.out _ (HV.out.below ?bel)).mono ?_
                      case bel => exact below_drewN HB.out _
                      rintro e w1 ⟨rfl, hb⟩
                      have HX := hide ((below_drewN HB.out _).trans (hb.mono HB.out.size))
                      clear hb
                      go_wp2_with fail
                      go_ret
                      rw [HR.out]
                      exact ⟨rfl, HX.out⟩
                    · rw [if_neg (by omega)] at hre
                      rw [if_neg (by omega)] at hre
                      rw [if_neg (by unfold fourI; split <;> omega)] at hre
                      rw [if_neg c8] at hre
                      rw [if_neg c9] at hre
                      have HR := hide hre
                      clear hre
                      have HF2 := hide (fun W h => HFI.out W h (by omega))
                      rw [show fitsI _ run l = true by simpa using c9] at HF2
                      clear c9
                      have HN := hide hN
                      clear hN
                      have hd1 : decide (run < 0) = false := decide_eq_false c3
                      have hd2 : decide (lg ≤ run) = false := decide_eq_false c4
                      have hd3 : decide (rej < 0) = false := decide_eq_false c5
                      have hd4 : decide (4 < rej) = false := decide_eq_false c6
                      have hrp : 0 < rej := by omega
                      have hd7 : ¬ (4 : Int) < (N : Int) := by omega
                      have HB := allocs_below w [.cells #[.int .i64 1, .int .i64 run, .slice A N c, .int .i64 rej] 34]
                      have K_p : Blk (allocs w [.cells #[.int .i64 1, .int .i64 run, .slice A N c, .int .i64 rej] 34]) (w.heap.size + 0) 34 #[.int .i64 1, .int .i64 run, .slice A N c, .int .i64 rej] := allocs_at w [.cells #[.int .i64 1, .int .i64 run, .slice A N c, .int .i64 rej] 34] 0 rfl
                      unfold allocs at HB K_p
                      simp only [List.foldl_cons, List.foldl_nil] at HB K_p
                      rw [Nat.add_zero] at K_p
                      go_enter Tryz.func23, Tryz.ntmps23
                      go_upto_region 1 with (fail)
                      generalize (w.alloc (.cells #[.int .i64 1, .int .i64 run, .slice A N c, .int .i64 rej] 34)) = w0 at *
                      replace K_p := hide K_p
                      replace HB := hide HB
                      have p0 := (Blk.cell K_p.out 0).trans (rfl : _ = some (Value.int .i64 1))
                      have p1 := (Blk.cell K_p.out 1).trans (rfl : _ = some (Value.int .i64 run))
                      have p2 := (Blk.cell K_p.out 2).trans (rfl : _ = some (Value.slice A N c))
                      have p3 := (Blk.cell K_p.out 3).trans (rfl : _ = some (Value.int .i64 rej))
                      go_upto_region 3 with (fail)
                      go_quiet ((go_at_call 53; exact Calls.quiet_of_same (HLO.out _)))
                      go_wp2_with fail
                      refine (HF2.out _ (HV.out.below ?bel)).mono ?_
                      case bel => exact below_drewN HB.out _
                      rintro e w1 ⟨rfl, hb⟩
                      have HX := hide ((below_drewN HB.out _).trans (hb.mono HB.out.size))
                      clear hb
                      go_wp2_with fail
                      go_ret
                      rw [HR.out]
                      exact ⟨rfl, HX.out⟩
end Go.Proofs.YthmmgjieppknkaaGreatDoor

namespace Go.Proofs.YthmmgjieppknkaaGreatDoor
open Go.RowKit MLab
theorem StN.begun (B : Nat) (w : World) (m : Nat) : StN B w (.agg #[.int .i64 (m : Int), .int .i64 0, .slice none 0 0, .int .i64 0]) (swB m) := ⟨_, rfl, SlL.nil w, FrV.zero _ _ _⟩
theorem StV.begun (w : World) (m : Nat) : StV w (.agg #[.int .i64 (m : Int), .int .i64 0, .slice none 0 0, .int .i64 0]) (swB m) := ⟨_, rfl, SlL.nil w⟩
end Go.Proofs.YthmmgjieppknkaaGreatDoor

namespace Go.Proofs.YthmmgjieppknkaaGreatDoor
open Go.RowKit MLab
set_option maxRecDepth 100000 in
set_option maxHeartbeats 2000000 in
theorem rrej_any (w : World) (v : Value) (l : List Bool) (hv : SlL w v (bcl l)) (hl : l.length ≤ 1000000) :
    Calls Tryz.prog 99 #[v] w fun e w' => e = .returned (.bool (l.contains false)) ∧ Below w.heap.size w w' := by
  obtain ⟨A, c, rfl, -, hc⟩ := hv
  rw [bcl_len] at hc ⊢
  have HC := hide hc
  have HS := hide (fun (j : Nat) (h2 : l[j]? = some false) => (List.contains_iff_mem.2 (List.mem_of_getElem? h2) : l.contains false = true))
  have HNO := hide (fun (h : ∀ i, i < l.length → l[i]? = some true) => (by rw [contains_idx, idxF_none (firstF_none h)]; rfl : l.contains false = false))
  obtain ⟨N, hN⟩ : ∃ N, l.length = N := ⟨_, rfl⟩
  rw [hN] at HC HNO hl ⊢
  have HNN := hide hN
  obtain ⟨B, hB⟩ : ∃ B, l.contains false = B := ⟨_, rfl⟩
  rw [hB] at HS HNO ⊢
  clear hc hN hB
  go_enter Tryz.func99, Tryz.ntmps99
  go_wp2_with fail
  go_loopg [3] N (fun z iv wr => ∃ j : Nat, iv = .int .i64 (j : Int) ∧ z + j = N ∧ Below w.heap.size w wr ∧ ∀ i, i < j → l[i]? = some true)
  case atStart => exact ⟨0, rfl, rfl, Below.refl _ _, fun i hi => absurd hi (by omega)⟩
  case round =>
    obtain ⟨j, rfl, hq, hb, hr⟩ := hrel
    have HQ := hide hq
    have HB := hide hb
    have HR := hide hr
    have hj : j ≤ N := by omega
    clear hq hb hr
    by_cases hlt : j < N
    · have hji : (j : Int) < (N : Int) := by omega
      have hj0 : (0 : Int) ≤ (j : Int) := by omega
      obtain ⟨g, og, rfl, hcell⟩ := HC.out (by omega)
      obtain ⟨b, hx⟩ : ∃ b, l[j]? = some b := ⟨_, List.getElem?_eq_getElem (by rw [HNN.out]; exact hlt)⟩
      have a := hcell j _ (bcl_at hx)
      have a2 := (bcell HB.out _ _ (block_lt_of_cell a)).trans a
      have HX := hide hx
      clear a hcell hx HC
      cases b with
      | false =>
        go_wp2_with fail
        go_ret
        rw [HS.out j HX.out]
        exact ⟨rfl, HB.out⟩
      | true =>
        go_wp2_with fail
        go_roundg (gk - 1)
        case measure => have := HQ.out; omega
        case rel => exact ⟨j + 1, by go_num, by have := HQ.out; omega, HB.out, fun i hi => by
          rcases (by omega : i < j ∨ i = j) with h | h
          · exact HR.out i h
          · subst h; exact HX.out⟩
    · have hji : ¬ (j : Int) < (N : Int) := by omega
      have hjN : j = N := by omega
      subst hjN
      go_wp2_with fail
      go_ret
      rw [HNO.out HR.out]
      exact ⟨rfl, HB.out⟩
set_option maxRecDepth 100000 in
set_option maxHeartbeats 2000000 in
theorem rlast_any (w : World) (v : Value) (l : List Bool) (ok : Bool) (hv : SlL w v (bcl l)) (hl : l.length ≤ 4) :
    Calls Tryz.prog 100 #[v, .bool ok] w fun e w' => ∃ u, e = .returned u ∧ SlL w' u (bcl (lastB l ok)) ∧ FrV w.heap.size u ∧ Below w.heap.size w w' := by
  obtain ⟨i0, hi, hz0, hz1, hz2⟩ := info_parts info_bool
  have HV := hide hv
  have hll : (l ++ [ok]).length = l.length + 1 := by simp
  have hlb : lastB l ok = (l ++ [ok]).drop (l.length + 1 - 4) := by unfold lastB; rw [hll]
  have HLB := hide hlb
  clear hlb hv
  obtain ⟨N, hN⟩ : ∃ N, l.length = N := ⟨_, rfl⟩
  rw [hN] at hl hll HLB
  have HN := hide hN
  have HLL := hide hll
  clear hN hll
  go_enter Tryz.func100, Tryz.ntmps100
  go_wp2_with (at_builtin; refine wpList_append_sl _ rfl _ _ 27 rfl w.heap.size 4 i0 (.bool false) 1 Tryz.underlying27 hi hz0 hz1 hz2 rfl _ 0 [] rfl (own_empty w _) _ (bcl l) rfl (HV.out.below ((Below.refl _ _).alloc (Nat.le_refl _) _)) (bcl_one l) ?la1 ?la2 ?la3 ?_)
  try (case la1 => (rw [bcl_len, HN.out]; simp [maxLen]; omega))
  try (case la2 => (rw [bcl_len, HN.out]; omega))
  try (case la3 => (simp))
  intro v6 w6 ho6 hg6
  rw [bcl_len, HN.out] at ho6
  try rw [List.nil_append] at ho6
  try rw [Nat.zero_add] at ho6
  have hb6 : Below w.heap.size w w6 := ((Below.refl _ _).alloc (Nat.le_refl _) _).grown hg6 (by simp) (fun k e => ((own_empty w 4).lt k e).1)
  have HB6 := hide hb6
  have HO6 := hide ho6
  have hbs := hb6.size
  clear hg6 hb6 ho6
  have ho7 := HO6.out.alloc (.cells #[.bool ok] 4)
  go_wp2_with (at_builtin; refine wpList_append_sl _ rfl _ _ 27 rfl w.heap.size 4 i0 (.bool false) 1 Tryz.underlying27 hi hz0 hz1 hz2 rfl _ N (bcl l) rfl ho7 _ [.bool ok] rfl (SlL.one _ _ _) ?lb0 ?lb1 ?lb2 ?lb3 ?_)
  try (case lb0 => (intro x hx; simp at hx; subst hx; rfl))
  try (case lb1 => (simp [maxLen]; omega))
  try (case lb2 => (simp; omega))
  try (case lb3 => (simp; omega))
  intro v7 w7 ho8 hg8
  have hb8 : Below w.heap.size w w7 := (HB6.out.alloc hbs _).grown hg8 (by simp; omega) (fun k e => (ho7.lt k e).1)
  have HB8 := hide hb8
  have hsl := SlL.of_row ho8 (by rw [List.length_append, bcl_len, HN.out]; rfl)
  rw [bcl_snoc] at hsl
  obtain ⟨g, cap, rfl, hcap, hgb⟩ : ∃ g cap, v7 = .slice (some ⟨g, 0, none⟩) (N + 1) cap ∧ N + 1 ≤ cap ∧ w.heap.size ≤ g := by
    rcases ho8.2 with ⟨_, h⟩ | ⟨g, cap, cur, h, h2, _, h3, _⟩
    · simp at h
    · exact ⟨g, cap, h, h3, h2⟩
  have HSL := hide hsl
  obtain ⟨M, hM⟩ : ∃ M, N + 1 = M := ⟨_, rfl⟩
  rw [hM] at HSL HLB hcap
  have HM := hide hM
  by_cases h4 : 4 < M
  · have h4i : (4 : Int) < (M : Int) := by omega
    obtain rfl : M = 5 := by omega
    have hw : IntKind.i64.wrap ((5 : Int) - 4) = 1 := IntWalk.i64_in _ (by omega)
    have hcn : ¬ cap = 1 := by omega
    have HRES := hide (show SlL w7 (.slice (some ⟨g, 0 + 1, none⟩) 4 (cap - 1)) (bcl (lastB l ok)) by
      rw [HLB.out, bcl_drop]; exact HSL.out.drop (k := 1) (by omega))
    rw [hM]
    clear hg8 hb8 ho8 hsl hM ho7
    go_wp2_with fail
    go_ret
    exact ⟨_, rfl, HRES.out, FrV.of _ _ _ hgb, HB8.out⟩
  · have h4i : ¬ (4 : Int) < (M : Int) := by omega
    have HRES := hide (show SlL w7 (.slice (some ⟨g, 0, none⟩) M cap) (bcl (lastB l ok)) by
      rw [HLB.out, show M - 4 = 0 by omega, List.drop_zero]; exact HSL.out)
    rw [hM]
    clear hg8 hb8 ho8 hsl hM ho7
    go_wp2_with fail
    go_ret
    exact ⟨_, rfl, HRES.out, FrV.of _ _ _ hgb, HB8.out⟩
set_option maxRecDepth 100000 in
set_option maxHeartbeats 4000000 in
theorem rgoes_any (w : World) (x : Sw) (ok : Bool) (v : Value) (hv : SlL w v (bcl x.last)) (hx : RightS x) :
    Calls Tryz.prog 59 #[.agg #[.int .i64 (x.mode : Int), .int .i64 (x.run : Int), v, .int .i64 (x.rej : Int)], .bool ok] w fun e w' => ∃ u, e = .returned u ∧ StN w.heap.size w' u (goesS x ok) ∧ Below w.heap.size w w' := by
  have HV := hide hv
  obtain ⟨A, N, c, rfl⟩ := hv.shape3
  clear hv
  rcases right_cases hx with ⟨rn, l, rfl, h1, h2, h3⟩ | ⟨rn, d, rfl, h1, h2⟩ | rfl | rfl
  · clear hx
    have HL := hide (fun (W : World) (b : Bool) (h : SlL W (.slice A N c) (bcl l)) => rlast_any W _ l b h h2)
    have HJ := hide (fun (W : World) (h : SlL W (.slice A N c) (bcl l)) => rrej_any W _ l h (by omega))
    simp only at HV
    clear h2 h3
    show Calls Tryz.prog 59 #[.agg #[.int .i64 0, .int .i64 (rn : Int), .slice A N c, .int .i64 0], .bool ok] w _
    cases ok with
    | false =>
      by_cases hc : l.contains false = true
      · have hr : goesS ⟨0, rn, l, 0⟩ false = swB 1 := by unfold goesS; rw [if_pos rfl, if_pos ⟨rfl, hc⟩]
        rw [hr]
        rw [hc] at HJ
        clear hr hc h1 HL
        have HB := allocs_below w [.cells #[.int .i64 0, .int .i64 (rn : Int), .slice A N c, .int .i64 0] 34, .cells #[.int .i64 0, .int .i64 0, .slice none 0 0, .int .i64 0] 34]
        have K_x : Blk (allocs w [.cells #[.int .i64 0, .int .i64 (rn : Int), .slice A N c, .int .i64 0] 34, .cells #[.int .i64 0, .int .i64 0, .slice none 0 0, .int .i64 0] 34]) (w.heap.size + 0) 34 #[.int .i64 0, .int .i64 (rn : Int), .slice A N c, .int .i64 0] := allocs_at w [.cells #[.int .i64 0, .int .i64 (rn : Int), .slice A N c, .int .i64 0] 34, .cells #[.int .i64 0, .int .i64 0, .slice none 0 0, .int .i64 0] 34] 0 rfl
        have K_r : Blk (allocs w [.cells #[.int .i64 0, .int .i64 (rn : Int), .slice A N c, .int .i64 0] 34, .cells #[.int .i64 0, .int .i64 0, .slice none 0 0, .int .i64 0] 34]) (w.heap.size + 1) 34 #[.int .i64 0, .int .i64 0, .slice none 0 0, .int .i64 0] := allocs_at w [.cells #[.int .i64 0, .int .i64 (rn : Int), .slice A N c, .int .i64 0] 34, .cells #[.int .i64 0, .int .i64 0, .slice none 0 0, .int .i64 0] 34] 1 rfl
        unfold allocs at HB K_x K_r
        simp only [List.foldl_cons, List.foldl_nil] at HB K_x K_r
        rw [Nat.add_zero] at K_x
        go_enter Tryz.func59, Tryz.ntmps59
        go_upto_region 1 with (fail)
        generalize ((w.alloc (.cells #[.int .i64 0, .int .i64 (rn : Int), .slice A N c, .int .i64 0] 34)).alloc (.cells #[.int .i64 0, .int .i64 0, .slice none 0 0, .int .i64 0] 34)) = w0 at *
        replace K_x := hide K_x
        replace K_r := hide K_r
        replace HB := hide HB
        have x0 := (Blk.cell K_x.out 0).trans (rfl : _ = some (Value.int .i64 0))
        have x1 := (Blk.cell K_x.out 1).trans (rfl : _ = some (Value.int .i64 (rn : Int)))
        have x2 := (Blk.cell K_x.out 2).trans (rfl : _ = some (Value.slice A N c))
        have x3 := (Blk.cell K_x.out 3).trans (rfl : _ = some (Value.int .i64 0))
        go_wp2_with fail
        refine (HJ.out _ (HV.out.below HB.out)).mono ?_
        rintro e w1 ⟨rfl, hb⟩
        clear x0 x1 x2 x3
        replace K_x := hide (Blk.below K_x.out hb (Blk.lt K_x.out))
        replace K_r := hide (Blk.below K_r.out hb (Blk.lt K_r.out))
        replace HB := hide (HB.out.trans (hb.mono HB.out.size))
        clear hb
        have r0 := (Blk.cell K_r.out 0).trans (rfl : _ = some (Value.int .i64 0))
        have rf0 := Blk.frozen K_r.out 0
        have r1 := (Blk.cell K_r.out 1).trans (rfl : _ = some (Value.int .i64 0))
        have rf1 := Blk.frozen K_r.out 1
        have r2 := (Blk.cell K_r.out 2).trans (rfl : _ = some (Value.slice none 0 0))
        have rf2 := Blk.frozen K_r.out 2
        have r3 := (Blk.cell K_r.out 3).trans (rfl : _ = some (Value.int .i64 0))
        have rf3 := Blk.frozen K_r.out 3
        go_wp2_with fail
        have rc0 := (Blk.cell ((((K_r.out.set_ 0 (.int .i64 1)).set_ 1 (.int .i64 0)).set_ 2 (.slice none 0 0)).set_ 3 (.int .i64 0)) 0).trans (rfl : _ = some (Value.int .i64 1))
        have rc1 := (Blk.cell ((((K_r.out.set_ 0 (.int .i64 1)).set_ 1 (.int .i64 0)).set_ 2 (.slice none 0 0)).set_ 3 (.int .i64 0)) 1).trans (rfl : _ = some (Value.int .i64 0))
        have rc2 := (Blk.cell ((((K_r.out.set_ 0 (.int .i64 1)).set_ 1 (.int .i64 0)).set_ 2 (.slice none 0 0)).set_ 3 (.int .i64 0)) 2).trans (rfl : _ = some (Value.slice none 0 0))
        have rc3 := (Blk.cell ((((K_r.out.set_ 0 (.int .i64 1)).set_ 1 (.int .i64 0)).set_ 2 (.slice none 0 0)).set_ 3 (.int .i64 0)) 3).trans (rfl : _ = some (Value.int .i64 0))
        exact bodyPost_ret (v := .agg #[.int .i64 1, .int .i64 0, .slice none 0 0, .int .i64 0]) (by simp [results, Tryz.results59, go_sem, rc0, rc1, rc2, rc3]) rfl ⟨_, rfl, StN.begun _ _ 1, ((((HB.out.setCell (p := ⟨(w.heap.size + 1), 0, none⟩) (by show w.heap.size ≤ (w.heap.size + 1); omega) (.int .i64 1)).setCell (p := ⟨(w.heap.size + 1), 1, none⟩) (by show w.heap.size ≤ (w.heap.size + 1); omega) (.int .i64 0)).setCell (p := ⟨(w.heap.size + 1), 2, none⟩) (by show w.heap.size ≤ (w.heap.size + 1); omega) (.slice none 0 0)).setCell (p := ⟨(w.heap.size + 1), 3, none⟩) (by show w.heap.size ≤ (w.heap.size + 1); omega) (.int .i64 0))⟩
      · have hr : goesS ⟨0, rn, l, 0⟩ false = ⟨0, 0, lastB l false, 0⟩ := by
          unfold goesS
          rw [if_pos rfl, if_neg (by rintro ⟨_, h⟩; exact hc h)]
          simp only [Bool.false_eq_true, if_false]
          rw [if_neg (by omega)]
        rw [hr]
        clear hr
        rw [show l.contains false = false by simpa using hc] at HJ
        clear hc
        clear h1
        have HB := allocs_below w [.cells #[.int .i64 0, .int .i64 (rn : Int), .slice A N c, .int .i64 0] 34, .cells #[.int .i64 0, .int .i64 0, .slice none 0 0, .int .i64 0] 34]
        have K_x : Blk (allocs w [.cells #[.int .i64 0, .int .i64 (rn : Int), .slice A N c, .int .i64 0] 34, .cells #[.int .i64 0, .int .i64 0, .slice none 0 0, .int .i64 0] 34]) (w.heap.size + 0) 34 #[.int .i64 0, .int .i64 (rn : Int), .slice A N c, .int .i64 0] := allocs_at w [.cells #[.int .i64 0, .int .i64 (rn : Int), .slice A N c, .int .i64 0] 34, .cells #[.int .i64 0, .int .i64 0, .slice none 0 0, .int .i64 0] 34] 0 rfl
        have K_r : Blk (allocs w [.cells #[.int .i64 0, .int .i64 (rn : Int), .slice A N c, .int .i64 0] 34, .cells #[.int .i64 0, .int .i64 0, .slice none 0 0, .int .i64 0] 34]) (w.heap.size + 1) 34 #[.int .i64 0, .int .i64 0, .slice none 0 0, .int .i64 0] := allocs_at w [.cells #[.int .i64 0, .int .i64 (rn : Int), .slice A N c, .int .i64 0] 34, .cells #[.int .i64 0, .int .i64 0, .slice none 0 0, .int .i64 0] 34] 1 rfl
        unfold allocs at HB K_x K_r
        simp only [List.foldl_cons, List.foldl_nil] at HB K_x K_r
        rw [Nat.add_zero] at K_x
        go_enter Tryz.func59, Tryz.ntmps59
        go_upto_region 1 with (fail)
        generalize ((w.alloc (.cells #[.int .i64 0, .int .i64 (rn : Int), .slice A N c, .int .i64 0] 34)).alloc (.cells #[.int .i64 0, .int .i64 0, .slice none 0 0, .int .i64 0] 34)) = w0 at *
        replace K_x := hide K_x
        replace K_r := hide K_r
        replace HB := hide HB
        have x0 := (Blk.cell K_x.out 0).trans (rfl : _ = some (Value.int .i64 0))
        have x1 := (Blk.cell K_x.out 1).trans (rfl : _ = some (Value.int .i64 (rn : Int)))
        have x2 := (Blk.cell K_x.out 2).trans (rfl : _ = some (Value.slice A N c))
        have x3 := (Blk.cell K_x.out 3).trans (rfl : _ = some (Value.int .i64 0))
        go_wp2_with fail
        refine (HJ.out _ (HV.out.below HB.out)).mono ?_
        rintro e w1 ⟨rfl, hb⟩
        clear x0 x1 x2 x3
        replace K_x := hide (Blk.below K_x.out hb (Blk.lt K_x.out))
        replace K_r := hide (Blk.below K_r.out hb (Blk.lt K_r.out))
        replace HB := hide (HB.out.trans (hb.mono HB.out.size))
        clear hb
        have x0 := (Blk.cell K_x.out 0).trans (rfl : _ = some (Value.int .i64 0))
        have x1 := (Blk.cell K_x.out 1).trans (rfl : _ = some (Value.int .i64 (rn : Int)))
        have x2 := (Blk.cell K_x.out 2).trans (rfl : _ = some (Value.slice A N c))
        have x3 := (Blk.cell K_x.out 3).trans (rfl : _ = some (Value.int .i64 0))
        go_wp2_with fail
        refine (HL.out _ false (HV.out.below HB.out)).mono ?_
        rintro e wl ⟨u, rfl, hsl, hfr, hb⟩
        obtain ⟨A9, N9, c9, rfl⟩ := hsl.shape3
        have HSL := hide hsl
        have HFR := hide (hfr.mono HB.out.size)
        clear hsl hfr
        clear x0 x1 x2 x3
        replace K_x := hide (Blk.below K_x.out hb (Blk.lt K_x.out))
        replace K_r := hide (Blk.below K_r.out hb (Blk.lt K_r.out))
        replace HB := hide (HB.out.trans (hb.mono HB.out.size))
        clear hb
        go_upto_region 6 with (fail)
        have hbs_y : w.heap.size ≤ wl.heap.size := HB.out.size
        have lt_y_x : w.heap.size < wl.heap.size := Blk.lt K_x.out
        have lt_y_r : (w.heap.size + 1) < wl.heap.size := Blk.lt K_r.out
        replace K_x := K_x.out.alloc (.cells #[.int .i64 0, .int .i64 0, .slice A9 N9 c9, .int .i64 0] 34)
        replace K_r := K_r.out.alloc (.cells #[.int .i64 0, .int .i64 0, .slice A9 N9 c9, .int .i64 0] 34)
        replace HB := HB.out.alloc HB.out.size (.cells #[.int .i64 0, .int .i64 0, .slice A9 N9 c9, .int .i64 0] 34)
        have K_y := Blk.new wl 34 #[.int .i64 0, .int .i64 0, .slice A9 N9 c9, .int .i64 0]
        have HSL2 := hide (HSL.out.below ((Below.refl wl.heap.size wl).alloc (Nat.le_refl _) (.cells #[.int .i64 0, .int .i64 0, .slice A9 N9 c9, .int .i64 0] 34)))
        generalize wl.alloc (.cells #[.int .i64 0, .int .i64 0, .slice A9 N9 c9, .int .i64 0] 34) = wy at *
        replace K_x := hide K_x
        replace K_r := hide K_r
        replace K_y := hide K_y
        replace HB := hide HB
        have y0 := (Blk.cell K_y.out 0).trans (rfl : _ = some (Value.int .i64 0))
        have y1 := (Blk.cell K_y.out 1).trans (rfl : _ = some (Value.int .i64 0))
        have y2 := (Blk.cell K_y.out 2).trans (rfl : _ = some (Value.slice A9 N9 c9))
        have y3 := (Blk.cell K_y.out 3).trans (rfl : _ = some (Value.int .i64 0))
        have r0 := (Blk.cell K_r.out 0).trans (rfl : _ = some (Value.int .i64 0))
        have rf0 := Blk.frozen K_r.out 0
        have r1 := (Blk.cell K_r.out 1).trans (rfl : _ = some (Value.int .i64 0))
        have rf1 := Blk.frozen K_r.out 1
        have r2 := (Blk.cell K_r.out 2).trans (rfl : _ = some (Value.slice none 0 0))
        have rf2 := Blk.frozen K_r.out 2
        have r3 := (Blk.cell K_r.out 3).trans (rfl : _ = some (Value.int .i64 0))
        have rf3 := Blk.frozen K_r.out 3
        go_wp2_with fail
        have rc0 := (Blk.cell ((((K_r.out.set_ 0 (.int .i64 0)).set_ 1 (.int .i64 0)).set_ 2 (.slice A9 N9 c9)).set_ 3 (.int .i64 0)) 0).trans (rfl : _ = some (Value.int .i64 0))
        have rc1 := (Blk.cell ((((K_r.out.set_ 0 (.int .i64 0)).set_ 1 (.int .i64 0)).set_ 2 (.slice A9 N9 c9)).set_ 3 (.int .i64 0)) 1).trans (rfl : _ = some (Value.int .i64 0))
        have rc2 := (Blk.cell ((((K_r.out.set_ 0 (.int .i64 0)).set_ 1 (.int .i64 0)).set_ 2 (.slice A9 N9 c9)).set_ 3 (.int .i64 0)) 2).trans (rfl : _ = some (Value.slice A9 N9 c9))
        have rc3 := (Blk.cell ((((K_r.out.set_ 0 (.int .i64 0)).set_ 1 (.int .i64 0)).set_ 2 (.slice A9 N9 c9)).set_ 3 (.int .i64 0)) 3).trans (rfl : _ = some (Value.int .i64 0))
        exact bodyPost_ret (v := .agg #[.int .i64 0, .int .i64 0, .slice A9 N9 c9, .int .i64 0]) (by simp [results, Tryz.results59, go_sem, rc0, rc1, rc2, rc3]) rfl ⟨_, rfl, ⟨_, rfl, HSL2.out.own K_r.out zs_nobool (only_setCell (only_setCell (only_setCell (only_setCell (only_refl _ (some ((w.heap.size + 1)))) (p := ⟨(w.heap.size + 1), 0, none⟩) (Or.inl rfl) _) (p := ⟨(w.heap.size + 1), 1, none⟩) (Or.inl rfl) _) (p := ⟨(w.heap.size + 1), 2, none⟩) (Or.inl rfl) _) (p := ⟨(w.heap.size + 1), 3, none⟩) (Or.inl rfl) _), HFR.out⟩, ((((HB.out.setCell (p := ⟨(w.heap.size + 1), 0, none⟩) (by show w.heap.size ≤ (w.heap.size + 1); omega) (.int .i64 0)).setCell (p := ⟨(w.heap.size + 1), 1, none⟩) (by show w.heap.size ≤ (w.heap.size + 1); omega) (.int .i64 0)).setCell (p := ⟨(w.heap.size + 1), 2, none⟩) (by show w.heap.size ≤ (w.heap.size + 1); omega) (.slice A9 N9 c9)).setCell (p := ⟨(w.heap.size + 1), 3, none⟩) (by show w.heap.size ≤ (w.heap.size + 1); omega) (.int .i64 0))⟩
    | true =>
      by_cases ht : rn + 1 = 10
      · have hr : goesS ⟨0, rn, l, 0⟩ true = swB 2 := by
          unfold goesS
          rw [if_pos rfl, if_neg (by simp)]
          simp only [if_true]
          rw [if_pos ht]
        rw [hr]
        clear hr
        have hwr : IntKind.i64.wrap ((rn : Int) + 1) = ((rn + 1 : Nat) : Int) := (IntWalk.i64_in _ (by omega)).trans (by omega)
        obtain ⟨rq, hrq⟩ : ∃ z, rn + 1 = z := ⟨_, rfl⟩
        rw [hrq] at hwr ht
        have HR1 := hide hrq
        subst ht
        clear hrq
        clear HJ
        clear h1
        have HB := allocs_below w [.cells #[.int .i64 0, .int .i64 (rn : Int), .slice A N c, .int .i64 0] 34, .cells #[.int .i64 0, .int .i64 0, .slice none 0 0, .int .i64 0] 34]
        have K_x : Blk (allocs w [.cells #[.int .i64 0, .int .i64 (rn : Int), .slice A N c, .int .i64 0] 34, .cells #[.int .i64 0, .int .i64 0, .slice none 0 0, .int .i64 0] 34]) (w.heap.size + 0) 34 #[.int .i64 0, .int .i64 (rn : Int), .slice A N c, .int .i64 0] := allocs_at w [.cells #[.int .i64 0, .int .i64 (rn : Int), .slice A N c, .int .i64 0] 34, .cells #[.int .i64 0, .int .i64 0, .slice none 0 0, .int .i64 0] 34] 0 rfl
        have K_r : Blk (allocs w [.cells #[.int .i64 0, .int .i64 (rn : Int), .slice A N c, .int .i64 0] 34, .cells #[.int .i64 0, .int .i64 0, .slice none 0 0, .int .i64 0] 34]) (w.heap.size + 1) 34 #[.int .i64 0, .int .i64 0, .slice none 0 0, .int .i64 0] := allocs_at w [.cells #[.int .i64 0, .int .i64 (rn : Int), .slice A N c, .int .i64 0] 34, .cells #[.int .i64 0, .int .i64 0, .slice none 0 0, .int .i64 0] 34] 1 rfl
        unfold allocs at HB K_x K_r
        simp only [List.foldl_cons, List.foldl_nil] at HB K_x K_r
        rw [Nat.add_zero] at K_x
        go_enter Tryz.func59, Tryz.ntmps59
        go_upto_region 1 with (fail)
        generalize ((w.alloc (.cells #[.int .i64 0, .int .i64 (rn : Int), .slice A N c, .int .i64 0] 34)).alloc (.cells #[.int .i64 0, .int .i64 0, .slice none 0 0, .int .i64 0] 34)) = w0 at *
        replace K_x := hide K_x
        replace K_r := hide K_r
        replace HB := hide HB
        have x0 := (Blk.cell K_x.out 0).trans (rfl : _ = some (Value.int .i64 0))
        have x1 := (Blk.cell K_x.out 1).trans (rfl : _ = some (Value.int .i64 (rn : Int)))
        have x2 := (Blk.cell K_x.out 2).trans (rfl : _ = some (Value.slice A N c))
        have x3 := (Blk.cell K_x.out 3).trans (rfl : _ = some (Value.int .i64 0))
        go_wp2_with fail
        refine (HL.out _ true (HV.out.below HB.out)).mono ?_
        rintro e wl ⟨u, rfl, hsl, hfr, hb⟩
        obtain ⟨A9, N9, c9, rfl⟩ := hsl.shape3
        have HSL := hide hsl
        have HFR := hide (hfr.mono HB.out.size)
        clear hsl hfr
        clear x0 x1 x2 x3
        replace K_x := hide (Blk.below K_x.out hb (Blk.lt K_x.out))
        replace K_r := hide (Blk.below K_r.out hb (Blk.lt K_r.out))
        replace HB := hide (HB.out.trans (hb.mono HB.out.size))
        clear hb
        go_upto_region 6 with (fail)
        have hbs_y : w.heap.size ≤ wl.heap.size := HB.out.size
        have lt_y_x : w.heap.size < wl.heap.size := Blk.lt K_x.out
        have lt_y_r : (w.heap.size + 1) < wl.heap.size := Blk.lt K_r.out
        replace K_x := K_x.out.alloc (.cells #[.int .i64 0, .int .i64 0, .slice A9 N9 c9, .int .i64 0] 34)
        replace K_r := K_r.out.alloc (.cells #[.int .i64 0, .int .i64 0, .slice A9 N9 c9, .int .i64 0] 34)
        replace HB := HB.out.alloc HB.out.size (.cells #[.int .i64 0, .int .i64 0, .slice A9 N9 c9, .int .i64 0] 34)
        have K_y := Blk.new wl 34 #[.int .i64 0, .int .i64 0, .slice A9 N9 c9, .int .i64 0]
        have HSL2 := hide (HSL.out.below ((Below.refl wl.heap.size wl).alloc (Nat.le_refl _) (.cells #[.int .i64 0, .int .i64 0, .slice A9 N9 c9, .int .i64 0] 34)))
        generalize wl.alloc (.cells #[.int .i64 0, .int .i64 0, .slice A9 N9 c9, .int .i64 0] 34) = wy at *
        replace K_x := hide K_x
        replace K_r := hide K_r
        replace K_y := hide K_y
        replace HB := hide HB
        have x0 := (Blk.cell K_x.out 0).trans (rfl : _ = some (Value.int .i64 0))
        have x1 := (Blk.cell K_x.out 1).trans (rfl : _ = some (Value.int .i64 (rn : Int)))
        have x2 := (Blk.cell K_x.out 2).trans (rfl : _ = some (Value.slice A N c))
        have x3 := (Blk.cell K_x.out 3).trans (rfl : _ = some (Value.int .i64 0))
        have y0 := (Blk.cell K_y.out 0).trans (rfl : _ = some (Value.int .i64 0))
        have y1 := (Blk.cell K_y.out 1).trans (rfl : _ = some (Value.int .i64 0))
        have y2 := (Blk.cell K_y.out 2).trans (rfl : _ = some (Value.slice A9 N9 c9))
        have y3 := (Blk.cell K_y.out 3).trans (rfl : _ = some (Value.int .i64 0))
        have yf1 := Blk.frozen K_y.out 1
        have KY0 := K_y
        go_upto_region 8 with (fail)
        clear x0 x1 x2 x3 y0 y1 y2 y3 yf1
        replace K_x := K_x.out.far (p := ⟨wl.heap.size, 1, none⟩) (by show w.heap.size ≠ wl.heap.size; omega) (.int .i64 10)
        replace K_r := K_r.out.far (p := ⟨wl.heap.size, 1, none⟩) (by show (w.heap.size + 1) ≠ wl.heap.size; omega) (.int .i64 10)
        replace K_y : Blk (wy.setCell ⟨wl.heap.size, 1, none⟩ (.int .i64 10)) wl.heap.size 34 #[.int .i64 0, .int .i64 10, .slice A9 N9 c9, .int .i64 0] := K_y.out.set_ 1 (.int .i64 10)
        replace HB := HB.out.setCell (p := ⟨wl.heap.size, 1, none⟩) (by show w.heap.size ≤ wl.heap.size; omega) (.int .i64 10)
        have HSL3 := hide (HSL2.out.own KY0.out (fun i b => by match i with | 0 => simp | 1 => simp | 2 => simp | 3 => simp | n + 4 => simp) (only_setCell (only_refl _ (some wl.heap.size)) (p := ⟨wl.heap.size, 1, none⟩) (Or.inl rfl) (.int .i64 10)))
        generalize wy.setCell ⟨wl.heap.size, 1, none⟩ (.int .i64 10) = wz at *
        replace K_x := hide K_x
        replace K_r := hide K_r
        replace K_y := hide K_y
        replace HB := hide HB
        clear KY0
        have y0 := (Blk.cell K_y.out 0).trans (rfl : _ = some (Value.int .i64 0))
        have y1 := (Blk.cell K_y.out 1).trans (rfl : _ = some (Value.int .i64 10))
        have y2 := (Blk.cell K_y.out 2).trans (rfl : _ = some (Value.slice A9 N9 c9))
        have y3 := (Blk.cell K_y.out 3).trans (rfl : _ = some (Value.int .i64 0))
        have r0 := (Blk.cell K_r.out 0).trans (rfl : _ = some (Value.int .i64 0))
        have rf0 := Blk.frozen K_r.out 0
        have r1 := (Blk.cell K_r.out 1).trans (rfl : _ = some (Value.int .i64 0))
        have rf1 := Blk.frozen K_r.out 1
        have r2 := (Blk.cell K_r.out 2).trans (rfl : _ = some (Value.slice none 0 0))
        have rf2 := Blk.frozen K_r.out 2
        have r3 := (Blk.cell K_r.out 3).trans (rfl : _ = some (Value.int .i64 0))
        have rf3 := Blk.frozen K_r.out 3
        go_wp2_with fail
        have rc0 := (Blk.cell ((((K_r.out.set_ 0 (.int .i64 2)).set_ 1 (.int .i64 0)).set_ 2 (.slice none 0 0)).set_ 3 (.int .i64 0)) 0).trans (rfl : _ = some (Value.int .i64 2))
        have rc1 := (Blk.cell ((((K_r.out.set_ 0 (.int .i64 2)).set_ 1 (.int .i64 0)).set_ 2 (.slice none 0 0)).set_ 3 (.int .i64 0)) 1).trans (rfl : _ = some (Value.int .i64 0))
        have rc2 := (Blk.cell ((((K_r.out.set_ 0 (.int .i64 2)).set_ 1 (.int .i64 0)).set_ 2 (.slice none 0 0)).set_ 3 (.int .i64 0)) 2).trans (rfl : _ = some (Value.slice none 0 0))
        have rc3 := (Blk.cell ((((K_r.out.set_ 0 (.int .i64 2)).set_ 1 (.int .i64 0)).set_ 2 (.slice none 0 0)).set_ 3 (.int .i64 0)) 3).trans (rfl : _ = some (Value.int .i64 0))
        exact bodyPost_ret (v := .agg #[.int .i64 2, .int .i64 0, .slice none 0 0, .int .i64 0]) (by simp [results, Tryz.results59, go_sem, rc0, rc1, rc2, rc3]) rfl ⟨_, rfl, StN.begun _ _ 2, ((((HB.out.setCell (p := ⟨(w.heap.size + 1), 0, none⟩) (by show w.heap.size ≤ (w.heap.size + 1); omega) (.int .i64 2)).setCell (p := ⟨(w.heap.size + 1), 1, none⟩) (by show w.heap.size ≤ (w.heap.size + 1); omega) (.int .i64 0)).setCell (p := ⟨(w.heap.size + 1), 2, none⟩) (by show w.heap.size ≤ (w.heap.size + 1); omega) (.slice none 0 0)).setCell (p := ⟨(w.heap.size + 1), 3, none⟩) (by show w.heap.size ≤ (w.heap.size + 1); omega) (.int .i64 0))⟩
      · have hr : goesS ⟨0, rn, l, 0⟩ true = ⟨0, rn + 1, lastB l true, 0⟩ := by
          unfold goesS
          rw [if_pos rfl, if_neg (by simp)]
          simp only [if_true]
          rw [if_neg (by omega)]
        rw [hr]
        clear hr
        have hwr : IntKind.i64.wrap ((rn : Int) + 1) = ((rn + 1 : Nat) : Int) := (IntWalk.i64_in _ (by omega)).trans (by omega)
        obtain ⟨rq, hrq⟩ : ∃ z, rn + 1 = z := ⟨_, rfl⟩
        rw [hrq] at hwr ht
        have HR1 := hide hrq
        rw [hrq]
        have htn : ((rq : Int) == 10) = false := by simp; omega
        clear hrq
        clear HJ
        clear h1
        have HB := allocs_below w [.cells #[.int .i64 0, .int .i64 (rn : Int), .slice A N c, .int .i64 0] 34, .cells #[.int .i64 0, .int .i64 0, .slice none 0 0, .int .i64 0] 34]
        have K_x : Blk (allocs w [.cells #[.int .i64 0, .int .i64 (rn : Int), .slice A N c, .int .i64 0] 34, .cells #[.int .i64 0, .int .i64 0, .slice none 0 0, .int .i64 0] 34]) (w.heap.size + 0) 34 #[.int .i64 0, .int .i64 (rn : Int), .slice A N c, .int .i64 0] := allocs_at w [.cells #[.int .i64 0, .int .i64 (rn : Int), .slice A N c, .int .i64 0] 34, .cells #[.int .i64 0, .int .i64 0, .slice none 0 0, .int .i64 0] 34] 0 rfl
        have K_r : Blk (allocs w [.cells #[.int .i64 0, .int .i64 (rn : Int), .slice A N c, .int .i64 0] 34, .cells #[.int .i64 0, .int .i64 0, .slice none 0 0, .int .i64 0] 34]) (w.heap.size + 1) 34 #[.int .i64 0, .int .i64 0, .slice none 0 0, .int .i64 0] := allocs_at w [.cells #[.int .i64 0, .int .i64 (rn : Int), .slice A N c, .int .i64 0] 34, .cells #[.int .i64 0, .int .i64 0, .slice none 0 0, .int .i64 0] 34] 1 rfl
        unfold allocs at HB K_x K_r
        simp only [List.foldl_cons, List.foldl_nil] at HB K_x K_r
        rw [Nat.add_zero] at K_x
        go_enter Tryz.func59, Tryz.ntmps59
        go_upto_region 1 with (fail)
        generalize ((w.alloc (.cells #[.int .i64 0, .int .i64 (rn : Int), .slice A N c, .int .i64 0] 34)).alloc (.cells #[.int .i64 0, .int .i64 0, .slice none 0 0, .int .i64 0] 34)) = w0 at *
        replace K_x := hide K_x
        replace K_r := hide K_r
        replace HB := hide HB
        have x0 := (Blk.cell K_x.out 0).trans (rfl : _ = some (Value.int .i64 0))
        have x1 := (Blk.cell K_x.out 1).trans (rfl : _ = some (Value.int .i64 (rn : Int)))
        have x2 := (Blk.cell K_x.out 2).trans (rfl : _ = some (Value.slice A N c))
        have x3 := (Blk.cell K_x.out 3).trans (rfl : _ = some (Value.int .i64 0))
        go_wp2_with fail
        refine (HL.out _ true (HV.out.below HB.out)).mono ?_
        rintro e wl ⟨u, rfl, hsl, hfr, hb⟩
        obtain ⟨A9, N9, c9, rfl⟩ := hsl.shape3
        have HSL := hide hsl
        have HFR := hide (hfr.mono HB.out.size)
        clear hsl hfr
        clear x0 x1 x2 x3
        replace K_x := hide (Blk.below K_x.out hb (Blk.lt K_x.out))
        replace K_r := hide (Blk.below K_r.out hb (Blk.lt K_r.out))
        replace HB := hide (HB.out.trans (hb.mono HB.out.size))
        clear hb
        go_upto_region 6 with (fail)
        have hbs_y : w.heap.size ≤ wl.heap.size := HB.out.size
        have lt_y_x : w.heap.size < wl.heap.size := Blk.lt K_x.out
        have lt_y_r : (w.heap.size + 1) < wl.heap.size := Blk.lt K_r.out
        replace K_x := K_x.out.alloc (.cells #[.int .i64 0, .int .i64 0, .slice A9 N9 c9, .int .i64 0] 34)
        replace K_r := K_r.out.alloc (.cells #[.int .i64 0, .int .i64 0, .slice A9 N9 c9, .int .i64 0] 34)
        replace HB := HB.out.alloc HB.out.size (.cells #[.int .i64 0, .int .i64 0, .slice A9 N9 c9, .int .i64 0] 34)
        have K_y := Blk.new wl 34 #[.int .i64 0, .int .i64 0, .slice A9 N9 c9, .int .i64 0]
        have HSL2 := hide (HSL.out.below ((Below.refl wl.heap.size wl).alloc (Nat.le_refl _) (.cells #[.int .i64 0, .int .i64 0, .slice A9 N9 c9, .int .i64 0] 34)))
        generalize wl.alloc (.cells #[.int .i64 0, .int .i64 0, .slice A9 N9 c9, .int .i64 0] 34) = wy at *
        replace K_x := hide K_x
        replace K_r := hide K_r
        replace K_y := hide K_y
        replace HB := hide HB
        have x0 := (Blk.cell K_x.out 0).trans (rfl : _ = some (Value.int .i64 0))
        have x1 := (Blk.cell K_x.out 1).trans (rfl : _ = some (Value.int .i64 (rn : Int)))
        have x2 := (Blk.cell K_x.out 2).trans (rfl : _ = some (Value.slice A N c))
        have x3 := (Blk.cell K_x.out 3).trans (rfl : _ = some (Value.int .i64 0))
        have y0 := (Blk.cell K_y.out 0).trans (rfl : _ = some (Value.int .i64 0))
        have y1 := (Blk.cell K_y.out 1).trans (rfl : _ = some (Value.int .i64 0))
        have y2 := (Blk.cell K_y.out 2).trans (rfl : _ = some (Value.slice A9 N9 c9))
        have y3 := (Blk.cell K_y.out 3).trans (rfl : _ = some (Value.int .i64 0))
        have yf1 := Blk.frozen K_y.out 1
        have KY0 := K_y
        go_upto_region 8 with (fail)
        clear x0 x1 x2 x3 y0 y1 y2 y3 yf1
        replace K_x := K_x.out.far (p := ⟨wl.heap.size, 1, none⟩) (by show w.heap.size ≠ wl.heap.size; omega) (.int .i64 (rq : Int))
        replace K_r := K_r.out.far (p := ⟨wl.heap.size, 1, none⟩) (by show (w.heap.size + 1) ≠ wl.heap.size; omega) (.int .i64 (rq : Int))
        replace K_y : Blk (wy.setCell ⟨wl.heap.size, 1, none⟩ (.int .i64 (rq : Int))) wl.heap.size 34 #[.int .i64 0, .int .i64 (rq : Int), .slice A9 N9 c9, .int .i64 0] := K_y.out.set_ 1 (.int .i64 (rq : Int))
        replace HB := HB.out.setCell (p := ⟨wl.heap.size, 1, none⟩) (by show w.heap.size ≤ wl.heap.size; omega) (.int .i64 (rq : Int))
        have HSL3 := hide (HSL2.out.own KY0.out (fun i b => by match i with | 0 => simp | 1 => simp | 2 => simp | 3 => simp | n + 4 => simp) (only_setCell (only_refl _ (some wl.heap.size)) (p := ⟨wl.heap.size, 1, none⟩) (Or.inl rfl) (.int .i64 (rq : Int))))
        generalize wy.setCell ⟨wl.heap.size, 1, none⟩ (.int .i64 (rq : Int)) = wz at *
        replace K_x := hide K_x
        replace K_r := hide K_r
        replace K_y := hide K_y
        replace HB := hide HB
        clear KY0
        have y0 := (Blk.cell K_y.out 0).trans (rfl : _ = some (Value.int .i64 0))
        have y1 := (Blk.cell K_y.out 1).trans (rfl : _ = some (Value.int .i64 (rq : Int)))
        have y2 := (Blk.cell K_y.out 2).trans (rfl : _ = some (Value.slice A9 N9 c9))
        have y3 := (Blk.cell K_y.out 3).trans (rfl : _ = some (Value.int .i64 0))
        have r0 := (Blk.cell K_r.out 0).trans (rfl : _ = some (Value.int .i64 0))
        have rf0 := Blk.frozen K_r.out 0
        have r1 := (Blk.cell K_r.out 1).trans (rfl : _ = some (Value.int .i64 0))
        have rf1 := Blk.frozen K_r.out 1
        have r2 := (Blk.cell K_r.out 2).trans (rfl : _ = some (Value.slice none 0 0))
        have rf2 := Blk.frozen K_r.out 2
        have r3 := (Blk.cell K_r.out 3).trans (rfl : _ = some (Value.int .i64 0))
        have rf3 := Blk.frozen K_r.out 3
        go_wp2_with fail
        have rc0 := (Blk.cell ((((K_r.out.set_ 0 (.int .i64 0)).set_ 1 (.int .i64 (rq : Int))).set_ 2 (.slice A9 N9 c9)).set_ 3 (.int .i64 0)) 0).trans (rfl : _ = some (Value.int .i64 0))
        have rc1 := (Blk.cell ((((K_r.out.set_ 0 (.int .i64 0)).set_ 1 (.int .i64 (rq : Int))).set_ 2 (.slice A9 N9 c9)).set_ 3 (.int .i64 0)) 1).trans (rfl : _ = some (Value.int .i64 (rq : Int)))
        have rc2 := (Blk.cell ((((K_r.out.set_ 0 (.int .i64 0)).set_ 1 (.int .i64 (rq : Int))).set_ 2 (.slice A9 N9 c9)).set_ 3 (.int .i64 0)) 2).trans (rfl : _ = some (Value.slice A9 N9 c9))
        have rc3 := (Blk.cell ((((K_r.out.set_ 0 (.int .i64 0)).set_ 1 (.int .i64 (rq : Int))).set_ 2 (.slice A9 N9 c9)).set_ 3 (.int .i64 0)) 3).trans (rfl : _ = some (Value.int .i64 0))
        exact bodyPost_ret (v := .agg #[.int .i64 0, .int .i64 (rq : Int), .slice A9 N9 c9, .int .i64 0]) (by simp [results, Tryz.results59, go_sem, rc0, rc1, rc2, rc3]) rfl ⟨_, rfl, ⟨_, rfl, HSL3.out.own K_r.out zs_nobool (only_setCell (only_setCell (only_setCell (only_setCell (only_refl _ (some ((w.heap.size + 1)))) (p := ⟨(w.heap.size + 1), 0, none⟩) (Or.inl rfl) _) (p := ⟨(w.heap.size + 1), 1, none⟩) (Or.inl rfl) _) (p := ⟨(w.heap.size + 1), 2, none⟩) (Or.inl rfl) _) (p := ⟨(w.heap.size + 1), 3, none⟩) (Or.inl rfl) _), HFR.out⟩, ((((HB.out.setCell (p := ⟨(w.heap.size + 1), 0, none⟩) (by show w.heap.size ≤ (w.heap.size + 1); omega) (.int .i64 0)).setCell (p := ⟨(w.heap.size + 1), 1, none⟩) (by show w.heap.size ≤ (w.heap.size + 1); omega) (.int .i64 (rq : Int))).setCell (p := ⟨(w.heap.size + 1), 2, none⟩) (by show w.heap.size ≤ (w.heap.size + 1); omega) (.slice A9 N9 c9)).setCell (p := ⟨(w.heap.size + 1), 3, none⟩) (by show w.heap.size ≤ (w.heap.size + 1); omega) (.int .i64 0))⟩
  · clear hx
    show Calls Tryz.prog 59 #[.agg #[.int .i64 1, .int .i64 (rn : Int), .slice A N c, .int .i64 (d : Int)], .bool ok] w _
    cases ok with
    | false =>
      by_cases hk : d = 4
      · have hr : goesS ⟨1, rn, [], d⟩ false = swB 3 := by
          unfold goesS
          rw [if_neg (by simp), if_pos rfl]
          simp only [Bool.false_eq_true, if_false]
          rw [if_pos hk]
        rw [hr]
        clear hr
        subst hk
        clear h1 h2
        have HB := allocs_below w [.cells #[.int .i64 1, .int .i64 (rn : Int), .slice A N c, .int .i64 4] 34, .cells #[.int .i64 0, .int .i64 0, .slice none 0 0, .int .i64 0] 34]
        have K_x : Blk (allocs w [.cells #[.int .i64 1, .int .i64 (rn : Int), .slice A N c, .int .i64 4] 34, .cells #[.int .i64 0, .int .i64 0, .slice none 0 0, .int .i64 0] 34]) (w.heap.size + 0) 34 #[.int .i64 1, .int .i64 (rn : Int), .slice A N c, .int .i64 4] := allocs_at w [.cells #[.int .i64 1, .int .i64 (rn : Int), .slice A N c, .int .i64 4] 34, .cells #[.int .i64 0, .int .i64 0, .slice none 0 0, .int .i64 0] 34] 0 rfl
        have K_r : Blk (allocs w [.cells #[.int .i64 1, .int .i64 (rn : Int), .slice A N c, .int .i64 4] 34, .cells #[.int .i64 0, .int .i64 0, .slice none 0 0, .int .i64 0] 34]) (w.heap.size + 1) 34 #[.int .i64 0, .int .i64 0, .slice none 0 0, .int .i64 0] := allocs_at w [.cells #[.int .i64 1, .int .i64 (rn : Int), .slice A N c, .int .i64 4] 34, .cells #[.int .i64 0, .int .i64 0, .slice none 0 0, .int .i64 0] 34] 1 rfl
        unfold allocs at HB K_x K_r
        simp only [List.foldl_cons, List.foldl_nil] at HB K_x K_r
        rw [Nat.add_zero] at K_x
        go_enter Tryz.func59, Tryz.ntmps59
        go_upto_region 1 with (fail)
        generalize ((w.alloc (.cells #[.int .i64 1, .int .i64 (rn : Int), .slice A N c, .int .i64 4] 34)).alloc (.cells #[.int .i64 0, .int .i64 0, .slice none 0 0, .int .i64 0] 34)) = w0 at *
        replace K_x := hide K_x
        replace K_r := hide K_r
        replace HB := hide HB
        have x0 := (Blk.cell K_x.out 0).trans (rfl : _ = some (Value.int .i64 1))
        have x1 := (Blk.cell K_x.out 1).trans (rfl : _ = some (Value.int .i64 (rn : Int)))
        have x2 := (Blk.cell K_x.out 2).trans (rfl : _ = some (Value.slice A N c))
        have x3 := (Blk.cell K_x.out 3).trans (rfl : _ = some (Value.int .i64 4))
        have r0 := (Blk.cell K_r.out 0).trans (rfl : _ = some (Value.int .i64 0))
        have rf0 := Blk.frozen K_r.out 0
        have r1 := (Blk.cell K_r.out 1).trans (rfl : _ = some (Value.int .i64 0))
        have rf1 := Blk.frozen K_r.out 1
        have r2 := (Blk.cell K_r.out 2).trans (rfl : _ = some (Value.slice none 0 0))
        have rf2 := Blk.frozen K_r.out 2
        have r3 := (Blk.cell K_r.out 3).trans (rfl : _ = some (Value.int .i64 0))
        have rf3 := Blk.frozen K_r.out 3
        go_wp2_with fail
        have rc0 := (Blk.cell ((((K_r.out.set_ 0 (.int .i64 3)).set_ 1 (.int .i64 0)).set_ 2 (.slice none 0 0)).set_ 3 (.int .i64 0)) 0).trans (rfl : _ = some (Value.int .i64 3))
        have rc1 := (Blk.cell ((((K_r.out.set_ 0 (.int .i64 3)).set_ 1 (.int .i64 0)).set_ 2 (.slice none 0 0)).set_ 3 (.int .i64 0)) 1).trans (rfl : _ = some (Value.int .i64 0))
        have rc2 := (Blk.cell ((((K_r.out.set_ 0 (.int .i64 3)).set_ 1 (.int .i64 0)).set_ 2 (.slice none 0 0)).set_ 3 (.int .i64 0)) 2).trans (rfl : _ = some (Value.slice none 0 0))
        have rc3 := (Blk.cell ((((K_r.out.set_ 0 (.int .i64 3)).set_ 1 (.int .i64 0)).set_ 2 (.slice none 0 0)).set_ 3 (.int .i64 0)) 3).trans (rfl : _ = some (Value.int .i64 0))
        exact bodyPost_ret (v := .agg #[.int .i64 3, .int .i64 0, .slice none 0 0, .int .i64 0]) (by simp [results, Tryz.results59, go_sem, rc0, rc1, rc2, rc3]) rfl ⟨_, rfl, StN.begun _ _ 3, ((((HB.out.setCell (p := ⟨(w.heap.size + 1), 0, none⟩) (by show w.heap.size ≤ (w.heap.size + 1); omega) (.int .i64 3)).setCell (p := ⟨(w.heap.size + 1), 1, none⟩) (by show w.heap.size ≤ (w.heap.size + 1); omega) (.int .i64 0)).setCell (p := ⟨(w.heap.size + 1), 2, none⟩) (by show w.heap.size ≤ (w.heap.size + 1); omega) (.slice none 0 0)).setCell (p := ⟨(w.heap.size + 1), 3, none⟩) (by show w.heap.size ≤ (w.heap.size + 1); omega) (.int .i64 0))⟩
      · have hr : goesS ⟨1, rn, [], d⟩ false = ⟨1, 0, [], d + 1⟩ := by
          unfold goesS
          rw [if_neg (by simp), if_pos rfl]
          simp only [Bool.false_eq_true, if_false]
          rw [if_neg hk]
        rw [hr]
        clear hr
        have hk4 : ((d : Int) == 4) = false := by simp; omega
        have hwk : IntKind.i64.wrap ((d : Int) + 1) = ((d + 1 : Nat) : Int) := (IntWalk.i64_in _ (by omega)).trans (by omega)
        obtain ⟨k1, hk1⟩ : ∃ z, d + 1 = z := ⟨_, rfl⟩
        rw [hk1] at hwk ⊢
        have HK1 := hide hk1
        clear hk1
        clear h1 h2
        have HB := allocs_below w [.cells #[.int .i64 1, .int .i64 (rn : Int), .slice A N c, .int .i64 (d : Int)] 34, .cells #[.int .i64 0, .int .i64 0, .slice none 0 0, .int .i64 0] 34]
        have K_x : Blk (allocs w [.cells #[.int .i64 1, .int .i64 (rn : Int), .slice A N c, .int .i64 (d : Int)] 34, .cells #[.int .i64 0, .int .i64 0, .slice none 0 0, .int .i64 0] 34]) (w.heap.size + 0) 34 #[.int .i64 1, .int .i64 (rn : Int), .slice A N c, .int .i64 (d : Int)] := allocs_at w [.cells #[.int .i64 1, .int .i64 (rn : Int), .slice A N c, .int .i64 (d : Int)] 34, .cells #[.int .i64 0, .int .i64 0, .slice none 0 0, .int .i64 0] 34] 0 rfl
        have K_r : Blk (allocs w [.cells #[.int .i64 1, .int .i64 (rn : Int), .slice A N c, .int .i64 (d : Int)] 34, .cells #[.int .i64 0, .int .i64 0, .slice none 0 0, .int .i64 0] 34]) (w.heap.size + 1) 34 #[.int .i64 0, .int .i64 0, .slice none 0 0, .int .i64 0] := allocs_at w [.cells #[.int .i64 1, .int .i64 (rn : Int), .slice A N c, .int .i64 (d : Int)] 34, .cells #[.int .i64 0, .int .i64 0, .slice none 0 0, .int .i64 0] 34] 1 rfl
        unfold allocs at HB K_x K_r
        simp only [List.foldl_cons, List.foldl_nil] at HB K_x K_r
        rw [Nat.add_zero] at K_x
        go_enter Tryz.func59, Tryz.ntmps59
        go_upto_region 1 with (fail)
        generalize ((w.alloc (.cells #[.int .i64 1, .int .i64 (rn : Int), .slice A N c, .int .i64 (d : Int)] 34)).alloc (.cells #[.int .i64 0, .int .i64 0, .slice none 0 0, .int .i64 0] 34)) = w0 at *
        replace K_x := hide K_x
        replace K_r := hide K_r
        replace HB := hide HB
        have x0 := (Blk.cell K_x.out 0).trans (rfl : _ = some (Value.int .i64 1))
        have x1 := (Blk.cell K_x.out 1).trans (rfl : _ = some (Value.int .i64 (rn : Int)))
        have x2 := (Blk.cell K_x.out 2).trans (rfl : _ = some (Value.slice A N c))
        have x3 := (Blk.cell K_x.out 3).trans (rfl : _ = some (Value.int .i64 (d : Int)))
        have r0 := (Blk.cell K_r.out 0).trans (rfl : _ = some (Value.int .i64 0))
        have rf0 := Blk.frozen K_r.out 0
        have r1 := (Blk.cell K_r.out 1).trans (rfl : _ = some (Value.int .i64 0))
        have rf1 := Blk.frozen K_r.out 1
        have r2 := (Blk.cell K_r.out 2).trans (rfl : _ = some (Value.slice none 0 0))
        have rf2 := Blk.frozen K_r.out 2
        have r3 := (Blk.cell K_r.out 3).trans (rfl : _ = some (Value.int .i64 0))
        have rf3 := Blk.frozen K_r.out 3
        go_wp2_with fail
        have rc0 := (Blk.cell ((((K_r.out.set_ 0 (.int .i64 1)).set_ 1 (.int .i64 0)).set_ 2 (.slice none 0 0)).set_ 3 (.int .i64 (k1 : Int))) 0).trans (rfl : _ = some (Value.int .i64 1))
        have rc1 := (Blk.cell ((((K_r.out.set_ 0 (.int .i64 1)).set_ 1 (.int .i64 0)).set_ 2 (.slice none 0 0)).set_ 3 (.int .i64 (k1 : Int))) 1).trans (rfl : _ = some (Value.int .i64 0))
        have rc2 := (Blk.cell ((((K_r.out.set_ 0 (.int .i64 1)).set_ 1 (.int .i64 0)).set_ 2 (.slice none 0 0)).set_ 3 (.int .i64 (k1 : Int))) 2).trans (rfl : _ = some (Value.slice none 0 0))
        have rc3 := (Blk.cell ((((K_r.out.set_ 0 (.int .i64 1)).set_ 1 (.int .i64 0)).set_ 2 (.slice none 0 0)).set_ 3 (.int .i64 (k1 : Int))) 3).trans (rfl : _ = some (Value.int .i64 (k1 : Int)))
        exact bodyPost_ret (v := .agg #[.int .i64 1, .int .i64 0, .slice none 0 0, .int .i64 (k1 : Int)]) (by simp [results, Tryz.results59, go_sem, rc0, rc1, rc2, rc3]) rfl ⟨_, rfl, ⟨_, rfl, SlL.nil _, FrV.zero _ _ _⟩, ((((HB.out.setCell (p := ⟨(w.heap.size + 1), 0, none⟩) (by show w.heap.size ≤ (w.heap.size + 1); omega) (.int .i64 1)).setCell (p := ⟨(w.heap.size + 1), 1, none⟩) (by show w.heap.size ≤ (w.heap.size + 1); omega) (.int .i64 0)).setCell (p := ⟨(w.heap.size + 1), 2, none⟩) (by show w.heap.size ≤ (w.heap.size + 1); omega) (.slice none 0 0)).setCell (p := ⟨(w.heap.size + 1), 3, none⟩) (by show w.heap.size ≤ (w.heap.size + 1); omega) (.int .i64 (k1 : Int)))⟩
    | true =>
      by_cases hk : rn = 4
      · have hr : goesS ⟨1, rn, [], d⟩ true = swB 0 := by
          unfold goesS
          rw [if_neg (by simp), if_pos rfl]
          simp only [if_true]
          rw [if_pos hk]
        rw [hr]
        clear hr
        subst hk
        clear h1 h2
        have HB := allocs_below w [.cells #[.int .i64 1, .int .i64 4, .slice A N c, .int .i64 (d : Int)] 34, .cells #[.int .i64 0, .int .i64 0, .slice none 0 0, .int .i64 0] 34]
        have K_x : Blk (allocs w [.cells #[.int .i64 1, .int .i64 4, .slice A N c, .int .i64 (d : Int)] 34, .cells #[.int .i64 0, .int .i64 0, .slice none 0 0, .int .i64 0] 34]) (w.heap.size + 0) 34 #[.int .i64 1, .int .i64 4, .slice A N c, .int .i64 (d : Int)] := allocs_at w [.cells #[.int .i64 1, .int .i64 4, .slice A N c, .int .i64 (d : Int)] 34, .cells #[.int .i64 0, .int .i64 0, .slice none 0 0, .int .i64 0] 34] 0 rfl
        have K_r : Blk (allocs w [.cells #[.int .i64 1, .int .i64 4, .slice A N c, .int .i64 (d : Int)] 34, .cells #[.int .i64 0, .int .i64 0, .slice none 0 0, .int .i64 0] 34]) (w.heap.size + 1) 34 #[.int .i64 0, .int .i64 0, .slice none 0 0, .int .i64 0] := allocs_at w [.cells #[.int .i64 1, .int .i64 4, .slice A N c, .int .i64 (d : Int)] 34, .cells #[.int .i64 0, .int .i64 0, .slice none 0 0, .int .i64 0] 34] 1 rfl
        unfold allocs at HB K_x K_r
        simp only [List.foldl_cons, List.foldl_nil] at HB K_x K_r
        rw [Nat.add_zero] at K_x
        go_enter Tryz.func59, Tryz.ntmps59
        go_upto_region 1 with (fail)
        generalize ((w.alloc (.cells #[.int .i64 1, .int .i64 4, .slice A N c, .int .i64 (d : Int)] 34)).alloc (.cells #[.int .i64 0, .int .i64 0, .slice none 0 0, .int .i64 0] 34)) = w0 at *
        replace K_x := hide K_x
        replace K_r := hide K_r
        replace HB := hide HB
        have x0 := (Blk.cell K_x.out 0).trans (rfl : _ = some (Value.int .i64 1))
        have x1 := (Blk.cell K_x.out 1).trans (rfl : _ = some (Value.int .i64 4))
        have x2 := (Blk.cell K_x.out 2).trans (rfl : _ = some (Value.slice A N c))
        have x3 := (Blk.cell K_x.out 3).trans (rfl : _ = some (Value.int .i64 (d : Int)))
        have r0 := (Blk.cell K_r.out 0).trans (rfl : _ = some (Value.int .i64 0))
        have rf0 := Blk.frozen K_r.out 0
        have r1 := (Blk.cell K_r.out 1).trans (rfl : _ = some (Value.int .i64 0))
        have rf1 := Blk.frozen K_r.out 1
        have r2 := (Blk.cell K_r.out 2).trans (rfl : _ = some (Value.slice none 0 0))
        have rf2 := Blk.frozen K_r.out 2
        have r3 := (Blk.cell K_r.out 3).trans (rfl : _ = some (Value.int .i64 0))
        have rf3 := Blk.frozen K_r.out 3
        go_wp2_with fail
        have rc0 := (Blk.cell ((((K_r.out.set_ 0 (.int .i64 0)).set_ 1 (.int .i64 0)).set_ 2 (.slice none 0 0)).set_ 3 (.int .i64 0)) 0).trans (rfl : _ = some (Value.int .i64 0))
        have rc1 := (Blk.cell ((((K_r.out.set_ 0 (.int .i64 0)).set_ 1 (.int .i64 0)).set_ 2 (.slice none 0 0)).set_ 3 (.int .i64 0)) 1).trans (rfl : _ = some (Value.int .i64 0))
        have rc2 := (Blk.cell ((((K_r.out.set_ 0 (.int .i64 0)).set_ 1 (.int .i64 0)).set_ 2 (.slice none 0 0)).set_ 3 (.int .i64 0)) 2).trans (rfl : _ = some (Value.slice none 0 0))
        have rc3 := (Blk.cell ((((K_r.out.set_ 0 (.int .i64 0)).set_ 1 (.int .i64 0)).set_ 2 (.slice none 0 0)).set_ 3 (.int .i64 0)) 3).trans (rfl : _ = some (Value.int .i64 0))
        exact bodyPost_ret (v := .agg #[.int .i64 0, .int .i64 0, .slice none 0 0, .int .i64 0]) (by simp [results, Tryz.results59, go_sem, rc0, rc1, rc2, rc3]) rfl ⟨_, rfl, StN.begun _ _ 0, ((((HB.out.setCell (p := ⟨(w.heap.size + 1), 0, none⟩) (by show w.heap.size ≤ (w.heap.size + 1); omega) (.int .i64 0)).setCell (p := ⟨(w.heap.size + 1), 1, none⟩) (by show w.heap.size ≤ (w.heap.size + 1); omega) (.int .i64 0)).setCell (p := ⟨(w.heap.size + 1), 2, none⟩) (by show w.heap.size ≤ (w.heap.size + 1); omega) (.slice none 0 0)).setCell (p := ⟨(w.heap.size + 1), 3, none⟩) (by show w.heap.size ≤ (w.heap.size + 1); omega) (.int .i64 0))⟩
      · have hr : goesS ⟨1, rn, [], d⟩ true = ⟨1, rn + 1, [], d⟩ := by
          unfold goesS
          rw [if_neg (by simp), if_pos rfl]
          simp only [if_true]
          rw [if_neg hk]
        rw [hr]
        clear hr
        have hk4 : ((rn : Int) == 4) = false := by simp; omega
        have hwk : IntKind.i64.wrap ((rn : Int) + 1) = ((rn + 1 : Nat) : Int) := (IntWalk.i64_in _ (by omega)).trans (by omega)
        obtain ⟨k1, hk1⟩ : ∃ z, rn + 1 = z := ⟨_, rfl⟩
        rw [hk1] at hwk ⊢
        have HK1 := hide hk1
        clear hk1
        clear h1 h2
        have HB := allocs_below w [.cells #[.int .i64 1, .int .i64 (rn : Int), .slice A N c, .int .i64 (d : Int)] 34, .cells #[.int .i64 0, .int .i64 0, .slice none 0 0, .int .i64 0] 34]
        have K_x : Blk (allocs w [.cells #[.int .i64 1, .int .i64 (rn : Int), .slice A N c, .int .i64 (d : Int)] 34, .cells #[.int .i64 0, .int .i64 0, .slice none 0 0, .int .i64 0] 34]) (w.heap.size + 0) 34 #[.int .i64 1, .int .i64 (rn : Int), .slice A N c, .int .i64 (d : Int)] := allocs_at w [.cells #[.int .i64 1, .int .i64 (rn : Int), .slice A N c, .int .i64 (d : Int)] 34, .cells #[.int .i64 0, .int .i64 0, .slice none 0 0, .int .i64 0] 34] 0 rfl
        have K_r : Blk (allocs w [.cells #[.int .i64 1, .int .i64 (rn : Int), .slice A N c, .int .i64 (d : Int)] 34, .cells #[.int .i64 0, .int .i64 0, .slice none 0 0, .int .i64 0] 34]) (w.heap.size + 1) 34 #[.int .i64 0, .int .i64 0, .slice none 0 0, .int .i64 0] := allocs_at w [.cells #[.int .i64 1, .int .i64 (rn : Int), .slice A N c, .int .i64 (d : Int)] 34, .cells #[.int .i64 0, .int .i64 0, .slice none 0 0, .int .i64 0] 34] 1 rfl
        unfold allocs at HB K_x K_r
        simp only [List.foldl_cons, List.foldl_nil] at HB K_x K_r
        rw [Nat.add_zero] at K_x
        go_enter Tryz.func59, Tryz.ntmps59
        go_upto_region 1 with (fail)
        generalize ((w.alloc (.cells #[.int .i64 1, .int .i64 (rn : Int), .slice A N c, .int .i64 (d : Int)] 34)).alloc (.cells #[.int .i64 0, .int .i64 0, .slice none 0 0, .int .i64 0] 34)) = w0 at *
        replace K_x := hide K_x
        replace K_r := hide K_r
        replace HB := hide HB
        have x0 := (Blk.cell K_x.out 0).trans (rfl : _ = some (Value.int .i64 1))
        have x1 := (Blk.cell K_x.out 1).trans (rfl : _ = some (Value.int .i64 (rn : Int)))
        have x2 := (Blk.cell K_x.out 2).trans (rfl : _ = some (Value.slice A N c))
        have x3 := (Blk.cell K_x.out 3).trans (rfl : _ = some (Value.int .i64 (d : Int)))
        have r0 := (Blk.cell K_r.out 0).trans (rfl : _ = some (Value.int .i64 0))
        have rf0 := Blk.frozen K_r.out 0
        have r1 := (Blk.cell K_r.out 1).trans (rfl : _ = some (Value.int .i64 0))
        have rf1 := Blk.frozen K_r.out 1
        have r2 := (Blk.cell K_r.out 2).trans (rfl : _ = some (Value.slice none 0 0))
        have rf2 := Blk.frozen K_r.out 2
        have r3 := (Blk.cell K_r.out 3).trans (rfl : _ = some (Value.int .i64 0))
        have rf3 := Blk.frozen K_r.out 3
        go_wp2_with fail
        have rc0 := (Blk.cell ((((K_r.out.set_ 0 (.int .i64 1)).set_ 1 (.int .i64 (k1 : Int))).set_ 2 (.slice none 0 0)).set_ 3 (.int .i64 (d : Int))) 0).trans (rfl : _ = some (Value.int .i64 1))
        have rc1 := (Blk.cell ((((K_r.out.set_ 0 (.int .i64 1)).set_ 1 (.int .i64 (k1 : Int))).set_ 2 (.slice none 0 0)).set_ 3 (.int .i64 (d : Int))) 1).trans (rfl : _ = some (Value.int .i64 (k1 : Int)))
        have rc2 := (Blk.cell ((((K_r.out.set_ 0 (.int .i64 1)).set_ 1 (.int .i64 (k1 : Int))).set_ 2 (.slice none 0 0)).set_ 3 (.int .i64 (d : Int))) 2).trans (rfl : _ = some (Value.slice none 0 0))
        have rc3 := (Blk.cell ((((K_r.out.set_ 0 (.int .i64 1)).set_ 1 (.int .i64 (k1 : Int))).set_ 2 (.slice none 0 0)).set_ 3 (.int .i64 (d : Int))) 3).trans (rfl : _ = some (Value.int .i64 (d : Int)))
        exact bodyPost_ret (v := .agg #[.int .i64 1, .int .i64 (k1 : Int), .slice none 0 0, .int .i64 (d : Int)]) (by simp [results, Tryz.results59, go_sem, rc0, rc1, rc2, rc3]) rfl ⟨_, rfl, ⟨_, rfl, SlL.nil _, FrV.zero _ _ _⟩, ((((HB.out.setCell (p := ⟨(w.heap.size + 1), 0, none⟩) (by show w.heap.size ≤ (w.heap.size + 1); omega) (.int .i64 1)).setCell (p := ⟨(w.heap.size + 1), 1, none⟩) (by show w.heap.size ≤ (w.heap.size + 1); omega) (.int .i64 (k1 : Int))).setCell (p := ⟨(w.heap.size + 1), 2, none⟩) (by show w.heap.size ≤ (w.heap.size + 1); omega) (.slice none 0 0)).setCell (p := ⟨(w.heap.size + 1), 3, none⟩) (by show w.heap.size ≤ (w.heap.size + 1); omega) (.int .i64 (d : Int)))⟩
  · clear hx
    show Calls Tryz.prog 59 #[.agg #[.int .i64 2, .int .i64 0, .slice A N c, .int .i64 0], .bool ok] w _
    cases ok with
    | false =>
      have hr : goesS (swB 2) false = swB 0 := rfl
      rw [hr]
      clear hr
      have HB := allocs_below w [.cells #[.int .i64 2, .int .i64 0, .slice A N c, .int .i64 0] 34, .cells #[.int .i64 0, .int .i64 0, .slice none 0 0, .int .i64 0] 34]
      have K_x : Blk (allocs w [.cells #[.int .i64 2, .int .i64 0, .slice A N c, .int .i64 0] 34, .cells #[.int .i64 0, .int .i64 0, .slice none 0 0, .int .i64 0] 34]) (w.heap.size + 0) 34 #[.int .i64 2, .int .i64 0, .slice A N c, .int .i64 0] := allocs_at w [.cells #[.int .i64 2, .int .i64 0, .slice A N c, .int .i64 0] 34, .cells #[.int .i64 0, .int .i64 0, .slice none 0 0, .int .i64 0] 34] 0 rfl
      have K_r : Blk (allocs w [.cells #[.int .i64 2, .int .i64 0, .slice A N c, .int .i64 0] 34, .cells #[.int .i64 0, .int .i64 0, .slice none 0 0, .int .i64 0] 34]) (w.heap.size + 1) 34 #[.int .i64 0, .int .i64 0, .slice none 0 0, .int .i64 0] := allocs_at w [.cells #[.int .i64 2, .int .i64 0, .slice A N c, .int .i64 0] 34, .cells #[.int .i64 0, .int .i64 0, .slice none 0 0, .int .i64 0] 34] 1 rfl
      unfold allocs at HB K_x K_r
      simp only [List.foldl_cons, List.foldl_nil] at HB K_x K_r
      rw [Nat.add_zero] at K_x
      go_enter Tryz.func59, Tryz.ntmps59
      go_upto_region 1 with (fail)
      generalize ((w.alloc (.cells #[.int .i64 2, .int .i64 0, .slice A N c, .int .i64 0] 34)).alloc (.cells #[.int .i64 0, .int .i64 0, .slice none 0 0, .int .i64 0] 34)) = w0 at *
      replace K_x := hide K_x
      replace K_r := hide K_r
      replace HB := hide HB
      have x0 := (Blk.cell K_x.out 0).trans (rfl : _ = some (Value.int .i64 2))
      have x1 := (Blk.cell K_x.out 1).trans (rfl : _ = some (Value.int .i64 0))
      have x2 := (Blk.cell K_x.out 2).trans (rfl : _ = some (Value.slice A N c))
      have x3 := (Blk.cell K_x.out 3).trans (rfl : _ = some (Value.int .i64 0))
      have r0 := (Blk.cell K_r.out 0).trans (rfl : _ = some (Value.int .i64 0))
      have rf0 := Blk.frozen K_r.out 0
      have r1 := (Blk.cell K_r.out 1).trans (rfl : _ = some (Value.int .i64 0))
      have rf1 := Blk.frozen K_r.out 1
      have r2 := (Blk.cell K_r.out 2).trans (rfl : _ = some (Value.slice none 0 0))
      have rf2 := Blk.frozen K_r.out 2
      have r3 := (Blk.cell K_r.out 3).trans (rfl : _ = some (Value.int .i64 0))
      have rf3 := Blk.frozen K_r.out 3
      go_wp2_with fail
      have rc0 := (Blk.cell ((((K_r.out.set_ 0 (.int .i64 0)).set_ 1 (.int .i64 0)).set_ 2 (.slice none 0 0)).set_ 3 (.int .i64 0)) 0).trans (rfl : _ = some (Value.int .i64 0))
      have rc1 := (Blk.cell ((((K_r.out.set_ 0 (.int .i64 0)).set_ 1 (.int .i64 0)).set_ 2 (.slice none 0 0)).set_ 3 (.int .i64 0)) 1).trans (rfl : _ = some (Value.int .i64 0))
      have rc2 := (Blk.cell ((((K_r.out.set_ 0 (.int .i64 0)).set_ 1 (.int .i64 0)).set_ 2 (.slice none 0 0)).set_ 3 (.int .i64 0)) 2).trans (rfl : _ = some (Value.slice none 0 0))
      have rc3 := (Blk.cell ((((K_r.out.set_ 0 (.int .i64 0)).set_ 1 (.int .i64 0)).set_ 2 (.slice none 0 0)).set_ 3 (.int .i64 0)) 3).trans (rfl : _ = some (Value.int .i64 0))
      exact bodyPost_ret (v := .agg #[.int .i64 0, .int .i64 0, .slice none 0 0, .int .i64 0]) (by simp [results, Tryz.results59, go_sem, rc0, rc1, rc2, rc3]) rfl ⟨_, rfl, StN.begun _ _ 0, ((((HB.out.setCell (p := ⟨(w.heap.size + 1), 0, none⟩) (by show w.heap.size ≤ (w.heap.size + 1); omega) (.int .i64 0)).setCell (p := ⟨(w.heap.size + 1), 1, none⟩) (by show w.heap.size ≤ (w.heap.size + 1); omega) (.int .i64 0)).setCell (p := ⟨(w.heap.size + 1), 2, none⟩) (by show w.heap.size ≤ (w.heap.size + 1); omega) (.slice none 0 0)).setCell (p := ⟨(w.heap.size + 1), 3, none⟩) (by show w.heap.size ≤ (w.heap.size + 1); omega) (.int .i64 0))⟩
    | true =>
      have hr : goesS (swB 2) true = swB 2 := rfl
      rw [hr]
      clear hr
      have hN0 : N = 0 := by obtain ⟨A2, c2, h, _⟩ := HV.out; cases h; rfl
      subst hN0
      have HB := allocs_below w [.cells #[.int .i64 2, .int .i64 0, .slice A 0 c, .int .i64 0] 34, .cells #[.int .i64 0, .int .i64 0, .slice none 0 0, .int .i64 0] 34]
      have K_x : Blk (allocs w [.cells #[.int .i64 2, .int .i64 0, .slice A 0 c, .int .i64 0] 34, .cells #[.int .i64 0, .int .i64 0, .slice none 0 0, .int .i64 0] 34]) (w.heap.size + 0) 34 #[.int .i64 2, .int .i64 0, .slice A 0 c, .int .i64 0] := allocs_at w [.cells #[.int .i64 2, .int .i64 0, .slice A 0 c, .int .i64 0] 34, .cells #[.int .i64 0, .int .i64 0, .slice none 0 0, .int .i64 0] 34] 0 rfl
      have K_r : Blk (allocs w [.cells #[.int .i64 2, .int .i64 0, .slice A 0 c, .int .i64 0] 34, .cells #[.int .i64 0, .int .i64 0, .slice none 0 0, .int .i64 0] 34]) (w.heap.size + 1) 34 #[.int .i64 0, .int .i64 0, .slice none 0 0, .int .i64 0] := allocs_at w [.cells #[.int .i64 2, .int .i64 0, .slice A 0 c, .int .i64 0] 34, .cells #[.int .i64 0, .int .i64 0, .slice none 0 0, .int .i64 0] 34] 1 rfl
      unfold allocs at HB K_x K_r
      simp only [List.foldl_cons, List.foldl_nil] at HB K_x K_r
      rw [Nat.add_zero] at K_x
      go_enter Tryz.func59, Tryz.ntmps59
      go_upto_region 1 with (fail)
      generalize ((w.alloc (.cells #[.int .i64 2, .int .i64 0, .slice A 0 c, .int .i64 0] 34)).alloc (.cells #[.int .i64 0, .int .i64 0, .slice none 0 0, .int .i64 0] 34)) = w0 at *
      replace K_x := hide K_x
      replace K_r := hide K_r
      replace HB := hide HB
      have x0 := (Blk.cell K_x.out 0).trans (rfl : _ = some (Value.int .i64 2))
      have x1 := (Blk.cell K_x.out 1).trans (rfl : _ = some (Value.int .i64 0))
      have x2 := (Blk.cell K_x.out 2).trans (rfl : _ = some (Value.slice A 0 c))
      have x3 := (Blk.cell K_x.out 3).trans (rfl : _ = some (Value.int .i64 0))
      have HVF := hide (HV.out.below HB.out)
      have r0 := (Blk.cell K_r.out 0).trans (rfl : _ = some (Value.int .i64 0))
      have rf0 := Blk.frozen K_r.out 0
      have r1 := (Blk.cell K_r.out 1).trans (rfl : _ = some (Value.int .i64 0))
      have rf1 := Blk.frozen K_r.out 1
      have r2 := (Blk.cell K_r.out 2).trans (rfl : _ = some (Value.slice none 0 0))
      have rf2 := Blk.frozen K_r.out 2
      have r3 := (Blk.cell K_r.out 3).trans (rfl : _ = some (Value.int .i64 0))
      have rf3 := Blk.frozen K_r.out 3
      go_wp2_with fail
      have rc0 := (Blk.cell ((((K_r.out.set_ 0 (.int .i64 2)).set_ 1 (.int .i64 0)).set_ 2 (.slice A 0 c)).set_ 3 (.int .i64 0)) 0).trans (rfl : _ = some (Value.int .i64 2))
      have rc1 := (Blk.cell ((((K_r.out.set_ 0 (.int .i64 2)).set_ 1 (.int .i64 0)).set_ 2 (.slice A 0 c)).set_ 3 (.int .i64 0)) 1).trans (rfl : _ = some (Value.int .i64 0))
      have rc2 := (Blk.cell ((((K_r.out.set_ 0 (.int .i64 2)).set_ 1 (.int .i64 0)).set_ 2 (.slice A 0 c)).set_ 3 (.int .i64 0)) 2).trans (rfl : _ = some (Value.slice A 0 c))
      have rc3 := (Blk.cell ((((K_r.out.set_ 0 (.int .i64 2)).set_ 1 (.int .i64 0)).set_ 2 (.slice A 0 c)).set_ 3 (.int .i64 0)) 3).trans (rfl : _ = some (Value.int .i64 0))
      exact bodyPost_ret (v := .agg #[.int .i64 2, .int .i64 0, .slice A 0 c, .int .i64 0]) (by simp [results, Tryz.results59, go_sem, rc0, rc1, rc2, rc3]) rfl ⟨_, rfl, ⟨_, rfl, HVF.out.own K_r.out zs_nobool (only_setCell (only_setCell (only_setCell (only_setCell (only_refl _ (some ((w.heap.size + 1)))) (p := ⟨(w.heap.size + 1), 0, none⟩) (Or.inl rfl) _) (p := ⟨(w.heap.size + 1), 1, none⟩) (Or.inl rfl) _) (p := ⟨(w.heap.size + 1), 2, none⟩) (Or.inl rfl) _) (p := ⟨(w.heap.size + 1), 3, none⟩) (Or.inl rfl) _), FrV.zero _ _ _⟩, ((((HB.out.setCell (p := ⟨(w.heap.size + 1), 0, none⟩) (by show w.heap.size ≤ (w.heap.size + 1); omega) (.int .i64 2)).setCell (p := ⟨(w.heap.size + 1), 1, none⟩) (by show w.heap.size ≤ (w.heap.size + 1); omega) (.int .i64 0)).setCell (p := ⟨(w.heap.size + 1), 2, none⟩) (by show w.heap.size ≤ (w.heap.size + 1); omega) (.slice A 0 c)).setCell (p := ⟨(w.heap.size + 1), 3, none⟩) (by show w.heap.size ≤ (w.heap.size + 1); omega) (.int .i64 0))⟩
  · clear hx
    show Calls Tryz.prog 59 #[.agg #[.int .i64 3, .int .i64 0, .slice A N c, .int .i64 0], .bool ok] w _
    cases ok with
    | false =>
      have hr : goesS (swB 3) false = swB 3 := rfl
      rw [hr]
      clear hr
      have hN0 : N = 0 := by obtain ⟨A2, c2, h, _⟩ := HV.out; cases h; rfl
      subst hN0
      have HB := allocs_below w [.cells #[.int .i64 3, .int .i64 0, .slice A 0 c, .int .i64 0] 34, .cells #[.int .i64 0, .int .i64 0, .slice none 0 0, .int .i64 0] 34]
      have K_x : Blk (allocs w [.cells #[.int .i64 3, .int .i64 0, .slice A 0 c, .int .i64 0] 34, .cells #[.int .i64 0, .int .i64 0, .slice none 0 0, .int .i64 0] 34]) (w.heap.size + 0) 34 #[.int .i64 3, .int .i64 0, .slice A 0 c, .int .i64 0] := allocs_at w [.cells #[.int .i64 3, .int .i64 0, .slice A 0 c, .int .i64 0] 34, .cells #[.int .i64 0, .int .i64 0, .slice none 0 0, .int .i64 0] 34] 0 rfl
      have K_r : Blk (allocs w [.cells #[.int .i64 3, .int .i64 0, .slice A 0 c, .int .i64 0] 34, .cells #[.int .i64 0, .int .i64 0, .slice none 0 0, .int .i64 0] 34]) (w.heap.size + 1) 34 #[.int .i64 0, .int .i64 0, .slice none 0 0, .int .i64 0] := allocs_at w [.cells #[.int .i64 3, .int .i64 0, .slice A 0 c, .int .i64 0] 34, .cells #[.int .i64 0, .int .i64 0, .slice none 0 0, .int .i64 0] 34] 1 rfl
      unfold allocs at HB K_x K_r
      simp only [List.foldl_cons, List.foldl_nil] at HB K_x K_r
      rw [Nat.add_zero] at K_x
      go_enter Tryz.func59, Tryz.ntmps59
      go_upto_region 1 with (fail)
      generalize ((w.alloc (.cells #[.int .i64 3, .int .i64 0, .slice A 0 c, .int .i64 0] 34)).alloc (.cells #[.int .i64 0, .int .i64 0, .slice none 0 0, .int .i64 0] 34)) = w0 at *
      replace K_x := hide K_x
      replace K_r := hide K_r
      replace HB := hide HB
      have x0 := (Blk.cell K_x.out 0).trans (rfl : _ = some (Value.int .i64 3))
      have x1 := (Blk.cell K_x.out 1).trans (rfl : _ = some (Value.int .i64 0))
      have x2 := (Blk.cell K_x.out 2).trans (rfl : _ = some (Value.slice A 0 c))
      have x3 := (Blk.cell K_x.out 3).trans (rfl : _ = some (Value.int .i64 0))
      have HVF := hide (HV.out.below HB.out)
      have r0 := (Blk.cell K_r.out 0).trans (rfl : _ = some (Value.int .i64 0))
      have rf0 := Blk.frozen K_r.out 0
      have r1 := (Blk.cell K_r.out 1).trans (rfl : _ = some (Value.int .i64 0))
      have rf1 := Blk.frozen K_r.out 1
      have r2 := (Blk.cell K_r.out 2).trans (rfl : _ = some (Value.slice none 0 0))
      have rf2 := Blk.frozen K_r.out 2
      have r3 := (Blk.cell K_r.out 3).trans (rfl : _ = some (Value.int .i64 0))
      have rf3 := Blk.frozen K_r.out 3
      go_wp2_with fail
      have rc0 := (Blk.cell ((((K_r.out.set_ 0 (.int .i64 3)).set_ 1 (.int .i64 0)).set_ 2 (.slice A 0 c)).set_ 3 (.int .i64 0)) 0).trans (rfl : _ = some (Value.int .i64 3))
      have rc1 := (Blk.cell ((((K_r.out.set_ 0 (.int .i64 3)).set_ 1 (.int .i64 0)).set_ 2 (.slice A 0 c)).set_ 3 (.int .i64 0)) 1).trans (rfl : _ = some (Value.int .i64 0))
      have rc2 := (Blk.cell ((((K_r.out.set_ 0 (.int .i64 3)).set_ 1 (.int .i64 0)).set_ 2 (.slice A 0 c)).set_ 3 (.int .i64 0)) 2).trans (rfl : _ = some (Value.slice A 0 c))
      have rc3 := (Blk.cell ((((K_r.out.set_ 0 (.int .i64 3)).set_ 1 (.int .i64 0)).set_ 2 (.slice A 0 c)).set_ 3 (.int .i64 0)) 3).trans (rfl : _ = some (Value.int .i64 0))
      exact bodyPost_ret (v := .agg #[.int .i64 3, .int .i64 0, .slice A 0 c, .int .i64 0]) (by simp [results, Tryz.results59, go_sem, rc0, rc1, rc2, rc3]) rfl ⟨_, rfl, ⟨_, rfl, HVF.out.own K_r.out zs_nobool (only_setCell (only_setCell (only_setCell (only_setCell (only_refl _ (some ((w.heap.size + 1)))) (p := ⟨(w.heap.size + 1), 0, none⟩) (Or.inl rfl) _) (p := ⟨(w.heap.size + 1), 1, none⟩) (Or.inl rfl) _) (p := ⟨(w.heap.size + 1), 2, none⟩) (Or.inl rfl) _) (p := ⟨(w.heap.size + 1), 3, none⟩) (Or.inl rfl) _), FrV.zero _ _ _⟩, ((((HB.out.setCell (p := ⟨(w.heap.size + 1), 0, none⟩) (by show w.heap.size ≤ (w.heap.size + 1); omega) (.int .i64 3)).setCell (p := ⟨(w.heap.size + 1), 1, none⟩) (by show w.heap.size ≤ (w.heap.size + 1); omega) (.int .i64 0)).setCell (p := ⟨(w.heap.size + 1), 2, none⟩) (by show w.heap.size ≤ (w.heap.size + 1); omega) (.slice A 0 c)).setCell (p := ⟨(w.heap.size + 1), 3, none⟩) (by show w.heap.size ≤ (w.heap.size + 1); omega) (.int .i64 0))⟩
    | true =>
      have hr : goesS (swB 3) true = swB 3 := rfl
      rw [hr]
      clear hr
      have hN0 : N = 0 := by obtain ⟨A2, c2, h, _⟩ := HV.out; cases h; rfl
      subst hN0
      have HB := allocs_below w [.cells #[.int .i64 3, .int .i64 0, .slice A 0 c, .int .i64 0] 34, .cells #[.int .i64 0, .int .i64 0, .slice none 0 0, .int .i64 0] 34]
      have K_x : Blk (allocs w [.cells #[.int .i64 3, .int .i64 0, .slice A 0 c, .int .i64 0] 34, .cells #[.int .i64 0, .int .i64 0, .slice none 0 0, .int .i64 0] 34]) (w.heap.size + 0) 34 #[.int .i64 3, .int .i64 0, .slice A 0 c, .int .i64 0] := allocs_at w [.cells #[.int .i64 3, .int .i64 0, .slice A 0 c, .int .i64 0] 34, .cells #[.int .i64 0, .int .i64 0, .slice none 0 0, .int .i64 0] 34] 0 rfl
      have K_r : Blk (allocs w [.cells #[.int .i64 3, .int .i64 0, .slice A 0 c, .int .i64 0] 34, .cells #[.int .i64 0, .int .i64 0, .slice none 0 0, .int .i64 0] 34]) (w.heap.size + 1) 34 #[.int .i64 0, .int .i64 0, .slice none 0 0, .int .i64 0] := allocs_at w [.cells #[.int .i64 3, .int .i64 0, .slice A 0 c, .int .i64 0] 34, .cells #[.int .i64 0, .int .i64 0, .slice none 0 0, .int .i64 0] 34] 1 rfl
      unfold allocs at HB K_x K_r
      simp only [List.foldl_cons, List.foldl_nil] at HB K_x K_r
      rw [Nat.add_zero] at K_x
      go_enter Tryz.func59, Tryz.ntmps59
      go_upto_region 1 with (fail)
      generalize ((w.alloc (.cells #[.int .i64 3, .int .i64 0, .slice A 0 c, .int .i64 0] 34)).alloc (.cells #[.int .i64 0, .int .i64 0, .slice none 0 0, .int .i64 0] 34)) = w0 at *
      replace K_x := hide K_x
      replace K_r := hide K_r
      replace HB := hide HB
      have x0 := (Blk.cell K_x.out 0).trans (rfl : _ = some (Value.int .i64 3))
      have x1 := (Blk.cell K_x.out 1).trans (rfl : _ = some (Value.int .i64 0))
      have x2 := (Blk.cell K_x.out 2).trans (rfl : _ = some (Value.slice A 0 c))
      have x3 := (Blk.cell K_x.out 3).trans (rfl : _ = some (Value.int .i64 0))
      have HVF := hide (HV.out.below HB.out)
      have r0 := (Blk.cell K_r.out 0).trans (rfl : _ = some (Value.int .i64 0))
      have rf0 := Blk.frozen K_r.out 0
      have r1 := (Blk.cell K_r.out 1).trans (rfl : _ = some (Value.int .i64 0))
      have rf1 := Blk.frozen K_r.out 1
      have r2 := (Blk.cell K_r.out 2).trans (rfl : _ = some (Value.slice none 0 0))
      have rf2 := Blk.frozen K_r.out 2
      have r3 := (Blk.cell K_r.out 3).trans (rfl : _ = some (Value.int .i64 0))
      have rf3 := Blk.frozen K_r.out 3
      go_wp2_with fail
      have rc0 := (Blk.cell ((((K_r.out.set_ 0 (.int .i64 3)).set_ 1 (.int .i64 0)).set_ 2 (.slice A 0 c)).set_ 3 (.int .i64 0)) 0).trans (rfl : _ = some (Value.int .i64 3))
      have rc1 := (Blk.cell ((((K_r.out.set_ 0 (.int .i64 3)).set_ 1 (.int .i64 0)).set_ 2 (.slice A 0 c)).set_ 3 (.int .i64 0)) 1).trans (rfl : _ = some (Value.int .i64 0))
      have rc2 := (Blk.cell ((((K_r.out.set_ 0 (.int .i64 3)).set_ 1 (.int .i64 0)).set_ 2 (.slice A 0 c)).set_ 3 (.int .i64 0)) 2).trans (rfl : _ = some (Value.slice A 0 c))
      have rc3 := (Blk.cell ((((K_r.out.set_ 0 (.int .i64 3)).set_ 1 (.int .i64 0)).set_ 2 (.slice A 0 c)).set_ 3 (.int .i64 0)) 3).trans (rfl : _ = some (Value.int .i64 0))
      exact bodyPost_ret (v := .agg #[.int .i64 3, .int .i64 0, .slice A 0 c, .int .i64 0]) (by simp [results, Tryz.results59, go_sem, rc0, rc1, rc2, rc3]) rfl ⟨_, rfl, ⟨_, rfl, HVF.out.own K_r.out zs_nobool (only_setCell (only_setCell (only_setCell (only_setCell (only_refl _ (some ((w.heap.size + 1)))) (p := ⟨(w.heap.size + 1), 0, none⟩) (Or.inl rfl) _) (p := ⟨(w.heap.size + 1), 1, none⟩) (Or.inl rfl) _) (p := ⟨(w.heap.size + 1), 2, none⟩) (Or.inl rfl) _) (p := ⟨(w.heap.size + 1), 3, none⟩) (Or.inl rfl) _), FrV.zero _ _ _⟩, ((((HB.out.setCell (p := ⟨(w.heap.size + 1), 0, none⟩) (by show w.heap.size ≤ (w.heap.size + 1); omega) (.int .i64 3)).setCell (p := ⟨(w.heap.size + 1), 1, none⟩) (by show w.heap.size ≤ (w.heap.size + 1); omega) (.int .i64 0)).setCell (p := ⟨(w.heap.size + 1), 2, none⟩) (by show w.heap.size ≤ (w.heap.size + 1); omega) (.slice A 0 c)).setCell (p := ⟨(w.heap.size + 1), 3, none⟩) (by show w.heap.size ≤ (w.heap.size + 1); omega) (.int .i64 0))⟩
set_option maxRecDepth 100000 in
set_option maxHeartbeats 2000000 in
theorem rswrst_bad (w : World) (mode run rej z : Int) (v : Value) (l : List Bool) (hv : SlL w v (bcl l)) (hl : l.length ≤ 1000000) (hz : z ≠ 0) (h : rstE mode run l rej = z) :
    Calls Tryz.prog 17 #[.agg #[.int .i64 mode, .int .i64 run, v, .int .i64 rej]] w fun e w' => e = .returned (.tuple #[.agg #[.int .i64 0, .int .i64 0, .slice none 0 0, .int .i64 0], .int .i64 z]) ∧ Below w.heap.size w w' := by
  have HV := hide hv
  have HR := hide (fun (W : World) (h : SlL W v (bcl l)) => rswright_any W mode run rej v l h hl)
  unfold rstE at h
  by_cases h1 : rightI mode run l rej ≠ 0
  · rw [if_pos h1] at h
    rw [h] at HR
    have hzi : (z == 0) = false := by simpa using hz
    have HZ := hide hz
    clear hz
    clear h h1
    have HB := allocs_below w [.cells #[.int .i64 mode, .int .i64 run, v, .int .i64 rej] 34, .cells #[.int .i64 0, .int .i64 0, .slice none 0 0, .int .i64 0] 34]
    have K_x : Blk (allocs w [.cells #[.int .i64 mode, .int .i64 run, v, .int .i64 rej] 34, .cells #[.int .i64 0, .int .i64 0, .slice none 0 0, .int .i64 0] 34]) (w.heap.size + 0) 34 #[.int .i64 mode, .int .i64 run, v, .int .i64 rej] := allocs_at w [.cells #[.int .i64 mode, .int .i64 run, v, .int .i64 rej] 34, .cells #[.int .i64 0, .int .i64 0, .slice none 0 0, .int .i64 0] 34] 0 rfl
    have K_r : Blk (allocs w [.cells #[.int .i64 mode, .int .i64 run, v, .int .i64 rej] 34, .cells #[.int .i64 0, .int .i64 0, .slice none 0 0, .int .i64 0] 34]) (w.heap.size + 1) 34 #[.int .i64 0, .int .i64 0, .slice none 0 0, .int .i64 0] := allocs_at w [.cells #[.int .i64 mode, .int .i64 run, v, .int .i64 rej] 34, .cells #[.int .i64 0, .int .i64 0, .slice none 0 0, .int .i64 0] 34] 1 rfl
    unfold allocs at HB K_x K_r
    simp only [List.foldl_cons, List.foldl_nil] at HB K_x K_r
    rw [Nat.add_zero] at K_x
    go_enter Tryz.func17, Tryz.ntmps17
    go_upto_region 1 with (fail)
    generalize ((w.alloc (.cells #[.int .i64 mode, .int .i64 run, v, .int .i64 rej] 34)).alloc (.cells #[.int .i64 0, .int .i64 0, .slice none 0 0, .int .i64 0] 34)) = w0 at *
    replace K_x := hide K_x
    replace K_r := hide K_r
    replace HB := hide HB
    have x0 := (Blk.cell K_x.out 0).trans (rfl : _ = some (Value.int .i64 mode))
    have x1 := (Blk.cell K_x.out 1).trans (rfl : _ = some (Value.int .i64 run))
    have x2 := (Blk.cell K_x.out 2).trans (rfl : _ = some (v))
    have x3 := (Blk.cell K_x.out 3).trans (rfl : _ = some (Value.int .i64 rej))
    go_wp2_with fail
    refine (HR.out _ (HV.out.below HB.out)).mono ?_
    rintro e w1 ⟨rfl, hb⟩
    clear x0 x1 x2 x3
    replace K_x := hide (Blk.below K_x.out hb (Blk.lt K_x.out))
    replace K_r := hide (Blk.below K_r.out hb (Blk.lt K_r.out))
    replace HB := hide (HB.out.trans (hb.mono HB.out.size))
    clear hb
    have r0 := (Blk.cell K_r.out 0).trans (rfl : _ = some (Value.int .i64 0))
    have rf0 := Blk.frozen K_r.out 0
    have r1 := (Blk.cell K_r.out 1).trans (rfl : _ = some (Value.int .i64 0))
    have rf1 := Blk.frozen K_r.out 1
    have r2 := (Blk.cell K_r.out 2).trans (rfl : _ = some (Value.slice none 0 0))
    have rf2 := Blk.frozen K_r.out 2
    have r3 := (Blk.cell K_r.out 3).trans (rfl : _ = some (Value.int .i64 0))
    have rf3 := Blk.frozen K_r.out 3
    go_wp2_with fail
    have rc0 := (Blk.cell ((((K_r.out.set_ 0 (.int .i64 0)).set_ 1 (.int .i64 0)).set_ 2 (.slice none 0 0)).set_ 3 (.int .i64 0)) 0).trans (rfl : _ = some (Value.int .i64 0))
    have rc1 := (Blk.cell ((((K_r.out.set_ 0 (.int .i64 0)).set_ 1 (.int .i64 0)).set_ 2 (.slice none 0 0)).set_ 3 (.int .i64 0)) 1).trans (rfl : _ = some (Value.int .i64 0))
    have rc2 := (Blk.cell ((((K_r.out.set_ 0 (.int .i64 0)).set_ 1 (.int .i64 0)).set_ 2 (.slice none 0 0)).set_ 3 (.int .i64 0)) 2).trans (rfl : _ = some (Value.slice none 0 0))
    have rc3 := (Blk.cell ((((K_r.out.set_ 0 (.int .i64 0)).set_ 1 (.int .i64 0)).set_ 2 (.slice none 0 0)).set_ 3 (.int .i64 0)) 3).trans (rfl : _ = some (Value.int .i64 0))
    exact bodyPost_ret (v := .tuple #[.agg #[.int .i64 0, .int .i64 0, .slice none 0 0, .int .i64 0], .int .i64 z]) (by simp [results, Tryz.results17, go_sem, rc0, rc1, rc2, rc3]) rfl ⟨rfl, ((((HB.out.setCell (p := ⟨(w.heap.size + 1), 0, none⟩) (by show w.heap.size ≤ (w.heap.size + 1); omega) (.int .i64 0)).setCell (p := ⟨(w.heap.size + 1), 1, none⟩) (by show w.heap.size ≤ (w.heap.size + 1); omega) (.int .i64 0)).setCell (p := ⟨(w.heap.size + 1), 2, none⟩) (by show w.heap.size ≤ (w.heap.size + 1); omega) (.slice none 0 0)).setCell (p := ⟨(w.heap.size + 1), 3, none⟩) (by show w.heap.size ≤ (w.heap.size + 1); omega) (.int .i64 0))⟩
  · by_cases h2 : mode ≠ 3
    · rw [if_neg h1] at h
      rw [if_pos h2] at h
      rw [Classical.not_not.1 h1] at HR
      subst h
      have hm3 : (mode == 3) = false := by simpa using h2
      clear h1
      have HB := allocs_below w [.cells #[.int .i64 mode, .int .i64 run, v, .int .i64 rej] 34, .cells #[.int .i64 0, .int .i64 0, .slice none 0 0, .int .i64 0] 34]
      have K_x : Blk (allocs w [.cells #[.int .i64 mode, .int .i64 run, v, .int .i64 rej] 34, .cells #[.int .i64 0, .int .i64 0, .slice none 0 0, .int .i64 0] 34]) (w.heap.size + 0) 34 #[.int .i64 mode, .int .i64 run, v, .int .i64 rej] := allocs_at w [.cells #[.int .i64 mode, .int .i64 run, v, .int .i64 rej] 34, .cells #[.int .i64 0, .int .i64 0, .slice none 0 0, .int .i64 0] 34] 0 rfl
      have K_r : Blk (allocs w [.cells #[.int .i64 mode, .int .i64 run, v, .int .i64 rej] 34, .cells #[.int .i64 0, .int .i64 0, .slice none 0 0, .int .i64 0] 34]) (w.heap.size + 1) 34 #[.int .i64 0, .int .i64 0, .slice none 0 0, .int .i64 0] := allocs_at w [.cells #[.int .i64 mode, .int .i64 run, v, .int .i64 rej] 34, .cells #[.int .i64 0, .int .i64 0, .slice none 0 0, .int .i64 0] 34] 1 rfl
      unfold allocs at HB K_x K_r
      simp only [List.foldl_cons, List.foldl_nil] at HB K_x K_r
      rw [Nat.add_zero] at K_x
      go_enter Tryz.func17, Tryz.ntmps17
      go_upto_region 1 with (fail)
      generalize ((w.alloc (.cells #[.int .i64 mode, .int .i64 run, v, .int .i64 rej] 34)).alloc (.cells #[.int .i64 0, .int .i64 0, .slice none 0 0, .int .i64 0] 34)) = w0 at *
      replace K_x := hide K_x
      replace K_r := hide K_r
      replace HB := hide HB
      have x0 := (Blk.cell K_x.out 0).trans (rfl : _ = some (Value.int .i64 mode))
      have x1 := (Blk.cell K_x.out 1).trans (rfl : _ = some (Value.int .i64 run))
      have x2 := (Blk.cell K_x.out 2).trans (rfl : _ = some (v))
      have x3 := (Blk.cell K_x.out 3).trans (rfl : _ = some (Value.int .i64 rej))
      go_wp2_with fail
      refine (HR.out _ (HV.out.below HB.out)).mono ?_
      rintro e w1 ⟨rfl, hb⟩
      clear x0 x1 x2 x3
      replace K_x := hide (Blk.below K_x.out hb (Blk.lt K_x.out))
      replace K_r := hide (Blk.below K_r.out hb (Blk.lt K_r.out))
      replace HB := hide (HB.out.trans (hb.mono HB.out.size))
      clear hb
      have x0 := (Blk.cell K_x.out 0).trans (rfl : _ = some (Value.int .i64 mode))
      have x1 := (Blk.cell K_x.out 1).trans (rfl : _ = some (Value.int .i64 run))
      have x2 := (Blk.cell K_x.out 2).trans (rfl : _ = some (v))
      have x3 := (Blk.cell K_x.out 3).trans (rfl : _ = some (Value.int .i64 rej))
      have r0 := (Blk.cell K_r.out 0).trans (rfl : _ = some (Value.int .i64 0))
      have rf0 := Blk.frozen K_r.out 0
      have r1 := (Blk.cell K_r.out 1).trans (rfl : _ = some (Value.int .i64 0))
      have rf1 := Blk.frozen K_r.out 1
      have r2 := (Blk.cell K_r.out 2).trans (rfl : _ = some (Value.slice none 0 0))
      have rf2 := Blk.frozen K_r.out 2
      have r3 := (Blk.cell K_r.out 3).trans (rfl : _ = some (Value.int .i64 0))
      have rf3 := Blk.frozen K_r.out 3
      go_wp2_with fail
      have rc0 := (Blk.cell ((((K_r.out.set_ 0 (.int .i64 0)).set_ 1 (.int .i64 0)).set_ 2 (.slice none 0 0)).set_ 3 (.int .i64 0)) 0).trans (rfl : _ = some (Value.int .i64 0))
      have rc1 := (Blk.cell ((((K_r.out.set_ 0 (.int .i64 0)).set_ 1 (.int .i64 0)).set_ 2 (.slice none 0 0)).set_ 3 (.int .i64 0)) 1).trans (rfl : _ = some (Value.int .i64 0))
      have rc2 := (Blk.cell ((((K_r.out.set_ 0 (.int .i64 0)).set_ 1 (.int .i64 0)).set_ 2 (.slice none 0 0)).set_ 3 (.int .i64 0)) 2).trans (rfl : _ = some (Value.slice none 0 0))
      have rc3 := (Blk.cell ((((K_r.out.set_ 0 (.int .i64 0)).set_ 1 (.int .i64 0)).set_ 2 (.slice none 0 0)).set_ 3 (.int .i64 0)) 3).trans (rfl : _ = some (Value.int .i64 0))
      exact bodyPost_ret (v := .tuple #[.agg #[.int .i64 0, .int .i64 0, .slice none 0 0, .int .i64 0], .int .i64 14]) (by simp [results, Tryz.results17, go_sem, rc0, rc1, rc2, rc3]) rfl ⟨rfl, ((((HB.out.setCell (p := ⟨(w.heap.size + 1), 0, none⟩) (by show w.heap.size ≤ (w.heap.size + 1); omega) (.int .i64 0)).setCell (p := ⟨(w.heap.size + 1), 1, none⟩) (by show w.heap.size ≤ (w.heap.size + 1); omega) (.int .i64 0)).setCell (p := ⟨(w.heap.size + 1), 2, none⟩) (by show w.heap.size ≤ (w.heap.size + 1); omega) (.slice none 0 0)).setCell (p := ⟨(w.heap.size + 1), 3, none⟩) (by show w.heap.size ≤ (w.heap.size + 1); omega) (.int .i64 0))⟩
    · rw [if_neg h1, if_neg h2] at h; exact absurd h.symm hz
set_option maxRecDepth 100000 in
set_option maxHeartbeats 2000000 in
theorem rswrst_ok (w : World) (run rej : Int) (v : Value) (l : List Bool) (hv : SlL w v (bcl l)) (hl : l.length ≤ 1000000) (h : rightI 3 run l rej = 0) :
    Calls Tryz.prog 17 #[.agg #[.int .i64 3, .int .i64 run, v, .int .i64 rej]] w fun e w' => e = .returned (.tuple #[.agg #[.int .i64 1, .int .i64 0, .slice none 0 0, .int .i64 0], .int .i64 0]) ∧ Below w.heap.size w w' := by
  have HV := hide hv
  have HR := hide (fun (W : World) (h : SlL W v (bcl l)) => rswright_any W 3 run rej v l h hl)
  rw [h] at HR
  clear h
  have HB := allocs_below w [.cells #[.int .i64 3, .int .i64 run, v, .int .i64 rej] 34, .cells #[.int .i64 0, .int .i64 0, .slice none 0 0, .int .i64 0] 34]
  have K_x : Blk (allocs w [.cells #[.int .i64 3, .int .i64 run, v, .int .i64 rej] 34, .cells #[.int .i64 0, .int .i64 0, .slice none 0 0, .int .i64 0] 34]) (w.heap.size + 0) 34 #[.int .i64 3, .int .i64 run, v, .int .i64 rej] := allocs_at w [.cells #[.int .i64 3, .int .i64 run, v, .int .i64 rej] 34, .cells #[.int .i64 0, .int .i64 0, .slice none 0 0, .int .i64 0] 34] 0 rfl
  have K_r : Blk (allocs w [.cells #[.int .i64 3, .int .i64 run, v, .int .i64 rej] 34, .cells #[.int .i64 0, .int .i64 0, .slice none 0 0, .int .i64 0] 34]) (w.heap.size + 1) 34 #[.int .i64 0, .int .i64 0, .slice none 0 0, .int .i64 0] := allocs_at w [.cells #[.int .i64 3, .int .i64 run, v, .int .i64 rej] 34, .cells #[.int .i64 0, .int .i64 0, .slice none 0 0, .int .i64 0] 34] 1 rfl
  unfold allocs at HB K_x K_r
  simp only [List.foldl_cons, List.foldl_nil] at HB K_x K_r
  rw [Nat.add_zero] at K_x
  go_enter Tryz.func17, Tryz.ntmps17
  go_upto_region 1 with (fail)
  generalize ((w.alloc (.cells #[.int .i64 3, .int .i64 run, v, .int .i64 rej] 34)).alloc (.cells #[.int .i64 0, .int .i64 0, .slice none 0 0, .int .i64 0] 34)) = w0 at *
  replace K_x := hide K_x
  replace K_r := hide K_r
  replace HB := hide HB
  have x0 := (Blk.cell K_x.out 0).trans (rfl : _ = some (Value.int .i64 3))
  have x1 := (Blk.cell K_x.out 1).trans (rfl : _ = some (Value.int .i64 run))
  have x2 := (Blk.cell K_x.out 2).trans (rfl : _ = some (v))
  have x3 := (Blk.cell K_x.out 3).trans (rfl : _ = some (Value.int .i64 rej))
  go_wp2_with fail
  refine (HR.out _ (HV.out.below HB.out)).mono ?_
  rintro e w1 ⟨rfl, hb⟩
  clear x0 x1 x2 x3
  replace K_x := hide (Blk.below K_x.out hb (Blk.lt K_x.out))
  replace K_r := hide (Blk.below K_r.out hb (Blk.lt K_r.out))
  replace HB := hide (HB.out.trans (hb.mono HB.out.size))
  clear hb
  have x0 := (Blk.cell K_x.out 0).trans (rfl : _ = some (Value.int .i64 3))
  have x1 := (Blk.cell K_x.out 1).trans (rfl : _ = some (Value.int .i64 run))
  have x2 := (Blk.cell K_x.out 2).trans (rfl : _ = some (v))
  have x3 := (Blk.cell K_x.out 3).trans (rfl : _ = some (Value.int .i64 rej))
  have r0 := (Blk.cell K_r.out 0).trans (rfl : _ = some (Value.int .i64 0))
  have rf0 := Blk.frozen K_r.out 0
  have r1 := (Blk.cell K_r.out 1).trans (rfl : _ = some (Value.int .i64 0))
  have rf1 := Blk.frozen K_r.out 1
  have r2 := (Blk.cell K_r.out 2).trans (rfl : _ = some (Value.slice none 0 0))
  have rf2 := Blk.frozen K_r.out 2
  have r3 := (Blk.cell K_r.out 3).trans (rfl : _ = some (Value.int .i64 0))
  have rf3 := Blk.frozen K_r.out 3
  go_wp2_with fail
  have rc0 := (Blk.cell ((((K_r.out.set_ 0 (.int .i64 1)).set_ 1 (.int .i64 0)).set_ 2 (.slice none 0 0)).set_ 3 (.int .i64 0)) 0).trans (rfl : _ = some (Value.int .i64 1))
  have rc1 := (Blk.cell ((((K_r.out.set_ 0 (.int .i64 1)).set_ 1 (.int .i64 0)).set_ 2 (.slice none 0 0)).set_ 3 (.int .i64 0)) 1).trans (rfl : _ = some (Value.int .i64 0))
  have rc2 := (Blk.cell ((((K_r.out.set_ 0 (.int .i64 1)).set_ 1 (.int .i64 0)).set_ 2 (.slice none 0 0)).set_ 3 (.int .i64 0)) 2).trans (rfl : _ = some (Value.slice none 0 0))
  have rc3 := (Blk.cell ((((K_r.out.set_ 0 (.int .i64 1)).set_ 1 (.int .i64 0)).set_ 2 (.slice none 0 0)).set_ 3 (.int .i64 0)) 3).trans (rfl : _ = some (Value.int .i64 0))
  exact bodyPost_ret (v := .tuple #[.agg #[.int .i64 1, .int .i64 0, .slice none 0 0, .int .i64 0], .int .i64 0]) (by simp [results, Tryz.results17, go_sem, rc0, rc1, rc2, rc3]) rfl ⟨rfl, ((((HB.out.setCell (p := ⟨(w.heap.size + 1), 0, none⟩) (by show w.heap.size ≤ (w.heap.size + 1); omega) (.int .i64 1)).setCell (p := ⟨(w.heap.size + 1), 1, none⟩) (by show w.heap.size ≤ (w.heap.size + 1); omega) (.int .i64 0)).setCell (p := ⟨(w.heap.size + 1), 2, none⟩) (by show w.heap.size ≤ (w.heap.size + 1); omega) (.slice none 0 0)).setCell (p := ⟨(w.heap.size + 1), 3, none⟩) (by show w.heap.size ≤ (w.heap.size + 1); omega) (.int .i64 0))⟩
set_option maxRecDepth 100000 in
set_option maxHeartbeats 4000000 in
theorem rswnext_bad (w : World) (S : Nat → Int × Int) (mode run rej found z : Int) (v : Value) (l : List Bool) (hv : SlL w v (bcl l)) (hl : l.length ≤ 1000000) (hz : z ≠ 0) (h : nextE S mode run l rej found = z) :
    Calls Tryz.prog 26 #[schV S, .agg #[.int .i64 mode, .int .i64 run, v, .int .i64 rej], .int .i64 found] w fun e w' => e = .returned (.tuple #[.agg #[.int .i64 0, .int .i64 0, .slice none 0 0, .int .i64 0], .bool false, .int .i64 z]) ∧ Below w.heap.size w w' := by
  have HV := hide hv
  have HC := hide (fun (W : World) => rswck_any W S)
  have HR := hide (fun (W : World) (h : SlL W v (bcl l)) => rswright_any W mode run rej v l h hl)
  unfold nextE at h
  unfold schV at HC ⊢
  by_cases h1 : ckS S ≠ 0
  · rw [if_pos h1] at h
    rw [h] at HC
    have hzi : (z == 0) = false := by simpa using hz
    have HZ := hide hz
    clear hz h h1
    have HB := allocs_below w [.cells #[.int .i64 (S 0).1, .int .i64 (S 0).2, .int .i64 (S 1).1, .int .i64 (S 1).2, .int .i64 (S 2).1, .int .i64 (S 2).2] 43, .cells #[.int .i64 mode, .int .i64 run, v, .int .i64 rej] 34, .cells #[.int .i64 0, .int .i64 0, .slice none 0 0, .int .i64 0] 34]
    have K_s : Blk (allocs w [.cells #[.int .i64 (S 0).1, .int .i64 (S 0).2, .int .i64 (S 1).1, .int .i64 (S 1).2, .int .i64 (S 2).1, .int .i64 (S 2).2] 43, .cells #[.int .i64 mode, .int .i64 run, v, .int .i64 rej] 34, .cells #[.int .i64 0, .int .i64 0, .slice none 0 0, .int .i64 0] 34]) (w.heap.size + 0) 43 #[.int .i64 (S 0).1, .int .i64 (S 0).2, .int .i64 (S 1).1, .int .i64 (S 1).2, .int .i64 (S 2).1, .int .i64 (S 2).2] := allocs_at w [.cells #[.int .i64 (S 0).1, .int .i64 (S 0).2, .int .i64 (S 1).1, .int .i64 (S 1).2, .int .i64 (S 2).1, .int .i64 (S 2).2] 43, .cells #[.int .i64 mode, .int .i64 run, v, .int .i64 rej] 34, .cells #[.int .i64 0, .int .i64 0, .slice none 0 0, .int .i64 0] 34] 0 rfl
    have K_x : Blk (allocs w [.cells #[.int .i64 (S 0).1, .int .i64 (S 0).2, .int .i64 (S 1).1, .int .i64 (S 1).2, .int .i64 (S 2).1, .int .i64 (S 2).2] 43, .cells #[.int .i64 mode, .int .i64 run, v, .int .i64 rej] 34, .cells #[.int .i64 0, .int .i64 0, .slice none 0 0, .int .i64 0] 34]) (w.heap.size + 1) 34 #[.int .i64 mode, .int .i64 run, v, .int .i64 rej] := allocs_at w [.cells #[.int .i64 (S 0).1, .int .i64 (S 0).2, .int .i64 (S 1).1, .int .i64 (S 1).2, .int .i64 (S 2).1, .int .i64 (S 2).2] 43, .cells #[.int .i64 mode, .int .i64 run, v, .int .i64 rej] 34, .cells #[.int .i64 0, .int .i64 0, .slice none 0 0, .int .i64 0] 34] 1 rfl
    have K_r : Blk (allocs w [.cells #[.int .i64 (S 0).1, .int .i64 (S 0).2, .int .i64 (S 1).1, .int .i64 (S 1).2, .int .i64 (S 2).1, .int .i64 (S 2).2] 43, .cells #[.int .i64 mode, .int .i64 run, v, .int .i64 rej] 34, .cells #[.int .i64 0, .int .i64 0, .slice none 0 0, .int .i64 0] 34]) (w.heap.size + 2) 34 #[.int .i64 0, .int .i64 0, .slice none 0 0, .int .i64 0] := allocs_at w [.cells #[.int .i64 (S 0).1, .int .i64 (S 0).2, .int .i64 (S 1).1, .int .i64 (S 1).2, .int .i64 (S 2).1, .int .i64 (S 2).2] 43, .cells #[.int .i64 mode, .int .i64 run, v, .int .i64 rej] 34, .cells #[.int .i64 0, .int .i64 0, .slice none 0 0, .int .i64 0] 34] 2 rfl
    unfold allocs at HB K_s K_x K_r
    simp only [List.foldl_cons, List.foldl_nil] at HB K_s K_x K_r
    rw [Nat.add_zero] at K_s
    go_enter Tryz.func26, Tryz.ntmps26
    go_upto_region 1 with (fail)
    generalize (((w.alloc (.cells #[.int .i64 (S 0).1, .int .i64 (S 0).2, .int .i64 (S 1).1, .int .i64 (S 1).2, .int .i64 (S 2).1, .int .i64 (S 2).2] 43)).alloc (.cells #[.int .i64 mode, .int .i64 run, v, .int .i64 rej] 34)).alloc (.cells #[.int .i64 0, .int .i64 0, .slice none 0 0, .int .i64 0] 34)) = w0 at *
    replace K_s := hide K_s
    replace K_x := hide K_x
    replace K_r := hide K_r
    replace HB := hide HB
    have s0 := (Blk.cell K_s.out 0).trans (rfl : _ = some (Value.int .i64 (S 0).1))
    have s1 := (Blk.cell K_s.out 1).trans (rfl : _ = some (Value.int .i64 (S 0).2))
    have s2 := (Blk.cell K_s.out 2).trans (rfl : _ = some (Value.int .i64 (S 1).1))
    have s3 := (Blk.cell K_s.out 3).trans (rfl : _ = some (Value.int .i64 (S 1).2))
    have s4 := (Blk.cell K_s.out 4).trans (rfl : _ = some (Value.int .i64 (S 2).1))
    have s5 := (Blk.cell K_s.out 5).trans (rfl : _ = some (Value.int .i64 (S 2).2))
    go_wp2_with fail
    refine (HC.out _).mono ?_
    rintro e w1 ⟨rfl, hb⟩
    clear s0 s1 s2 s3 s4 s5
    replace K_s := hide (Blk.below K_s.out hb (Blk.lt K_s.out))
    replace K_x := hide (Blk.below K_x.out hb (Blk.lt K_x.out))
    replace K_r := hide (Blk.below K_r.out hb (Blk.lt K_r.out))
    replace HB := hide (HB.out.trans (hb.mono HB.out.size))
    clear hb
    have r0 := (Blk.cell K_r.out 0).trans (rfl : _ = some (Value.int .i64 0))
    have rf0 := Blk.frozen K_r.out 0
    have r1 := (Blk.cell K_r.out 1).trans (rfl : _ = some (Value.int .i64 0))
    have rf1 := Blk.frozen K_r.out 1
    have r2 := (Blk.cell K_r.out 2).trans (rfl : _ = some (Value.slice none 0 0))
    have rf2 := Blk.frozen K_r.out 2
    have r3 := (Blk.cell K_r.out 3).trans (rfl : _ = some (Value.int .i64 0))
    have rf3 := Blk.frozen K_r.out 3
    go_wp2_with fail
    have rc0 := (Blk.cell ((((K_r.out.set_ 0 (.int .i64 0)).set_ 1 (.int .i64 0)).set_ 2 (.slice none 0 0)).set_ 3 (.int .i64 0)) 0).trans (rfl : _ = some (Value.int .i64 0))
    have rc1 := (Blk.cell ((((K_r.out.set_ 0 (.int .i64 0)).set_ 1 (.int .i64 0)).set_ 2 (.slice none 0 0)).set_ 3 (.int .i64 0)) 1).trans (rfl : _ = some (Value.int .i64 0))
    have rc2 := (Blk.cell ((((K_r.out.set_ 0 (.int .i64 0)).set_ 1 (.int .i64 0)).set_ 2 (.slice none 0 0)).set_ 3 (.int .i64 0)) 2).trans (rfl : _ = some (Value.slice none 0 0))
    have rc3 := (Blk.cell ((((K_r.out.set_ 0 (.int .i64 0)).set_ 1 (.int .i64 0)).set_ 2 (.slice none 0 0)).set_ 3 (.int .i64 0)) 3).trans (rfl : _ = some (Value.int .i64 0))
    exact bodyPost_ret (v := .tuple #[.agg #[.int .i64 0, .int .i64 0, .slice none 0 0, .int .i64 0], .bool false, .int .i64 z]) (by simp [results, Tryz.results26, go_sem, rc0, rc1, rc2, rc3]) rfl ⟨rfl, ((((HB.out.setCell (p := ⟨(w.heap.size + 2), 0, none⟩) (by show w.heap.size ≤ (w.heap.size + 2); omega) (.int .i64 0)).setCell (p := ⟨(w.heap.size + 2), 1, none⟩) (by show w.heap.size ≤ (w.heap.size + 2); omega) (.int .i64 0)).setCell (p := ⟨(w.heap.size + 2), 2, none⟩) (by show w.heap.size ≤ (w.heap.size + 2); omega) (.slice none 0 0)).setCell (p := ⟨(w.heap.size + 2), 3, none⟩) (by show w.heap.size ≤ (w.heap.size + 2); omega) (.int .i64 0))⟩
  · by_cases h2 : rightI mode run l rej ≠ 0
    · rw [if_neg h1] at h
      rw [Classical.not_not.1 h1] at HC
      rw [if_pos h2] at h
      rw [h] at HR
      have hzi : (z == 0) = false := by simpa using hz
      have HZ := hide hz
      clear hz h h1 h2
      have HB := allocs_below w [.cells #[.int .i64 (S 0).1, .int .i64 (S 0).2, .int .i64 (S 1).1, .int .i64 (S 1).2, .int .i64 (S 2).1, .int .i64 (S 2).2] 43, .cells #[.int .i64 mode, .int .i64 run, v, .int .i64 rej] 34, .cells #[.int .i64 0, .int .i64 0, .slice none 0 0, .int .i64 0] 34]
      have K_s : Blk (allocs w [.cells #[.int .i64 (S 0).1, .int .i64 (S 0).2, .int .i64 (S 1).1, .int .i64 (S 1).2, .int .i64 (S 2).1, .int .i64 (S 2).2] 43, .cells #[.int .i64 mode, .int .i64 run, v, .int .i64 rej] 34, .cells #[.int .i64 0, .int .i64 0, .slice none 0 0, .int .i64 0] 34]) (w.heap.size + 0) 43 #[.int .i64 (S 0).1, .int .i64 (S 0).2, .int .i64 (S 1).1, .int .i64 (S 1).2, .int .i64 (S 2).1, .int .i64 (S 2).2] := allocs_at w [.cells #[.int .i64 (S 0).1, .int .i64 (S 0).2, .int .i64 (S 1).1, .int .i64 (S 1).2, .int .i64 (S 2).1, .int .i64 (S 2).2] 43, .cells #[.int .i64 mode, .int .i64 run, v, .int .i64 rej] 34, .cells #[.int .i64 0, .int .i64 0, .slice none 0 0, .int .i64 0] 34] 0 rfl
      have K_x : Blk (allocs w [.cells #[.int .i64 (S 0).1, .int .i64 (S 0).2, .int .i64 (S 1).1, .int .i64 (S 1).2, .int .i64 (S 2).1, .int .i64 (S 2).2] 43, .cells #[.int .i64 mode, .int .i64 run, v, .int .i64 rej] 34, .cells #[.int .i64 0, .int .i64 0, .slice none 0 0, .int .i64 0] 34]) (w.heap.size + 1) 34 #[.int .i64 mode, .int .i64 run, v, .int .i64 rej] := allocs_at w [.cells #[.int .i64 (S 0).1, .int .i64 (S 0).2, .int .i64 (S 1).1, .int .i64 (S 1).2, .int .i64 (S 2).1, .int .i64 (S 2).2] 43, .cells #[.int .i64 mode, .int .i64 run, v, .int .i64 rej] 34, .cells #[.int .i64 0, .int .i64 0, .slice none 0 0, .int .i64 0] 34] 1 rfl
      have K_r : Blk (allocs w [.cells #[.int .i64 (S 0).1, .int .i64 (S 0).2, .int .i64 (S 1).1, .int .i64 (S 1).2, .int .i64 (S 2).1, .int .i64 (S 2).2] 43, .cells #[.int .i64 mode, .int .i64 run, v, .int .i64 rej] 34, .cells #[.int .i64 0, .int .i64 0, .slice none 0 0, .int .i64 0] 34]) (w.heap.size + 2) 34 #[.int .i64 0, .int .i64 0, .slice none 0 0, .int .i64 0] := allocs_at w [.cells #[.int .i64 (S 0).1, .int .i64 (S 0).2, .int .i64 (S 1).1, .int .i64 (S 1).2, .int .i64 (S 2).1, .int .i64 (S 2).2] 43, .cells #[.int .i64 mode, .int .i64 run, v, .int .i64 rej] 34, .cells #[.int .i64 0, .int .i64 0, .slice none 0 0, .int .i64 0] 34] 2 rfl
      unfold allocs at HB K_s K_x K_r
      simp only [List.foldl_cons, List.foldl_nil] at HB K_s K_x K_r
      rw [Nat.add_zero] at K_s
      go_enter Tryz.func26, Tryz.ntmps26
      go_upto_region 1 with (fail)
      generalize (((w.alloc (.cells #[.int .i64 (S 0).1, .int .i64 (S 0).2, .int .i64 (S 1).1, .int .i64 (S 1).2, .int .i64 (S 2).1, .int .i64 (S 2).2] 43)).alloc (.cells #[.int .i64 mode, .int .i64 run, v, .int .i64 rej] 34)).alloc (.cells #[.int .i64 0, .int .i64 0, .slice none 0 0, .int .i64 0] 34)) = w0 at *
      replace K_s := hide K_s
      replace K_x := hide K_x
      replace K_r := hide K_r
      replace HB := hide HB
      have s0 := (Blk.cell K_s.out 0).trans (rfl : _ = some (Value.int .i64 (S 0).1))
      have s1 := (Blk.cell K_s.out 1).trans (rfl : _ = some (Value.int .i64 (S 0).2))
      have s2 := (Blk.cell K_s.out 2).trans (rfl : _ = some (Value.int .i64 (S 1).1))
      have s3 := (Blk.cell K_s.out 3).trans (rfl : _ = some (Value.int .i64 (S 1).2))
      have s4 := (Blk.cell K_s.out 4).trans (rfl : _ = some (Value.int .i64 (S 2).1))
      have s5 := (Blk.cell K_s.out 5).trans (rfl : _ = some (Value.int .i64 (S 2).2))
      go_wp2_with fail
      refine (HC.out _).mono ?_
      rintro e w1 ⟨rfl, hb⟩
      clear s0 s1 s2 s3 s4 s5
      replace K_s := hide (Blk.below K_s.out hb (Blk.lt K_s.out))
      replace K_x := hide (Blk.below K_x.out hb (Blk.lt K_x.out))
      replace K_r := hide (Blk.below K_r.out hb (Blk.lt K_r.out))
      replace HB := hide (HB.out.trans (hb.mono HB.out.size))
      clear hb
      have x0 := (Blk.cell K_x.out 0).trans (rfl : _ = some (Value.int .i64 mode))
      have x1 := (Blk.cell K_x.out 1).trans (rfl : _ = some (Value.int .i64 run))
      have x2 := (Blk.cell K_x.out 2).trans (rfl : _ = some (v))
      have x3 := (Blk.cell K_x.out 3).trans (rfl : _ = some (Value.int .i64 rej))
      go_wp2_with fail
      refine (HR.out _ (HV.out.below HB.out)).mono ?_
      rintro e w2 ⟨rfl, hb⟩
      clear x0 x1 x2 x3
      replace K_s := hide (Blk.below K_s.out hb (Blk.lt K_s.out))
      replace K_x := hide (Blk.below K_x.out hb (Blk.lt K_x.out))
      replace K_r := hide (Blk.below K_r.out hb (Blk.lt K_r.out))
      replace HB := hide (HB.out.trans (hb.mono HB.out.size))
      clear hb
      have r0 := (Blk.cell K_r.out 0).trans (rfl : _ = some (Value.int .i64 0))
      have rf0 := Blk.frozen K_r.out 0
      have r1 := (Blk.cell K_r.out 1).trans (rfl : _ = some (Value.int .i64 0))
      have rf1 := Blk.frozen K_r.out 1
      have r2 := (Blk.cell K_r.out 2).trans (rfl : _ = some (Value.slice none 0 0))
      have rf2 := Blk.frozen K_r.out 2
      have r3 := (Blk.cell K_r.out 3).trans (rfl : _ = some (Value.int .i64 0))
      have rf3 := Blk.frozen K_r.out 3
      go_wp2_with fail
      have rc0 := (Blk.cell ((((K_r.out.set_ 0 (.int .i64 0)).set_ 1 (.int .i64 0)).set_ 2 (.slice none 0 0)).set_ 3 (.int .i64 0)) 0).trans (rfl : _ = some (Value.int .i64 0))
      have rc1 := (Blk.cell ((((K_r.out.set_ 0 (.int .i64 0)).set_ 1 (.int .i64 0)).set_ 2 (.slice none 0 0)).set_ 3 (.int .i64 0)) 1).trans (rfl : _ = some (Value.int .i64 0))
      have rc2 := (Blk.cell ((((K_r.out.set_ 0 (.int .i64 0)).set_ 1 (.int .i64 0)).set_ 2 (.slice none 0 0)).set_ 3 (.int .i64 0)) 2).trans (rfl : _ = some (Value.slice none 0 0))
      have rc3 := (Blk.cell ((((K_r.out.set_ 0 (.int .i64 0)).set_ 1 (.int .i64 0)).set_ 2 (.slice none 0 0)).set_ 3 (.int .i64 0)) 3).trans (rfl : _ = some (Value.int .i64 0))
      exact bodyPost_ret (v := .tuple #[.agg #[.int .i64 0, .int .i64 0, .slice none 0 0, .int .i64 0], .bool false, .int .i64 z]) (by simp [results, Tryz.results26, go_sem, rc0, rc1, rc2, rc3]) rfl ⟨rfl, ((((HB.out.setCell (p := ⟨(w.heap.size + 2), 0, none⟩) (by show w.heap.size ≤ (w.heap.size + 2); omega) (.int .i64 0)).setCell (p := ⟨(w.heap.size + 2), 1, none⟩) (by show w.heap.size ≤ (w.heap.size + 2); omega) (.int .i64 0)).setCell (p := ⟨(w.heap.size + 2), 2, none⟩) (by show w.heap.size ≤ (w.heap.size + 2); omega) (.slice none 0 0)).setCell (p := ⟨(w.heap.size + 2), 3, none⟩) (by show w.heap.size ≤ (w.heap.size + 2); omega) (.int .i64 0))⟩
    · by_cases h3 : mode = 3
      · rw [if_neg h1] at h
        rw [Classical.not_not.1 h1] at HC
        rw [if_neg h2] at h
        have h2r := Classical.not_not.1 h2
        rw [h2r] at HR
        rw [if_pos h3] at h
        subst h h3
        clear h1 h2 h2r hz
        have HB := allocs_below w [.cells #[.int .i64 (S 0).1, .int .i64 (S 0).2, .int .i64 (S 1).1, .int .i64 (S 1).2, .int .i64 (S 2).1, .int .i64 (S 2).2] 43, .cells #[.int .i64 3, .int .i64 run, v, .int .i64 rej] 34, .cells #[.int .i64 0, .int .i64 0, .slice none 0 0, .int .i64 0] 34]
        have K_s : Blk (allocs w [.cells #[.int .i64 (S 0).1, .int .i64 (S 0).2, .int .i64 (S 1).1, .int .i64 (S 1).2, .int .i64 (S 2).1, .int .i64 (S 2).2] 43, .cells #[.int .i64 3, .int .i64 run, v, .int .i64 rej] 34, .cells #[.int .i64 0, .int .i64 0, .slice none 0 0, .int .i64 0] 34]) (w.heap.size + 0) 43 #[.int .i64 (S 0).1, .int .i64 (S 0).2, .int .i64 (S 1).1, .int .i64 (S 1).2, .int .i64 (S 2).1, .int .i64 (S 2).2] := allocs_at w [.cells #[.int .i64 (S 0).1, .int .i64 (S 0).2, .int .i64 (S 1).1, .int .i64 (S 1).2, .int .i64 (S 2).1, .int .i64 (S 2).2] 43, .cells #[.int .i64 3, .int .i64 run, v, .int .i64 rej] 34, .cells #[.int .i64 0, .int .i64 0, .slice none 0 0, .int .i64 0] 34] 0 rfl
        have K_x : Blk (allocs w [.cells #[.int .i64 (S 0).1, .int .i64 (S 0).2, .int .i64 (S 1).1, .int .i64 (S 1).2, .int .i64 (S 2).1, .int .i64 (S 2).2] 43, .cells #[.int .i64 3, .int .i64 run, v, .int .i64 rej] 34, .cells #[.int .i64 0, .int .i64 0, .slice none 0 0, .int .i64 0] 34]) (w.heap.size + 1) 34 #[.int .i64 3, .int .i64 run, v, .int .i64 rej] := allocs_at w [.cells #[.int .i64 (S 0).1, .int .i64 (S 0).2, .int .i64 (S 1).1, .int .i64 (S 1).2, .int .i64 (S 2).1, .int .i64 (S 2).2] 43, .cells #[.int .i64 3, .int .i64 run, v, .int .i64 rej] 34, .cells #[.int .i64 0, .int .i64 0, .slice none 0 0, .int .i64 0] 34] 1 rfl
        have K_r : Blk (allocs w [.cells #[.int .i64 (S 0).1, .int .i64 (S 0).2, .int .i64 (S 1).1, .int .i64 (S 1).2, .int .i64 (S 2).1, .int .i64 (S 2).2] 43, .cells #[.int .i64 3, .int .i64 run, v, .int .i64 rej] 34, .cells #[.int .i64 0, .int .i64 0, .slice none 0 0, .int .i64 0] 34]) (w.heap.size + 2) 34 #[.int .i64 0, .int .i64 0, .slice none 0 0, .int .i64 0] := allocs_at w [.cells #[.int .i64 (S 0).1, .int .i64 (S 0).2, .int .i64 (S 1).1, .int .i64 (S 1).2, .int .i64 (S 2).1, .int .i64 (S 2).2] 43, .cells #[.int .i64 3, .int .i64 run, v, .int .i64 rej] 34, .cells #[.int .i64 0, .int .i64 0, .slice none 0 0, .int .i64 0] 34] 2 rfl
        unfold allocs at HB K_s K_x K_r
        simp only [List.foldl_cons, List.foldl_nil] at HB K_s K_x K_r
        rw [Nat.add_zero] at K_s
        go_enter Tryz.func26, Tryz.ntmps26
        go_upto_region 1 with (fail)
        generalize (((w.alloc (.cells #[.int .i64 (S 0).1, .int .i64 (S 0).2, .int .i64 (S 1).1, .int .i64 (S 1).2, .int .i64 (S 2).1, .int .i64 (S 2).2] 43)).alloc (.cells #[.int .i64 3, .int .i64 run, v, .int .i64 rej] 34)).alloc (.cells #[.int .i64 0, .int .i64 0, .slice none 0 0, .int .i64 0] 34)) = w0 at *
        replace K_s := hide K_s
        replace K_x := hide K_x
        replace K_r := hide K_r
        replace HB := hide HB
        have s0 := (Blk.cell K_s.out 0).trans (rfl : _ = some (Value.int .i64 (S 0).1))
        have s1 := (Blk.cell K_s.out 1).trans (rfl : _ = some (Value.int .i64 (S 0).2))
        have s2 := (Blk.cell K_s.out 2).trans (rfl : _ = some (Value.int .i64 (S 1).1))
        have s3 := (Blk.cell K_s.out 3).trans (rfl : _ = some (Value.int .i64 (S 1).2))
        have s4 := (Blk.cell K_s.out 4).trans (rfl : _ = some (Value.int .i64 (S 2).1))
        have s5 := (Blk.cell K_s.out 5).trans (rfl : _ = some (Value.int .i64 (S 2).2))
        go_wp2_with fail
        refine (HC.out _).mono ?_
        rintro e w1 ⟨rfl, hb⟩
        clear s0 s1 s2 s3 s4 s5
        replace K_s := hide (Blk.below K_s.out hb (Blk.lt K_s.out))
        replace K_x := hide (Blk.below K_x.out hb (Blk.lt K_x.out))
        replace K_r := hide (Blk.below K_r.out hb (Blk.lt K_r.out))
        replace HB := hide (HB.out.trans (hb.mono HB.out.size))
        clear hb
        have x0 := (Blk.cell K_x.out 0).trans (rfl : _ = some (Value.int .i64 3))
        have x1 := (Blk.cell K_x.out 1).trans (rfl : _ = some (Value.int .i64 run))
        have x2 := (Blk.cell K_x.out 2).trans (rfl : _ = some (v))
        have x3 := (Blk.cell K_x.out 3).trans (rfl : _ = some (Value.int .i64 rej))
        go_wp2_with fail
        refine (HR.out _ (HV.out.below HB.out)).mono ?_
        rintro e w2 ⟨rfl, hb⟩
        clear x0 x1 x2 x3
        replace K_s := hide (Blk.below K_s.out hb (Blk.lt K_s.out))
        replace K_x := hide (Blk.below K_x.out hb (Blk.lt K_x.out))
        replace K_r := hide (Blk.below K_r.out hb (Blk.lt K_r.out))
        replace HB := hide (HB.out.trans (hb.mono HB.out.size))
        clear hb
        have x0 := (Blk.cell K_x.out 0).trans (rfl : _ = some (Value.int .i64 3))
        have x1 := (Blk.cell K_x.out 1).trans (rfl : _ = some (Value.int .i64 run))
        have x2 := (Blk.cell K_x.out 2).trans (rfl : _ = some (v))
        have x3 := (Blk.cell K_x.out 3).trans (rfl : _ = some (Value.int .i64 rej))
        have r0 := (Blk.cell K_r.out 0).trans (rfl : _ = some (Value.int .i64 0))
        have rf0 := Blk.frozen K_r.out 0
        have r1 := (Blk.cell K_r.out 1).trans (rfl : _ = some (Value.int .i64 0))
        have rf1 := Blk.frozen K_r.out 1
        have r2 := (Blk.cell K_r.out 2).trans (rfl : _ = some (Value.slice none 0 0))
        have rf2 := Blk.frozen K_r.out 2
        have r3 := (Blk.cell K_r.out 3).trans (rfl : _ = some (Value.int .i64 0))
        have rf3 := Blk.frozen K_r.out 3
        go_wp2_with fail
        have rc0 := (Blk.cell ((((K_r.out.set_ 0 (.int .i64 0)).set_ 1 (.int .i64 0)).set_ 2 (.slice none 0 0)).set_ 3 (.int .i64 0)) 0).trans (rfl : _ = some (Value.int .i64 0))
        have rc1 := (Blk.cell ((((K_r.out.set_ 0 (.int .i64 0)).set_ 1 (.int .i64 0)).set_ 2 (.slice none 0 0)).set_ 3 (.int .i64 0)) 1).trans (rfl : _ = some (Value.int .i64 0))
        have rc2 := (Blk.cell ((((K_r.out.set_ 0 (.int .i64 0)).set_ 1 (.int .i64 0)).set_ 2 (.slice none 0 0)).set_ 3 (.int .i64 0)) 2).trans (rfl : _ = some (Value.slice none 0 0))
        have rc3 := (Blk.cell ((((K_r.out.set_ 0 (.int .i64 0)).set_ 1 (.int .i64 0)).set_ 2 (.slice none 0 0)).set_ 3 (.int .i64 0)) 3).trans (rfl : _ = some (Value.int .i64 0))
        exact bodyPost_ret (v := .tuple #[.agg #[.int .i64 0, .int .i64 0, .slice none 0 0, .int .i64 0], .bool false, .int .i64 14]) (by simp [results, Tryz.results26, go_sem, rc0, rc1, rc2, rc3]) rfl ⟨rfl, ((((HB.out.setCell (p := ⟨(w.heap.size + 2), 0, none⟩) (by show w.heap.size ≤ (w.heap.size + 2); omega) (.int .i64 0)).setCell (p := ⟨(w.heap.size + 2), 1, none⟩) (by show w.heap.size ≤ (w.heap.size + 2); omega) (.int .i64 0)).setCell (p := ⟨(w.heap.size + 2), 2, none⟩) (by show w.heap.size ≤ (w.heap.size + 2); omega) (.slice none 0 0)).setCell (p := ⟨(w.heap.size + 2), 3, none⟩) (by show w.heap.size ≤ (w.heap.size + 2); omega) (.int .i64 0))⟩
      · by_cases h4 : found < 0
        · rw [if_neg h1] at h
          rw [Classical.not_not.1 h1] at HC
          rw [if_neg h2] at h
          have h2r := Classical.not_not.1 h2
          rw [h2r] at HR
          rw [if_neg h3] at h
          rw [if_pos (by exact Or.inl h4)] at h
          subst h
          obtain ⟨a1, a2, -⟩ := rightI_zero h2r
          obtain ⟨m, rfl⟩ : ∃ m : Nat, mode = (m : Int) := ⟨mode.toNat, by omega⟩
          have hm3 : m < 3 := by omega
          have hm0 : (0 : Int) ≤ (m : Int) := by omega
          have hmi : (m : Int) < 3 := by omega
          have hne : ((m : Int) == 3) = false := by simp; omega
          clear h1 h2 h2r hz h3 a1 a2
          have hd : decide (found < 0) = true := decide_eq_true h4
          have HB := allocs_below w [.cells #[.int .i64 (S 0).1, .int .i64 (S 0).2, .int .i64 (S 1).1, .int .i64 (S 1).2, .int .i64 (S 2).1, .int .i64 (S 2).2] 43, .cells #[.int .i64 (m : Int), .int .i64 run, v, .int .i64 rej] 34, .cells #[.int .i64 0, .int .i64 0, .slice none 0 0, .int .i64 0] 34]
          have K_s : Blk (allocs w [.cells #[.int .i64 (S 0).1, .int .i64 (S 0).2, .int .i64 (S 1).1, .int .i64 (S 1).2, .int .i64 (S 2).1, .int .i64 (S 2).2] 43, .cells #[.int .i64 (m : Int), .int .i64 run, v, .int .i64 rej] 34, .cells #[.int .i64 0, .int .i64 0, .slice none 0 0, .int .i64 0] 34]) (w.heap.size + 0) 43 #[.int .i64 (S 0).1, .int .i64 (S 0).2, .int .i64 (S 1).1, .int .i64 (S 1).2, .int .i64 (S 2).1, .int .i64 (S 2).2] := allocs_at w [.cells #[.int .i64 (S 0).1, .int .i64 (S 0).2, .int .i64 (S 1).1, .int .i64 (S 1).2, .int .i64 (S 2).1, .int .i64 (S 2).2] 43, .cells #[.int .i64 (m : Int), .int .i64 run, v, .int .i64 rej] 34, .cells #[.int .i64 0, .int .i64 0, .slice none 0 0, .int .i64 0] 34] 0 rfl
          have K_x : Blk (allocs w [.cells #[.int .i64 (S 0).1, .int .i64 (S 0).2, .int .i64 (S 1).1, .int .i64 (S 1).2, .int .i64 (S 2).1, .int .i64 (S 2).2] 43, .cells #[.int .i64 (m : Int), .int .i64 run, v, .int .i64 rej] 34, .cells #[.int .i64 0, .int .i64 0, .slice none 0 0, .int .i64 0] 34]) (w.heap.size + 1) 34 #[.int .i64 (m : Int), .int .i64 run, v, .int .i64 rej] := allocs_at w [.cells #[.int .i64 (S 0).1, .int .i64 (S 0).2, .int .i64 (S 1).1, .int .i64 (S 1).2, .int .i64 (S 2).1, .int .i64 (S 2).2] 43, .cells #[.int .i64 (m : Int), .int .i64 run, v, .int .i64 rej] 34, .cells #[.int .i64 0, .int .i64 0, .slice none 0 0, .int .i64 0] 34] 1 rfl
          have K_r : Blk (allocs w [.cells #[.int .i64 (S 0).1, .int .i64 (S 0).2, .int .i64 (S 1).1, .int .i64 (S 1).2, .int .i64 (S 2).1, .int .i64 (S 2).2] 43, .cells #[.int .i64 (m : Int), .int .i64 run, v, .int .i64 rej] 34, .cells #[.int .i64 0, .int .i64 0, .slice none 0 0, .int .i64 0] 34]) (w.heap.size + 2) 34 #[.int .i64 0, .int .i64 0, .slice none 0 0, .int .i64 0] := allocs_at w [.cells #[.int .i64 (S 0).1, .int .i64 (S 0).2, .int .i64 (S 1).1, .int .i64 (S 1).2, .int .i64 (S 2).1, .int .i64 (S 2).2] 43, .cells #[.int .i64 (m : Int), .int .i64 run, v, .int .i64 rej] 34, .cells #[.int .i64 0, .int .i64 0, .slice none 0 0, .int .i64 0] 34] 2 rfl
          unfold allocs at HB K_s K_x K_r
          simp only [List.foldl_cons, List.foldl_nil] at HB K_s K_x K_r
          rw [Nat.add_zero] at K_s
          go_enter Tryz.func26, Tryz.ntmps26
          go_upto_region 1 with (fail)
          generalize (((w.alloc (.cells #[.int .i64 (S 0).1, .int .i64 (S 0).2, .int .i64 (S 1).1, .int .i64 (S 1).2, .int .i64 (S 2).1, .int .i64 (S 2).2] 43)).alloc (.cells #[.int .i64 (m : Int), .int .i64 run, v, .int .i64 rej] 34)).alloc (.cells #[.int .i64 0, .int .i64 0, .slice none 0 0, .int .i64 0] 34)) = w0 at *
          replace K_s := hide K_s
          replace K_x := hide K_x
          replace K_r := hide K_r
          replace HB := hide HB
          have hat : ∀ j, j < 3 → w0.cell? ⟨w.heap.size, j * 2, none⟩ = some (.int .i64 (S j).1) ∧ w0.cell? ⟨w.heap.size, j * 2 + 1, none⟩ = some (.int .i64 (S j).2) := fun j hj => by
            rcases (by omega : j = 0 ∨ j = 1 ∨ j = 2) with rfl | rfl | rfl
            · exact ⟨(Blk.cell K_s.out 0).trans rfl, (Blk.cell K_s.out 1).trans rfl⟩
            · exact ⟨(Blk.cell K_s.out 2).trans rfl, (Blk.cell K_s.out 3).trans rfl⟩
            · exact ⟨(Blk.cell K_s.out 4).trans rfl, (Blk.cell K_s.out 5).trans rfl⟩
          obtain ⟨q1, q2⟩ := hat m hm3
          have Q1 := hide q1
          have Q2 := hide q2
          clear hat q1 q2
          have s0 := (Blk.cell K_s.out 0).trans (rfl : _ = some (Value.int .i64 (S 0).1))
          have s1 := (Blk.cell K_s.out 1).trans (rfl : _ = some (Value.int .i64 (S 0).2))
          have s2 := (Blk.cell K_s.out 2).trans (rfl : _ = some (Value.int .i64 (S 1).1))
          have s3 := (Blk.cell K_s.out 3).trans (rfl : _ = some (Value.int .i64 (S 1).2))
          have s4 := (Blk.cell K_s.out 4).trans (rfl : _ = some (Value.int .i64 (S 2).1))
          have s5 := (Blk.cell K_s.out 5).trans (rfl : _ = some (Value.int .i64 (S 2).2))
          go_wp2_with fail
          refine (HC.out _).mono ?_
          rintro e w1 ⟨rfl, hb⟩
          replace Q1 := hide ((bcell hb _ _ (block_lt_of_cell Q1.out)).trans Q1.out)
          replace Q2 := hide ((bcell hb _ _ (block_lt_of_cell Q2.out)).trans Q2.out)
          clear s0 s1 s2 s3 s4 s5
          replace K_s := hide (Blk.below K_s.out hb (Blk.lt K_s.out))
          replace K_x := hide (Blk.below K_x.out hb (Blk.lt K_x.out))
          replace K_r := hide (Blk.below K_r.out hb (Blk.lt K_r.out))
          replace HB := hide (HB.out.trans (hb.mono HB.out.size))
          clear hb
          have x0 := (Blk.cell K_x.out 0).trans (rfl : _ = some (Value.int .i64 (m : Int)))
          have x1 := (Blk.cell K_x.out 1).trans (rfl : _ = some (Value.int .i64 run))
          have x2 := (Blk.cell K_x.out 2).trans (rfl : _ = some (v))
          have x3 := (Blk.cell K_x.out 3).trans (rfl : _ = some (Value.int .i64 rej))
          go_wp2_with fail
          refine (HR.out _ (HV.out.below HB.out)).mono ?_
          rintro e w2 ⟨rfl, hb⟩
          replace Q1 := hide ((bcell hb _ _ (block_lt_of_cell Q1.out)).trans Q1.out)
          replace Q2 := hide ((bcell hb _ _ (block_lt_of_cell Q2.out)).trans Q2.out)
          clear x0 x1 x2 x3
          replace K_s := hide (Blk.below K_s.out hb (Blk.lt K_s.out))
          replace K_x := hide (Blk.below K_x.out hb (Blk.lt K_x.out))
          replace K_r := hide (Blk.below K_r.out hb (Blk.lt K_r.out))
          replace HB := hide (HB.out.trans (hb.mono HB.out.size))
          clear hb
          have x0 := (Blk.cell K_x.out 0).trans (rfl : _ = some (Value.int .i64 (m : Int)))
          have x1 := (Blk.cell K_x.out 1).trans (rfl : _ = some (Value.int .i64 run))
          have x2 := (Blk.cell K_x.out 2).trans (rfl : _ = some (v))
          have x3 := (Blk.cell K_x.out 3).trans (rfl : _ = some (Value.int .i64 rej))
          have q1 := Q1.out
          have q2 := Q2.out
          have r0 := (Blk.cell K_r.out 0).trans (rfl : _ = some (Value.int .i64 0))
          have rf0 := Blk.frozen K_r.out 0
          have r1 := (Blk.cell K_r.out 1).trans (rfl : _ = some (Value.int .i64 0))
          have rf1 := Blk.frozen K_r.out 1
          have r2 := (Blk.cell K_r.out 2).trans (rfl : _ = some (Value.slice none 0 0))
          have rf2 := Blk.frozen K_r.out 2
          have r3 := (Blk.cell K_r.out 3).trans (rfl : _ = some (Value.int .i64 0))
          have rf3 := Blk.frozen K_r.out 3
          go_wp2_with fail
          have rc0 := (Blk.cell ((((K_r.out.set_ 0 (.int .i64 0)).set_ 1 (.int .i64 0)).set_ 2 (.slice none 0 0)).set_ 3 (.int .i64 0)) 0).trans (rfl : _ = some (Value.int .i64 0))
          have rc1 := (Blk.cell ((((K_r.out.set_ 0 (.int .i64 0)).set_ 1 (.int .i64 0)).set_ 2 (.slice none 0 0)).set_ 3 (.int .i64 0)) 1).trans (rfl : _ = some (Value.int .i64 0))
          have rc2 := (Blk.cell ((((K_r.out.set_ 0 (.int .i64 0)).set_ 1 (.int .i64 0)).set_ 2 (.slice none 0 0)).set_ 3 (.int .i64 0)) 2).trans (rfl : _ = some (Value.slice none 0 0))
          have rc3 := (Blk.cell ((((K_r.out.set_ 0 (.int .i64 0)).set_ 1 (.int .i64 0)).set_ 2 (.slice none 0 0)).set_ 3 (.int .i64 0)) 3).trans (rfl : _ = some (Value.int .i64 0))
          exact bodyPost_ret (v := .tuple #[.agg #[.int .i64 0, .int .i64 0, .slice none 0 0, .int .i64 0], .bool false, .int .i64 2]) (by simp [results, Tryz.results26, go_sem, rc0, rc1, rc2, rc3]) rfl ⟨rfl, ((((HB.out.setCell (p := ⟨(w.heap.size + 2), 0, none⟩) (by show w.heap.size ≤ (w.heap.size + 2); omega) (.int .i64 0)).setCell (p := ⟨(w.heap.size + 2), 1, none⟩) (by show w.heap.size ≤ (w.heap.size + 2); omega) (.int .i64 0)).setCell (p := ⟨(w.heap.size + 2), 2, none⟩) (by show w.heap.size ≤ (w.heap.size + 2); omega) (.slice none 0 0)).setCell (p := ⟨(w.heap.size + 2), 3, none⟩) (by show w.heap.size ≤ (w.heap.size + 2); omega) (.int .i64 0))⟩
        · by_cases h5 : (S mode.toNat).1 < found
          · rw [if_neg h1] at h
            rw [Classical.not_not.1 h1] at HC
            rw [if_neg h2] at h
            have h2r := Classical.not_not.1 h2
            rw [h2r] at HR
            rw [if_neg h3] at h
            rw [if_pos (by exact Or.inr h5)] at h
            subst h
            obtain ⟨a1, a2, -⟩ := rightI_zero h2r
            obtain ⟨m, rfl⟩ : ∃ m : Nat, mode = (m : Int) := ⟨mode.toNat, by omega⟩
            have hm3 : m < 3 := by omega
            have hm0 : (0 : Int) ≤ (m : Int) := by omega
            have hmi : (m : Int) < 3 := by omega
            have hne : ((m : Int) == 3) = false := by simp; omega
            clear h1 h2 h2r hz h3 a1 a2
            have hd : decide (found < 0) = false := decide_eq_false h4
            rw [show (m : Int).toNat = m by omega] at h5
            obtain ⟨p, hp⟩ : ∃ p, S m = p := ⟨_, rfl⟩
            obtain ⟨sz, ac⟩ := p
            rw [hp] at h5
            simp only at h5
            have HP := hide hp
            clear hp
            have hd2 : decide (sz < found) = true := decide_eq_true h5
            have HB := allocs_below w [.cells #[.int .i64 (S 0).1, .int .i64 (S 0).2, .int .i64 (S 1).1, .int .i64 (S 1).2, .int .i64 (S 2).1, .int .i64 (S 2).2] 43, .cells #[.int .i64 (m : Int), .int .i64 run, v, .int .i64 rej] 34, .cells #[.int .i64 0, .int .i64 0, .slice none 0 0, .int .i64 0] 34]
            have K_s : Blk (allocs w [.cells #[.int .i64 (S 0).1, .int .i64 (S 0).2, .int .i64 (S 1).1, .int .i64 (S 1).2, .int .i64 (S 2).1, .int .i64 (S 2).2] 43, .cells #[.int .i64 (m : Int), .int .i64 run, v, .int .i64 rej] 34, .cells #[.int .i64 0, .int .i64 0, .slice none 0 0, .int .i64 0] 34]) (w.heap.size + 0) 43 #[.int .i64 (S 0).1, .int .i64 (S 0).2, .int .i64 (S 1).1, .int .i64 (S 1).2, .int .i64 (S 2).1, .int .i64 (S 2).2] := allocs_at w [.cells #[.int .i64 (S 0).1, .int .i64 (S 0).2, .int .i64 (S 1).1, .int .i64 (S 1).2, .int .i64 (S 2).1, .int .i64 (S 2).2] 43, .cells #[.int .i64 (m : Int), .int .i64 run, v, .int .i64 rej] 34, .cells #[.int .i64 0, .int .i64 0, .slice none 0 0, .int .i64 0] 34] 0 rfl
            have K_x : Blk (allocs w [.cells #[.int .i64 (S 0).1, .int .i64 (S 0).2, .int .i64 (S 1).1, .int .i64 (S 1).2, .int .i64 (S 2).1, .int .i64 (S 2).2] 43, .cells #[.int .i64 (m : Int), .int .i64 run, v, .int .i64 rej] 34, .cells #[.int .i64 0, .int .i64 0, .slice none 0 0, .int .i64 0] 34]) (w.heap.size + 1) 34 #[.int .i64 (m : Int), .int .i64 run, v, .int .i64 rej] := allocs_at w [.cells #[.int .i64 (S 0).1, .int .i64 (S 0).2, .int .i64 (S 1).1, .int .i64 (S 1).2, .int .i64 (S 2).1, .int .i64 (S 2).2] 43, .cells #[.int .i64 (m : Int), .int .i64 run, v, .int .i64 rej] 34, .cells #[.int .i64 0, .int .i64 0, .slice none 0 0, .int .i64 0] 34] 1 rfl
            have K_r : Blk (allocs w [.cells #[.int .i64 (S 0).1, .int .i64 (S 0).2, .int .i64 (S 1).1, .int .i64 (S 1).2, .int .i64 (S 2).1, .int .i64 (S 2).2] 43, .cells #[.int .i64 (m : Int), .int .i64 run, v, .int .i64 rej] 34, .cells #[.int .i64 0, .int .i64 0, .slice none 0 0, .int .i64 0] 34]) (w.heap.size + 2) 34 #[.int .i64 0, .int .i64 0, .slice none 0 0, .int .i64 0] := allocs_at w [.cells #[.int .i64 (S 0).1, .int .i64 (S 0).2, .int .i64 (S 1).1, .int .i64 (S 1).2, .int .i64 (S 2).1, .int .i64 (S 2).2] 43, .cells #[.int .i64 (m : Int), .int .i64 run, v, .int .i64 rej] 34, .cells #[.int .i64 0, .int .i64 0, .slice none 0 0, .int .i64 0] 34] 2 rfl
            unfold allocs at HB K_s K_x K_r
            simp only [List.foldl_cons, List.foldl_nil] at HB K_s K_x K_r
            rw [Nat.add_zero] at K_s
            go_enter Tryz.func26, Tryz.ntmps26
            go_upto_region 1 with (fail)
            generalize (((w.alloc (.cells #[.int .i64 (S 0).1, .int .i64 (S 0).2, .int .i64 (S 1).1, .int .i64 (S 1).2, .int .i64 (S 2).1, .int .i64 (S 2).2] 43)).alloc (.cells #[.int .i64 (m : Int), .int .i64 run, v, .int .i64 rej] 34)).alloc (.cells #[.int .i64 0, .int .i64 0, .slice none 0 0, .int .i64 0] 34)) = w0 at *
            replace K_s := hide K_s
            replace K_x := hide K_x
            replace K_r := hide K_r
            replace HB := hide HB
            have hat : ∀ j, j < 3 → w0.cell? ⟨w.heap.size, j * 2, none⟩ = some (.int .i64 (S j).1) ∧ w0.cell? ⟨w.heap.size, j * 2 + 1, none⟩ = some (.int .i64 (S j).2) := fun j hj => by
              rcases (by omega : j = 0 ∨ j = 1 ∨ j = 2) with rfl | rfl | rfl
              · exact ⟨(Blk.cell K_s.out 0).trans rfl, (Blk.cell K_s.out 1).trans rfl⟩
              · exact ⟨(Blk.cell K_s.out 2).trans rfl, (Blk.cell K_s.out 3).trans rfl⟩
              · exact ⟨(Blk.cell K_s.out 4).trans rfl, (Blk.cell K_s.out 5).trans rfl⟩
            obtain ⟨q1, q2⟩ := hat m hm3
            rw [HP.out] at q1 q2
            have Q1 := hide q1
            have Q2 := hide q2
            clear hat q1 q2
            have s0 := (Blk.cell K_s.out 0).trans (rfl : _ = some (Value.int .i64 (S 0).1))
            have s1 := (Blk.cell K_s.out 1).trans (rfl : _ = some (Value.int .i64 (S 0).2))
            have s2 := (Blk.cell K_s.out 2).trans (rfl : _ = some (Value.int .i64 (S 1).1))
            have s3 := (Blk.cell K_s.out 3).trans (rfl : _ = some (Value.int .i64 (S 1).2))
            have s4 := (Blk.cell K_s.out 4).trans (rfl : _ = some (Value.int .i64 (S 2).1))
            have s5 := (Blk.cell K_s.out 5).trans (rfl : _ = some (Value.int .i64 (S 2).2))
            go_wp2_with fail
            refine (HC.out _).mono ?_
            rintro e w1 ⟨rfl, hb⟩
            replace Q1 := hide ((bcell hb _ _ (block_lt_of_cell Q1.out)).trans Q1.out)
            replace Q2 := hide ((bcell hb _ _ (block_lt_of_cell Q2.out)).trans Q2.out)
            clear s0 s1 s2 s3 s4 s5
            replace K_s := hide (Blk.below K_s.out hb (Blk.lt K_s.out))
            replace K_x := hide (Blk.below K_x.out hb (Blk.lt K_x.out))
            replace K_r := hide (Blk.below K_r.out hb (Blk.lt K_r.out))
            replace HB := hide (HB.out.trans (hb.mono HB.out.size))
            clear hb
            have x0 := (Blk.cell K_x.out 0).trans (rfl : _ = some (Value.int .i64 (m : Int)))
            have x1 := (Blk.cell K_x.out 1).trans (rfl : _ = some (Value.int .i64 run))
            have x2 := (Blk.cell K_x.out 2).trans (rfl : _ = some (v))
            have x3 := (Blk.cell K_x.out 3).trans (rfl : _ = some (Value.int .i64 rej))
            go_wp2_with fail
            refine (HR.out _ (HV.out.below HB.out)).mono ?_
            rintro e w2 ⟨rfl, hb⟩
            replace Q1 := hide ((bcell hb _ _ (block_lt_of_cell Q1.out)).trans Q1.out)
            replace Q2 := hide ((bcell hb _ _ (block_lt_of_cell Q2.out)).trans Q2.out)
            clear x0 x1 x2 x3
            replace K_s := hide (Blk.below K_s.out hb (Blk.lt K_s.out))
            replace K_x := hide (Blk.below K_x.out hb (Blk.lt K_x.out))
            replace K_r := hide (Blk.below K_r.out hb (Blk.lt K_r.out))
            replace HB := hide (HB.out.trans (hb.mono HB.out.size))
            clear hb
            have x0 := (Blk.cell K_x.out 0).trans (rfl : _ = some (Value.int .i64 (m : Int)))
            have x1 := (Blk.cell K_x.out 1).trans (rfl : _ = some (Value.int .i64 run))
            have x2 := (Blk.cell K_x.out 2).trans (rfl : _ = some (v))
            have x3 := (Blk.cell K_x.out 3).trans (rfl : _ = some (Value.int .i64 rej))
            have q1 := Q1.out
            have q2 := Q2.out
            have r0 := (Blk.cell K_r.out 0).trans (rfl : _ = some (Value.int .i64 0))
            have rf0 := Blk.frozen K_r.out 0
            have r1 := (Blk.cell K_r.out 1).trans (rfl : _ = some (Value.int .i64 0))
            have rf1 := Blk.frozen K_r.out 1
            have r2 := (Blk.cell K_r.out 2).trans (rfl : _ = some (Value.slice none 0 0))
            have rf2 := Blk.frozen K_r.out 2
            have r3 := (Blk.cell K_r.out 3).trans (rfl : _ = some (Value.int .i64 0))
            have rf3 := Blk.frozen K_r.out 3
            go_wp2_with fail
            have rc0 := (Blk.cell ((((K_r.out.set_ 0 (.int .i64 0)).set_ 1 (.int .i64 0)).set_ 2 (.slice none 0 0)).set_ 3 (.int .i64 0)) 0).trans (rfl : _ = some (Value.int .i64 0))
            have rc1 := (Blk.cell ((((K_r.out.set_ 0 (.int .i64 0)).set_ 1 (.int .i64 0)).set_ 2 (.slice none 0 0)).set_ 3 (.int .i64 0)) 1).trans (rfl : _ = some (Value.int .i64 0))
            have rc2 := (Blk.cell ((((K_r.out.set_ 0 (.int .i64 0)).set_ 1 (.int .i64 0)).set_ 2 (.slice none 0 0)).set_ 3 (.int .i64 0)) 2).trans (rfl : _ = some (Value.slice none 0 0))
            have rc3 := (Blk.cell ((((K_r.out.set_ 0 (.int .i64 0)).set_ 1 (.int .i64 0)).set_ 2 (.slice none 0 0)).set_ 3 (.int .i64 0)) 3).trans (rfl : _ = some (Value.int .i64 0))
            exact bodyPost_ret (v := .tuple #[.agg #[.int .i64 0, .int .i64 0, .slice none 0 0, .int .i64 0], .bool false, .int .i64 2]) (by simp [results, Tryz.results26, go_sem, rc0, rc1, rc2, rc3]) rfl ⟨rfl, ((((HB.out.setCell (p := ⟨(w.heap.size + 2), 0, none⟩) (by show w.heap.size ≤ (w.heap.size + 2); omega) (.int .i64 0)).setCell (p := ⟨(w.heap.size + 2), 1, none⟩) (by show w.heap.size ≤ (w.heap.size + 2); omega) (.int .i64 0)).setCell (p := ⟨(w.heap.size + 2), 2, none⟩) (by show w.heap.size ≤ (w.heap.size + 2); omega) (.slice none 0 0)).setCell (p := ⟨(w.heap.size + 2), 3, none⟩) (by show w.heap.size ≤ (w.heap.size + 2); omega) (.int .i64 0))⟩
          · rw [if_neg h1, if_neg h2, if_neg h3, if_neg (by rintro (h | h); exact h4 h; exact h5 h)] at h
            exact absurd h.symm hz
set_option maxRecDepth 100000 in
set_option maxHeartbeats 4000000 in
theorem rswnext_ok (w : World) (S : Nat → Int × Int) (x : Sw) (found : Int) (v : Value) (hv : SlL w v (bcl x.last)) (hS : ckS S = 0) (hx : RightS x) (h3 : x.mode ≠ 3) (h0 : 0 ≤ found) (hf : found ≤ (S x.mode).1) :
    Calls Tryz.prog 26 #[schV S, .agg #[.int .i64 (x.mode : Int), .int .i64 (x.run : Int), v, .int .i64 (x.rej : Int)], .int .i64 found] w fun e w' => ∃ u, e = .returned (.tuple #[u, .bool (decide (found ≤ (S x.mode).2)), .int .i64 0]) ∧ StN w.heap.size w' u (goesS x (decide (found ≤ (S x.mode).2))) ∧ Below w.heap.size w w' := by
  have HV := hide hv
  have HC := hide (fun (W : World) => rswck_any W S)
  have hlen := (rightI_zero hx).2.2.2.2.2.2.1
  have HR := hide (fun (W : World) (h : SlL W v (bcl x.last)) => rswright_any W (x.mode : Int) (x.run : Int) (x.rej : Int) v x.last h (by omega))
  rw [show rightI (x.mode : Int) (x.run : Int) x.last (x.rej : Int) = 0 from hx] at HR
  rw [hS] at HC
  unfold schV at HC ⊢
  obtain ⟨a1, a2, -⟩ := rightI_zero hx
  have HG := hide (fun (W : World) (h : SlL W v (bcl x.last)) (ok : Bool) => rgoes_any W x ok v h hx)
  obtain ⟨ok, hokk⟩ : ∃ b, decide (found ≤ (S x.mode).2) = b := ⟨_, rfl⟩
  rw [hokk]
  obtain ⟨y, hy⟩ : ∃ y, goesS x ok = y := ⟨_, rfl⟩
  replace HG := hide (fun W h => HG.out W h ok)
  rw [hy] at HG ⊢
  clear hlen hy
  clear hx hS
  obtain ⟨m, rn, l, d⟩ := x
  simp only at *
  have hm3 : m < 3 := by omega
  have hm0 : (0 : Int) ≤ (m : Int) := by omega
  have hmi : (m : Int) < 3 := by omega
  have hne : ((m : Int) == 3) = false := by simp; omega
  obtain ⟨p, hp⟩ : ∃ p, S m = p := ⟨_, rfl⟩
  obtain ⟨sz, ac⟩ := p
  rw [hp] at hf hokk
  simp only at hf hokk
  have HP := hide hp
  clear hp h3 a1 a2
  have hd : decide (found < 0) = false := decide_eq_false (by omega)
  have hd2 : decide (sz < found) = false := decide_eq_false (by omega)
  have HB := allocs_below w [.cells #[.int .i64 (S 0).1, .int .i64 (S 0).2, .int .i64 (S 1).1, .int .i64 (S 1).2, .int .i64 (S 2).1, .int .i64 (S 2).2] 43, .cells #[.int .i64 (m : Int), .int .i64 (rn : Int), v, .int .i64 (d : Int)] 34, .cells #[.int .i64 0, .int .i64 0, .slice none 0 0, .int .i64 0] 34]
  have K_s : Blk (allocs w [.cells #[.int .i64 (S 0).1, .int .i64 (S 0).2, .int .i64 (S 1).1, .int .i64 (S 1).2, .int .i64 (S 2).1, .int .i64 (S 2).2] 43, .cells #[.int .i64 (m : Int), .int .i64 (rn : Int), v, .int .i64 (d : Int)] 34, .cells #[.int .i64 0, .int .i64 0, .slice none 0 0, .int .i64 0] 34]) (w.heap.size + 0) 43 #[.int .i64 (S 0).1, .int .i64 (S 0).2, .int .i64 (S 1).1, .int .i64 (S 1).2, .int .i64 (S 2).1, .int .i64 (S 2).2] := allocs_at w [.cells #[.int .i64 (S 0).1, .int .i64 (S 0).2, .int .i64 (S 1).1, .int .i64 (S 1).2, .int .i64 (S 2).1, .int .i64 (S 2).2] 43, .cells #[.int .i64 (m : Int), .int .i64 (rn : Int), v, .int .i64 (d : Int)] 34, .cells #[.int .i64 0, .int .i64 0, .slice none 0 0, .int .i64 0] 34] 0 rfl
  have K_x : Blk (allocs w [.cells #[.int .i64 (S 0).1, .int .i64 (S 0).2, .int .i64 (S 1).1, .int .i64 (S 1).2, .int .i64 (S 2).1, .int .i64 (S 2).2] 43, .cells #[.int .i64 (m : Int), .int .i64 (rn : Int), v, .int .i64 (d : Int)] 34, .cells #[.int .i64 0, .int .i64 0, .slice none 0 0, .int .i64 0] 34]) (w.heap.size + 1) 34 #[.int .i64 (m : Int), .int .i64 (rn : Int), v, .int .i64 (d : Int)] := allocs_at w [.cells #[.int .i64 (S 0).1, .int .i64 (S 0).2, .int .i64 (S 1).1, .int .i64 (S 1).2, .int .i64 (S 2).1, .int .i64 (S 2).2] 43, .cells #[.int .i64 (m : Int), .int .i64 (rn : Int), v, .int .i64 (d : Int)] 34, .cells #[.int .i64 0, .int .i64 0, .slice none 0 0, .int .i64 0] 34] 1 rfl
  have K_r : Blk (allocs w [.cells #[.int .i64 (S 0).1, .int .i64 (S 0).2, .int .i64 (S 1).1, .int .i64 (S 1).2, .int .i64 (S 2).1, .int .i64 (S 2).2] 43, .cells #[.int .i64 (m : Int), .int .i64 (rn : Int), v, .int .i64 (d : Int)] 34, .cells #[.int .i64 0, .int .i64 0, .slice none 0 0, .int .i64 0] 34]) (w.heap.size + 2) 34 #[.int .i64 0, .int .i64 0, .slice none 0 0, .int .i64 0] := allocs_at w [.cells #[.int .i64 (S 0).1, .int .i64 (S 0).2, .int .i64 (S 1).1, .int .i64 (S 1).2, .int .i64 (S 2).1, .int .i64 (S 2).2] 43, .cells #[.int .i64 (m : Int), .int .i64 (rn : Int), v, .int .i64 (d : Int)] 34, .cells #[.int .i64 0, .int .i64 0, .slice none 0 0, .int .i64 0] 34] 2 rfl
  unfold allocs at HB K_s K_x K_r
  simp only [List.foldl_cons, List.foldl_nil] at HB K_s K_x K_r
  rw [Nat.add_zero] at K_s
  go_enter Tryz.func26, Tryz.ntmps26
  go_upto_region 1 with (fail)
  generalize (((w.alloc (.cells #[.int .i64 (S 0).1, .int .i64 (S 0).2, .int .i64 (S 1).1, .int .i64 (S 1).2, .int .i64 (S 2).1, .int .i64 (S 2).2] 43)).alloc (.cells #[.int .i64 (m : Int), .int .i64 (rn : Int), v, .int .i64 (d : Int)] 34)).alloc (.cells #[.int .i64 0, .int .i64 0, .slice none 0 0, .int .i64 0] 34)) = w0 at *
  replace K_s := hide K_s
  replace K_x := hide K_x
  replace K_r := hide K_r
  replace HB := hide HB
  have hat : ∀ j, j < 3 → w0.cell? ⟨w.heap.size, j * 2, none⟩ = some (.int .i64 (S j).1) ∧ w0.cell? ⟨w.heap.size, j * 2 + 1, none⟩ = some (.int .i64 (S j).2) := fun j hj => by
    rcases (by omega : j = 0 ∨ j = 1 ∨ j = 2) with rfl | rfl | rfl
    · exact ⟨(Blk.cell K_s.out 0).trans rfl, (Blk.cell K_s.out 1).trans rfl⟩
    · exact ⟨(Blk.cell K_s.out 2).trans rfl, (Blk.cell K_s.out 3).trans rfl⟩
    · exact ⟨(Blk.cell K_s.out 4).trans rfl, (Blk.cell K_s.out 5).trans rfl⟩
  obtain ⟨q1, q2⟩ := hat m hm3
  rw [HP.out] at q1 q2
  have Q1 := hide q1
  have Q2 := hide q2
  clear hat q1 q2
  have s0 := (Blk.cell K_s.out 0).trans (rfl : _ = some (Value.int .i64 (S 0).1))
  have s1 := (Blk.cell K_s.out 1).trans (rfl : _ = some (Value.int .i64 (S 0).2))
  have s2 := (Blk.cell K_s.out 2).trans (rfl : _ = some (Value.int .i64 (S 1).1))
  have s3 := (Blk.cell K_s.out 3).trans (rfl : _ = some (Value.int .i64 (S 1).2))
  have s4 := (Blk.cell K_s.out 4).trans (rfl : _ = some (Value.int .i64 (S 2).1))
  have s5 := (Blk.cell K_s.out 5).trans (rfl : _ = some (Value.int .i64 (S 2).2))
  go_wp2_with fail
  refine (HC.out _).mono ?_
  rintro e w1 ⟨rfl, hb⟩
  replace Q1 := hide ((bcell hb _ _ (block_lt_of_cell Q1.out)).trans Q1.out)
  replace Q2 := hide ((bcell hb _ _ (block_lt_of_cell Q2.out)).trans Q2.out)
  clear s0 s1 s2 s3 s4 s5
  replace K_s := hide (Blk.below K_s.out hb (Blk.lt K_s.out))
  replace K_x := hide (Blk.below K_x.out hb (Blk.lt K_x.out))
  replace K_r := hide (Blk.below K_r.out hb (Blk.lt K_r.out))
  replace HB := hide (HB.out.trans (hb.mono HB.out.size))
  clear hb
  have x0 := (Blk.cell K_x.out 0).trans (rfl : _ = some (Value.int .i64 (m : Int)))
  have x1 := (Blk.cell K_x.out 1).trans (rfl : _ = some (Value.int .i64 (rn : Int)))
  have x2 := (Blk.cell K_x.out 2).trans (rfl : _ = some (v))
  have x3 := (Blk.cell K_x.out 3).trans (rfl : _ = some (Value.int .i64 (d : Int)))
  go_wp2_with fail
  refine (HR.out _ (HV.out.below HB.out)).mono ?_
  rintro e w2 ⟨rfl, hb⟩
  replace Q1 := hide ((bcell hb _ _ (block_lt_of_cell Q1.out)).trans Q1.out)
  replace Q2 := hide ((bcell hb _ _ (block_lt_of_cell Q2.out)).trans Q2.out)
  clear x0 x1 x2 x3
  replace K_s := hide (Blk.below K_s.out hb (Blk.lt K_s.out))
  replace K_x := hide (Blk.below K_x.out hb (Blk.lt K_x.out))
  replace K_r := hide (Blk.below K_r.out hb (Blk.lt K_r.out))
  replace HB := hide (HB.out.trans (hb.mono HB.out.size))
  clear hb
  have x0 := (Blk.cell K_x.out 0).trans (rfl : _ = some (Value.int .i64 (m : Int)))
  have x1 := (Blk.cell K_x.out 1).trans (rfl : _ = some (Value.int .i64 (rn : Int)))
  have x2 := (Blk.cell K_x.out 2).trans (rfl : _ = some (v))
  have x3 := (Blk.cell K_x.out 3).trans (rfl : _ = some (Value.int .i64 (d : Int)))
  have q1 := Q1.out
  have q2 := Q2.out
  go_wp2_with fail
  refine (HG.out _ (HV.out.below HB.out)).mono ?_
  rintro e wt ⟨u, rfl, hst, hb⟩
  obtain ⟨sl, rfl, hsl, hfr⟩ := hst
  obtain ⟨A9, N9, c9, rfl⟩ := hsl.shape3
  have HSL := hide hsl
  have HFR := hide (hfr.mono HB.out.size)
  clear hfr
  clear hsl q1 q2
  clear x0 x1 x2 x3
  replace K_s := hide (Blk.below K_s.out hb (Blk.lt K_s.out))
  replace K_x := hide (Blk.below K_x.out hb (Blk.lt K_x.out))
  replace K_r := hide (Blk.below K_r.out hb (Blk.lt K_r.out))
  replace HB := hide (HB.out.trans (hb.mono HB.out.size))
  clear hb
  have r0 := (Blk.cell K_r.out 0).trans (rfl : _ = some (Value.int .i64 0))
  have rf0 := Blk.frozen K_r.out 0
  have r1 := (Blk.cell K_r.out 1).trans (rfl : _ = some (Value.int .i64 0))
  have rf1 := Blk.frozen K_r.out 1
  have r2 := (Blk.cell K_r.out 2).trans (rfl : _ = some (Value.slice none 0 0))
  have rf2 := Blk.frozen K_r.out 2
  have r3 := (Blk.cell K_r.out 3).trans (rfl : _ = some (Value.int .i64 0))
  have rf3 := Blk.frozen K_r.out 3
  go_wp2_with fail
  have rc0 := (Blk.cell ((((K_r.out.set_ 0 (.int .i64 (y.mode : Int))).set_ 1 (.int .i64 (y.run : Int))).set_ 2 (.slice A9 N9 c9)).set_ 3 (.int .i64 (y.rej : Int))) 0).trans (rfl : _ = some (Value.int .i64 (y.mode : Int)))
  have rc1 := (Blk.cell ((((K_r.out.set_ 0 (.int .i64 (y.mode : Int))).set_ 1 (.int .i64 (y.run : Int))).set_ 2 (.slice A9 N9 c9)).set_ 3 (.int .i64 (y.rej : Int))) 1).trans (rfl : _ = some (Value.int .i64 (y.run : Int)))
  have rc2 := (Blk.cell ((((K_r.out.set_ 0 (.int .i64 (y.mode : Int))).set_ 1 (.int .i64 (y.run : Int))).set_ 2 (.slice A9 N9 c9)).set_ 3 (.int .i64 (y.rej : Int))) 2).trans (rfl : _ = some (Value.slice A9 N9 c9))
  have rc3 := (Blk.cell ((((K_r.out.set_ 0 (.int .i64 (y.mode : Int))).set_ 1 (.int .i64 (y.run : Int))).set_ 2 (.slice A9 N9 c9)).set_ 3 (.int .i64 (y.rej : Int))) 3).trans (rfl : _ = some (Value.int .i64 (y.rej : Int)))
  exact bodyPost_ret (v := .tuple #[.agg #[.int .i64 (y.mode : Int), .int .i64 (y.run : Int), .slice A9 N9 c9, .int .i64 (y.rej : Int)], .bool ok, .int .i64 0]) (by simp [results, Tryz.results26, go_sem, rc0, rc1, rc2, rc3]) rfl ⟨_, rfl, ⟨_, rfl, HSL.out.own K_r.out zs_nobool (only_setCell (only_setCell (only_setCell (only_setCell (only_refl _ (some ((w.heap.size + 2)))) (p := ⟨(w.heap.size + 2), 0, none⟩) (Or.inl rfl) _) (p := ⟨(w.heap.size + 2), 1, none⟩) (Or.inl rfl) _) (p := ⟨(w.heap.size + 2), 2, none⟩) (Or.inl rfl) _) (p := ⟨(w.heap.size + 2), 3, none⟩) (Or.inl rfl) _), HFR.out⟩, ((((HB.out.setCell (p := ⟨(w.heap.size + 2), 0, none⟩) (by show w.heap.size ≤ (w.heap.size + 2); omega) (.int .i64 (y.mode : Int))).setCell (p := ⟨(w.heap.size + 2), 1, none⟩) (by show w.heap.size ≤ (w.heap.size + 2); omega) (.int .i64 (y.run : Int))).setCell (p := ⟨(w.heap.size + 2), 2, none⟩) (by show w.heap.size ≤ (w.heap.size + 2); omega) (.slice A9 N9 c9)).setCell (p := ⟨(w.heap.size + 2), 3, none⟩) (by show w.heap.size ≤ (w.heap.size + 2); omega) (.int .i64 (y.rej : Int)))⟩
end Go.Proofs.YthmmgjieppknkaaGreatDoor
