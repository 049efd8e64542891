/- Contracts and plain laws that the statements of this seat share (part Tdag). -/
import Derived.Test.YthmmgjieppknkaaGreatDoorTdab
import Derived.Test.YthmmgjieppknkaaGreatDoorTdad
import Derived.Test.YthmmgjieppknkaaGreatDoorKtaa
import Derived.Test.YthmmgjieppknkaaGreatDoorKtac
import Derived.Test.YthmmgjieppknkaaGreatDoorKtad
import Derived.Test.YthmmgjieppknkaaGreatDoorKtai
import Derived.Test.YthmmgjieppknkaaGreatDoorKtak
import Derived.Test.YthmmgjieppknkaaGreatDoorKtal
import Derived.Test.YthmmgjieppknkaaGreatDoorKtam
import Derived.Test.YthmmgjieppknkaaGreatDoorKtan
import Derived.Test.YthmmgjieppknkaaGreatDoorKtas
import Derived.Test.YthmmgjieppknkaaGreatDoorKtat
import Derived.Test.YthmmgjieppknkaaGreatDoorKtau
import Derived.Lib.ItoaNum
import Derived.Lib.ItoaLen
import Derived.Lib.Atoi
import Derived.Lib.AtoiAll
import Derived.Lib.Strings
import Derived.Lib.SlTrimSet
import Derived.Deep.RegionWith
import Derived.Deep.RegionLaw
import Derived.RegionTactic
import Derived.Laws.Tables
import Derived.Test.YthmmgjieppknkaaGreatDoorChecked
import Derived.WalkKit
import Derived.WalkSpells
import Derived.WalkLawsBesides
import Derived.Lib.Hide
import Derived.IntWalk
import Derived.BigQuiet
import Derived.Deep.QuietTactic
import Derived.Deep.LoopGhost
import Derived.Deep.DeepCutAuto
import Derived.Deep.DeepFit
import Derived.Deep.Light
import Derived.Outline
import Derived.Laws.Rows
import Derived.Laws.NewBlocks
import Derived.Laws.CopyOwn
import Derived.Lib.Builder
import Derived.Lib.AppendStr
import Derived.Laws.Externs
import Derived.WalkSmall
import Derived.Lib.AtoiErrMem
import Derived.Shelf.Strings.SlTrimAscii
import Derived.Shelf.Strings.Builder1
import Derived.Shelf.Strings.Trim
import Derived.Shelf.Small.Utf8
import Derived.Shelf.Small.Strs
import Derived.Shelf.Strings.BuilderF
import Derived.Shelf.Strings.BuilderK
import Derived.Shelf.Strconv.Atoi
import Derived.Shelf.Strconv.Itoa0
import Derived.Shelf.Strconv.Itoa1
import Derived.Shelf.LaysM
import Derived.Shelf.Strconv.Itoa2
import Derived.Shelf.Strconv.Itoa3
import Derived.Shelf.Strings.Search1
import Derived.Shelf.Strings.Search2
import Derived.Shelf.Strings.Cut
import Derived.Shelf.Strings.Shaped
import Derived.Shelf.Strings.Prefix
import Derived.Shelf.Strings.Runes
import Derived.Shelf.Strings.AsciiSet
import Derived.Shelf.Bits.Mul64
import Derived.Shelf.Unicode.DecodeSlow
import Derived.Test.YthmmgjieppknkaaGreatDoorProg
import Derived.Lib.IndexMore
import Derived.Lib.IndexBytes
import Derived.Lib.IndexLaws
import Derived.Deep.RegionHeld3
import Derived.BigRegion
import Derived.Deep.OwnRows
import Derived.Lib.LazyBuf
import Derived.Laws.BytesArg
import Derived.Shelf.Abstract
import Derived.RangeFuncSeq
namespace Go.Proofs.YthmmgjieppknkaaGreatDoor
open Go.RowKit Go.Shelf MLab
def dcE (N C bad : Int) : Int := if (1 ≤ N ∧ N ≤ 256 ∧ 0 ≤ C ∧ C ≤ N) ∧ 0 ≤ bad ∧ bad ≤ N then 0 else 2
def dcB (N C bad : Int) : Bool := if (1 ≤ N ∧ N ≤ 256 ∧ 0 ≤ C ∧ C ≤ N) ∧ 0 ≤ bad ∧ bad ≤ N then decide (bad ≤ C) else false
set_option maxRecDepth 100000 in
set_option maxHeartbeats 2000000 in
theorem pldec_any (w : World) (N C bad : Int) :
    Calls Tryz.prog 50 #[.agg #[.int .i64 N, .int .i64 C], .int .i64 bad] w fun e w' => e = .returned (.tuple #[.bool (dcB N C bad), .int .i64 (dcE N C bad)]) ∧ Below w.heap.size w w' := by
  by_cases h0 : ¬ (1 ≤ N ∧ N ≤ 256 ∧ 0 ≤ C ∧ C ≤ N)
  · have HC := hide (fun W => plck_any W N C)
    rw [ckP_two.2 h0] at HC
    have e1 : dcE N C bad = 2 := by unfold dcE; rw [if_neg (by omega)]
    have e2 : dcB N C bad = false := by unfold dcB; rw [if_neg (by omega)]
    rw [e1, e2]
    clear e1 e2 h0
    have HB := allocs_below w [.cells #[.int .i64 N, .int .i64 C] 91]
    have K_p : Blk (allocs w [.cells #[.int .i64 N, .int .i64 C] 91]) (w.heap.size + 0) 91 #[.int .i64 N, .int .i64 C] := allocs_at w [.cells #[.int .i64 N, .int .i64 C] 91] 0 rfl
    unfold allocs at HB K_p
    simp only [List.foldl_cons, List.foldl_nil] at HB K_p
    rw [Nat.add_zero] at K_p
    go_enter Tryz.func50, Tryz.ntmps50
    go_upto_region 1 with (fail)
    generalize (w.alloc (.cells #[.int .i64 N, .int .i64 C] 91)) = w0 at *
    replace K_p := hide K_p
    replace HB := hide HB
    have p0 := (Blk.cell K_p.out 0).trans (rfl : _ = some (Value.int .i64 N))
    have p1 := (Blk.cell K_p.out 1).trans (rfl : _ = some (Value.int .i64 C))
    go_wp2_with fail
    refine (HC.out _).mono ?_
    rintro e w1 ⟨rfl, hb⟩
    clear p0 p1
    replace K_p := hide (Blk.below K_p.out hb (Blk.lt K_p.out))
    replace HB := hide (HB.out.trans (hb.mono HB.out.size))
    clear hb
    go_wp2_with fail
    go_ret2
    exact ⟨rfl, HB.out⟩
  · by_cases h1 : bad < 0
    · have HC := hide (fun W => plck_any W N C)
      rw [ckP_zero.2 (Classical.not_not.1 h0)] at HC
      have e1 : dcE N C bad = 2 := by unfold dcE; rw [if_neg (by omega)]
      have e2 : dcB N C bad = false := by unfold dcB; rw [if_neg (by omega)]
      rw [e1, e2]
      clear e1 e2 h0
      have HB := allocs_below w [.cells #[.int .i64 N, .int .i64 C] 91]
      have K_p : Blk (allocs w [.cells #[.int .i64 N, .int .i64 C] 91]) (w.heap.size + 0) 91 #[.int .i64 N, .int .i64 C] := allocs_at w [.cells #[.int .i64 N, .int .i64 C] 91] 0 rfl
      unfold allocs at HB K_p
      simp only [List.foldl_cons, List.foldl_nil] at HB K_p
      rw [Nat.add_zero] at K_p
      go_enter Tryz.func50, Tryz.ntmps50
      go_upto_region 1 with (fail)
      generalize (w.alloc (.cells #[.int .i64 N, .int .i64 C] 91)) = w0 at *
      replace K_p := hide K_p
      replace HB := hide HB
      have p0 := (Blk.cell K_p.out 0).trans (rfl : _ = some (Value.int .i64 N))
      have p1 := (Blk.cell K_p.out 1).trans (rfl : _ = some (Value.int .i64 C))
      go_wp2_with fail
      refine (HC.out _).mono ?_
      rintro e w1 ⟨rfl, hb⟩
      clear p0 p1
      replace K_p := hide (Blk.below K_p.out hb (Blk.lt K_p.out))
      replace HB := hide (HB.out.trans (hb.mono HB.out.size))
      clear hb
      have p0 := (Blk.cell K_p.out 0).trans (rfl : _ = some (Value.int .i64 N))
      have p1 := (Blk.cell K_p.out 1).trans (rfl : _ = some (Value.int .i64 C))
      go_wp2_with fail
      go_ret2
      exact ⟨rfl, HB.out⟩
    · by_cases h2 : N < bad
      · have HC := hide (fun W => plck_any W N C)
        rw [ckP_zero.2 (Classical.not_not.1 h0)] at HC
        have e1 : dcE N C bad = 2 := by unfold dcE; rw [if_neg (by omega)]
        have e2 : dcB N C bad = false := by unfold dcB; rw [if_neg (by omega)]
        rw [e1, e2]
        clear e1 e2 h0
        have HB := allocs_below w [.cells #[.int .i64 N, .int .i64 C] 91]
        have K_p : Blk (allocs w [.cells #[.int .i64 N, .int .i64 C] 91]) (w.heap.size + 0) 91 #[.int .i64 N, .int .i64 C] := allocs_at w [.cells #[.int .i64 N, .int .i64 C] 91] 0 rfl
        unfold allocs at HB K_p
        simp only [List.foldl_cons, List.foldl_nil] at HB K_p
        rw [Nat.add_zero] at K_p
        go_enter Tryz.func50, Tryz.ntmps50
        go_upto_region 1 with (fail)
        generalize (w.alloc (.cells #[.int .i64 N, .int .i64 C] 91)) = w0 at *
        replace K_p := hide K_p
        replace HB := hide HB
        have p0 := (Blk.cell K_p.out 0).trans (rfl : _ = some (Value.int .i64 N))
        have p1 := (Blk.cell K_p.out 1).trans (rfl : _ = some (Value.int .i64 C))
        go_wp2_with fail
        refine (HC.out _).mono ?_
        rintro e w1 ⟨rfl, hb⟩
        clear p0 p1
        replace K_p := hide (Blk.below K_p.out hb (Blk.lt K_p.out))
        replace HB := hide (HB.out.trans (hb.mono HB.out.size))
        clear hb
        have p0 := (Blk.cell K_p.out 0).trans (rfl : _ = some (Value.int .i64 N))
        have p1 := (Blk.cell K_p.out 1).trans (rfl : _ = some (Value.int .i64 C))
        go_wp2_with fail
        go_ret2
        exact ⟨rfl, HB.out⟩
      · by_cases h3 : bad ≤ C
        · have HC := hide (fun W => plck_any W N C)
          rw [ckP_zero.2 (Classical.not_not.1 h0)] at HC
          have e1 : dcE N C bad = 0 := by unfold dcE; rw [if_pos (by omega)]
          have e2 : dcB N C bad = true := by unfold dcB; rw [if_pos (by omega)]; simp; omega
          rw [e1, e2]
          clear e1 e2 h0
          have HB := allocs_below w [.cells #[.int .i64 N, .int .i64 C] 91]
          have K_p : Blk (allocs w [.cells #[.int .i64 N, .int .i64 C] 91]) (w.heap.size + 0) 91 #[.int .i64 N, .int .i64 C] := allocs_at w [.cells #[.int .i64 N, .int .i64 C] 91] 0 rfl
          unfold allocs at HB K_p
          simp only [List.foldl_cons, List.foldl_nil] at HB K_p
          rw [Nat.add_zero] at K_p
          go_enter Tryz.func50, Tryz.ntmps50
          go_upto_region 1 with (fail)
          generalize (w.alloc (.cells #[.int .i64 N, .int .i64 C] 91)) = w0 at *
          replace K_p := hide K_p
          replace HB := hide HB
          have p0 := (Blk.cell K_p.out 0).trans (rfl : _ = some (Value.int .i64 N))
          have p1 := (Blk.cell K_p.out 1).trans (rfl : _ = some (Value.int .i64 C))
          go_wp2_with fail
          refine (HC.out _).mono ?_
          rintro e w1 ⟨rfl, hb⟩
          clear p0 p1
          replace K_p := hide (Blk.below K_p.out hb (Blk.lt K_p.out))
          replace HB := hide (HB.out.trans (hb.mono HB.out.size))
          clear hb
          have p0 := (Blk.cell K_p.out 0).trans (rfl : _ = some (Value.int .i64 N))
          have p1 := (Blk.cell K_p.out 1).trans (rfl : _ = some (Value.int .i64 C))
          go_wp2_with fail
          go_ret2
          exact ⟨rfl, HB.out⟩
        · have HC := hide (fun W => plck_any W N C)
          rw [ckP_zero.2 (Classical.not_not.1 h0)] at HC
          have e1 : dcE N C bad = 0 := by unfold dcE; rw [if_pos (by omega)]
          have e2 : dcB N C bad = false := by unfold dcB; rw [if_pos (by omega)]; simp; omega
          rw [e1, e2]
          clear e1 e2 h0
          have HB := allocs_below w [.cells #[.int .i64 N, .int .i64 C] 91]
          have K_p : Blk (allocs w [.cells #[.int .i64 N, .int .i64 C] 91]) (w.heap.size + 0) 91 #[.int .i64 N, .int .i64 C] := allocs_at w [.cells #[.int .i64 N, .int .i64 C] 91] 0 rfl
          unfold allocs at HB K_p
          simp only [List.foldl_cons, List.foldl_nil] at HB K_p
          rw [Nat.add_zero] at K_p
          go_enter Tryz.func50, Tryz.ntmps50
          go_upto_region 1 with (fail)
          generalize (w.alloc (.cells #[.int .i64 N, .int .i64 C] 91)) = w0 at *
          replace K_p := hide K_p
          replace HB := hide HB
          have p0 := (Blk.cell K_p.out 0).trans (rfl : _ = some (Value.int .i64 N))
          have p1 := (Blk.cell K_p.out 1).trans (rfl : _ = some (Value.int .i64 C))
          go_wp2_with fail
          refine (HC.out _).mono ?_
          rintro e w1 ⟨rfl, hb⟩
          clear p0 p1
          replace K_p := hide (Blk.below K_p.out hb (Blk.lt K_p.out))
          replace HB := hide (HB.out.trans (hb.mono HB.out.size))
          clear hb
          have p0 := (Blk.cell K_p.out 0).trans (rfl : _ = some (Value.int .i64 N))
          have p1 := (Blk.cell K_p.out 1).trans (rfl : _ = some (Value.int .i64 C))
          go_wp2_with fail
          go_ret2
          exact ⟨by rw [show false = decide (bad ≤ C) from (decide_eq_false (by omega)).symm]; rfl, HB.out⟩
end Go.Proofs.YthmmgjieppknkaaGreatDoor
