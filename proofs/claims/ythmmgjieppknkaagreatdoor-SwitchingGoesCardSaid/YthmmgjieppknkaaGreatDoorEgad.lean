/- Contracts and plain laws that the statements of this seat share (part Egad). -/
import Derived.Test.YthmmgjieppknkaaGreatDoorEgaa
import Derived.Test.YthmmgjieppknkaaGreatDoorEgab
import Derived.Test.YthmmgjieppknkaaGreatDoorEgac
import Derived.Test.YthmmgjieppknkaaGreatDoorKaa
import Derived.Test.YthmmgjieppknkaaGreatDoorKab
import Derived.Test.YthmmgjieppknkaaGreatDoorKac
import Derived.Test.YthmmgjieppknkaaGreatDoorKad
import Derived.Test.YthmmgjieppknkaaGreatDoorKag
import Derived.Test.YthmmgjieppknkaaGreatDoorKai
import Derived.Test.YthmmgjieppknkaaGreatDoorKak
import Derived.Test.YthmmgjieppknkaaGreatDoorKal
import Derived.Test.YthmmgjieppknkaaGreatDoorKam
import Derived.Test.YthmmgjieppknkaaGreatDoorKas
import Derived.Test.YthmmgjieppknkaaGreatDoorKat
import Derived.Test.YthmmgjieppknkaaGreatDoorKau
import Derived.Test.YthmmgjieppknkaaGreatDoorKax
import Derived.Deep.RegionWith
import Derived.Laws.OwnMore
import Derived.Deep.RegionLaw
import Derived.RegionTactic
import Derived.Laws.Tables
import Derived.Test.YthmmgjieppknkaaGreatDoorChecked
import Derived.WalkKit
import Derived.WalkSpells
import Derived.WalkLawsBesides
import Derived.Lib.Hide
import Derived.IntWalk
import Derived.BigQuiet
import Derived.Deep.QuietTactic
import Derived.Deep.LoopGhost
import Derived.Deep.DeepCutAuto
import Derived.Deep.DeepFit
import Derived.Deep.Light
import Derived.Outline
import Derived.Laws.Rows
import Derived.Laws.NewBlocks
import Derived.Laws.CopyOwn
import Derived.Lib.ItoaNum
import Derived.Lib.ItoaLen
import Derived.Lib.Atoi
import Derived.Lib.AtoiAll
import Derived.Lib.Strings
import Derived.Lib.SlTrimSet
import Derived.Lib.Builder
import Derived.Lib.AppendStr
import Derived.Laws.Externs
import Derived.WalkSmall
import Derived.Lib.AtoiErrMem
import Derived.Shelf.Strings.SlTrimAscii
import Derived.Shelf.Strings.Builder1
import Derived.Shelf.Strings.Trim
import Derived.Shelf.Small.Utf8
import Derived.Shelf.Small.Strs
import Derived.Shelf.Strings.BuilderF
import Derived.Shelf.Strings.BuilderK
import Derived.Shelf.Strconv.Atoi
import Derived.Shelf.Strconv.Itoa0
import Derived.Shelf.Strconv.Itoa1
import Derived.Shelf.LaysM
import Derived.Shelf.Strconv.Itoa2
import Derived.Shelf.Strconv.Itoa3
import Derived.Shelf.Strings.Search1
import Derived.Shelf.Strings.Search2
import Derived.Shelf.Strings.Cut
import Derived.Shelf.Strings.Shaped
import Derived.Shelf.Strings.Prefix
import Derived.Shelf.Strings.Runes
import Derived.Shelf.Strings.AsciiSet
import Derived.Shelf.Bits.Mul64
import Derived.Shelf.Unicode.DecodeSlow
import Derived.Test.YthmmgjieppknkaaGreatDoorProg
import Derived.Lib.IndexMore
import Derived.Lib.IndexBytes
import Derived.Lib.IndexLaws
import Derived.Deep.RegionHeld3
import Derived.BigRegion
import Derived.Deep.OwnRows
import Derived.Lib.LazyBuf
import Derived.Laws.BytesArg
import Derived.Laws.ResultCell
import Derived.ChangeKeysEq
import Derived.DeepKeys
import Derived.RangeFuncSeq
import Derived.Shelf.Abstract
import Derived.Maps.OwnOps
import Derived.Deep.RegionHeld
import Derived.RangeFuncNested
import Derived.RangeFuncBox
import Derived.RangeFuncBound
import Derived.RangeFuncCalls
import Derived.RangeFuncLeaves
import Derived.Shelf.RegionOpen
import Derived.OwnWalkIn
import Derived.TacticsInMore
import Derived.LoopNIn
import Derived.LoopIn
import Derived.DeepKeys4
import Derived.Maps.RangeWalk
import Derived.ProofKit
import Derived.Maps.AppendAt
namespace Go.Proofs.YthmmgjieppknkaaGreatDoor
open Go.RowKit Go.Maps MLab
theorem right_len {x : Sw} (h : RightS x) : x.last.length ≤ 4 := (rightI_zero h).2.2.2.2.2.2.1
end Go.Proofs.YthmmgjieppknkaaGreatDoor

namespace Go.Proofs.YthmmgjieppknkaaGreatDoor
open Go.RowKit Go.Shelf Go.Maps MLab
def NxP (W : World) (y : Sw) (ok : Bool) (z : Int) (e : Ending) (w' : World) : Prop := (∃ u, e = .returned (.tuple #[u, .bool ok, .int .i64 z]) ∧ StV w' u y) ∧ Below W.heap.size W w'
theorem nxt_both (S : Nat → Int × Int) (mode run rej found : Int) (v : Value) (l : List Bool) (hl : l.length ≤ 1000000) : ∃ (y : Sw) (ok : Bool) (z : Int), y.last.length ≤ 4 ∧
    (∀ W, SlL W v (bcl l) → Calls Tryz.prog 25 #[schV S, .agg #[.int .i64 mode, .int .i64 run, v, .int .i64 rej], .int .i64 found] W (NxP W y ok z)) ∧
    (∀ W, SlL W v (bcl l) → Calls Tryz.prog 26 #[schV S, .agg #[.int .i64 mode, .int .i64 run, v, .int .i64 rej], .int .i64 found] W (NxP W y ok z)) := by
  by_cases h : nextE S mode run l rej found = 0
  · have h0 := h
    unfold nextE at h0
    have hS : ckS S = 0 := by
      split at h0
      · rename_i h1; exact absurd h0 h1
      · rename_i h1; exact Classical.not_not.1 h1
    rw [if_neg (by rw [hS]; simp)] at h0
    have hr : rightI mode run l rej = 0 := by
      split at h0
      · rename_i h1; exact absurd h0 h1
      · rename_i h1; exact Classical.not_not.1 h1
    rw [if_neg (by rw [hr]; simp)] at h0
    have h3 : mode ≠ 3 := by
      intro e
      rw [if_pos e] at h0
      cases h0
    rw [if_neg h3] at h0
    have hf : ¬ (found < 0 ∨ (S mode.toNat).1 < found) := by
      intro e
      rw [if_pos e] at h0
      cases h0
    obtain ⟨g1, g2, g3, g4, g5, g6, g7, g8⟩ := rightI_zero hr
    obtain ⟨m, rfl⟩ : ∃ m : Nat, mode = (m : Int) := ⟨mode.toNat, by omega⟩
    obtain ⟨r, rfl⟩ : ∃ m : Nat, run = (m : Int) := ⟨run.toNat, by omega⟩
    obtain ⟨d, rfl⟩ : ∃ m : Nat, rej = (m : Int) := ⟨rej.toNat, by omega⟩
    have hR : RightS ⟨m, r, l, d⟩ := hr
    have hm3 : m ≠ 3 := by omega
    have hf1 : 0 ≤ found := by omega
    have hf2 : found ≤ (S m).1 := by simp at hf; omega
    refine ⟨goesS ⟨m, r, l, d⟩ (decide (found ≤ (S m).2)), decide (found ≤ (S m).2), 0, right_len (goesS_ok hR _).2, fun W hv => ?_, fun W hv => ?_⟩
    · refine (swnext_ok W S ⟨m, r, l, d⟩ found v hv hS hR hm3 hf1 hf2).mono ?_
      rintro e w' ⟨u, h1, h2, h3⟩
      exact ⟨⟨u, h1, h2.st⟩, h3⟩
    · refine (rswnext_ok W S ⟨m, r, l, d⟩ found v hv hS hR hm3 hf1 hf2).mono ?_
      rintro e w' ⟨u, h1, h2, h3⟩
      exact ⟨⟨u, h1, h2.st⟩, h3⟩
  · refine ⟨swB 0, false, nextE S mode run l rej found, Nat.zero_le _, fun W hv => (swnext_bad W S mode run rej found _ v l hv hl h rfl).mono ?_, fun W hv => (rswnext_bad W S mode run rej found _ v l hv hl h rfl).mono ?_⟩
    · rintro e w' ⟨h1, h2⟩
      exact ⟨⟨_, h1, StV.begun _ 0⟩, h2⟩
    · rintro e w' ⟨h1, h2⟩
      exact ⟨⟨_, h1, StV.begun _ 0⟩, h2⟩
theorem sameY (W : World) (A A2 : Option Addr) (N N2 c c2 : Nat) (x : Sw) (hu : SlL W (.slice A N c) (bcl x.last)) (hv : SlL W (.slice A2 N2 c2) (bcl x.last)) (hl : x.last.length ≤ 1000000) :
    Calls Tryz.prog 24 #[.agg #[.int .i64 (x.mode : Int), .int .i64 (x.run : Int), .slice A N c, .int .i64 (x.rej : Int)], .agg #[.int .i64 (x.mode : Int), .int .i64 (x.run : Int), .slice A2 N2 c2, .int .i64 (x.rej : Int)]] W fun e w' => e = .returned (.bool true) ∧ Below W.heap.size W w' := by
  have h := same55D_any W A A2 N N2 c c2 x x hu hv hl
  rw [decide_eq_true rfl] at h
  exact h
set_option maxRecDepth 100000 in
set_option maxHeartbeats 4000000 in
theorem goes55_any (w : World) (S : Nat → Int × Int) (mode run rej : Int) (v : Value) (l : List Bool) (hv : SlL w v (bcl l)) (found : Int) (hs : Std w) :
    Calls Tryz.prog 4 #[schV S, .agg #[.int .i64 mode, .int .i64 run, v, .int .i64 rej], .int .i64 found] w fun e w' => e = .returned (.bool true) ∧ Below w.heap.size w w' := by
  obtain ⟨A, c, rfl⟩ := hv.shape
  obtain ⟨n, hn⟩ : ∃ n, l.length = n := ⟨_, rfl⟩
  rw [bcl_len, hn] at hv ⊢
  have HV := hide hv
  have HS := hide hs
  have HN := hide hn
  clear hv hs hn
  by_cases hbig : 20 < n
  · unfold schV
    have hbi : (20 : Int) < (n : Int) := by omega
    have HB := allocs_below w [.cells #[.int .i64 (S 0).1, .int .i64 (S 0).2, .int .i64 (S 1).1, .int .i64 (S 1).2, .int .i64 (S 2).1, .int .i64 (S 2).2] 26, .cells #[.int .i64 mode, .int .i64 run, .slice A n c, .int .i64 rej] 29]
    have K_s : Blk (allocs w [.cells #[.int .i64 (S 0).1, .int .i64 (S 0).2, .int .i64 (S 1).1, .int .i64 (S 1).2, .int .i64 (S 2).1, .int .i64 (S 2).2] 26, .cells #[.int .i64 mode, .int .i64 run, .slice A n c, .int .i64 rej] 29]) (w.heap.size + 0) 26 #[.int .i64 (S 0).1, .int .i64 (S 0).2, .int .i64 (S 1).1, .int .i64 (S 1).2, .int .i64 (S 2).1, .int .i64 (S 2).2] := allocs_at w [.cells #[.int .i64 (S 0).1, .int .i64 (S 0).2, .int .i64 (S 1).1, .int .i64 (S 1).2, .int .i64 (S 2).1, .int .i64 (S 2).2] 26, .cells #[.int .i64 mode, .int .i64 run, .slice A n c, .int .i64 rej] 29] 0 rfl
    have K_x : Blk (allocs w [.cells #[.int .i64 (S 0).1, .int .i64 (S 0).2, .int .i64 (S 1).1, .int .i64 (S 1).2, .int .i64 (S 2).1, .int .i64 (S 2).2] 26, .cells #[.int .i64 mode, .int .i64 run, .slice A n c, .int .i64 rej] 29]) (w.heap.size + 1) 29 #[.int .i64 mode, .int .i64 run, .slice A n c, .int .i64 rej] := allocs_at w [.cells #[.int .i64 (S 0).1, .int .i64 (S 0).2, .int .i64 (S 1).1, .int .i64 (S 1).2, .int .i64 (S 2).1, .int .i64 (S 2).2] 26, .cells #[.int .i64 mode, .int .i64 run, .slice A n c, .int .i64 rej] 29] 1 rfl
    unfold allocs at HB K_s K_x
    simp only [List.foldl_cons, List.foldl_nil] at HB K_s K_x
    rw [Nat.add_zero] at K_s
    go_enter Tryz.func4, Tryz.ntmps4
    go_upto_region 1 with (fail)
    generalize ((w.alloc (.cells #[.int .i64 (S 0).1, .int .i64 (S 0).2, .int .i64 (S 1).1, .int .i64 (S 1).2, .int .i64 (S 2).1, .int .i64 (S 2).2] 26)).alloc (.cells #[.int .i64 mode, .int .i64 run, .slice A n c, .int .i64 rej] 29)) = w0 at *
    replace K_s := hide K_s
    replace K_x := hide K_x
    replace HB := hide HB
    have x0 := (Blk.cell K_x.out 0).trans (rfl : _ = some (Value.int .i64 mode))
    have x1 := (Blk.cell K_x.out 1).trans (rfl : _ = some (Value.int .i64 run))
    have x2 := (Blk.cell K_x.out 2).trans (rfl : _ = some (Value.slice A n c))
    have x3 := (Blk.cell K_x.out 3).trans (rfl : _ = some (Value.int .i64 rej))
    go_wp2_with fail
    refine (awake55_any _ (HS.out.below HB.out (Nat.le_refl _))).mono ?_
    rintro e w1 ⟨rfl, hb⟩
    clear x0 x1 x2 x3
    replace K_s := hide (Blk.below K_s.out hb (Blk.lt K_s.out))
    replace K_x := hide (Blk.below K_x.out hb (Blk.lt K_x.out))
    replace HB := hide (HB.out.trans (hb.mono HB.out.size))
    clear hb
    go_wp2_with fail
    go_ret
    exact ⟨rfl, HB.out⟩
  · have hbi : ¬ (20 : Int) < (n : Int) := by omega
    have hl : l.length ≤ 1000000 := by rw [HN.out]; omega
    obtain ⟨y, ok, z, hyl, hp, hr⟩ := nxt_both S mode run rej found (.slice A n c) l hl
    have HP := hide hp
    have HR := hide hr
    have HYL := hide (show y.last.length ≤ 1000000 by omega)
    clear hp hr hl hyl
    have HOW := hide (fun W => own_any W S)
    unfold schV at HOW HP HR ⊢
    have HST := hide (fun W => stateI_any W mode run rej A n c)
    have HAW := hide (fun W hS => awake55_any W hS)
    have HB := allocs_below w [.cells #[.int .i64 (S 0).1, .int .i64 (S 0).2, .int .i64 (S 1).1, .int .i64 (S 1).2, .int .i64 (S 2).1, .int .i64 (S 2).2] 26, .cells #[.int .i64 mode, .int .i64 run, .slice A n c, .int .i64 rej] 29]
    have K_s : Blk (allocs w [.cells #[.int .i64 (S 0).1, .int .i64 (S 0).2, .int .i64 (S 1).1, .int .i64 (S 1).2, .int .i64 (S 2).1, .int .i64 (S 2).2] 26, .cells #[.int .i64 mode, .int .i64 run, .slice A n c, .int .i64 rej] 29]) (w.heap.size + 0) 26 #[.int .i64 (S 0).1, .int .i64 (S 0).2, .int .i64 (S 1).1, .int .i64 (S 1).2, .int .i64 (S 2).1, .int .i64 (S 2).2] := allocs_at w [.cells #[.int .i64 (S 0).1, .int .i64 (S 0).2, .int .i64 (S 1).1, .int .i64 (S 1).2, .int .i64 (S 2).1, .int .i64 (S 2).2] 26, .cells #[.int .i64 mode, .int .i64 run, .slice A n c, .int .i64 rej] 29] 0 rfl
    have K_x : Blk (allocs w [.cells #[.int .i64 (S 0).1, .int .i64 (S 0).2, .int .i64 (S 1).1, .int .i64 (S 1).2, .int .i64 (S 2).1, .int .i64 (S 2).2] 26, .cells #[.int .i64 mode, .int .i64 run, .slice A n c, .int .i64 rej] 29]) (w.heap.size + 1) 29 #[.int .i64 mode, .int .i64 run, .slice A n c, .int .i64 rej] := allocs_at w [.cells #[.int .i64 (S 0).1, .int .i64 (S 0).2, .int .i64 (S 1).1, .int .i64 (S 1).2, .int .i64 (S 2).1, .int .i64 (S 2).2] 26, .cells #[.int .i64 mode, .int .i64 run, .slice A n c, .int .i64 rej] 29] 1 rfl
    unfold allocs at HB K_s K_x
    simp only [List.foldl_cons, List.foldl_nil] at HB K_s K_x
    rw [Nat.add_zero] at K_s
    go_enter Tryz.func4, Tryz.ntmps4
    go_upto_region 1 with (fail)
    generalize ((w.alloc (.cells #[.int .i64 (S 0).1, .int .i64 (S 0).2, .int .i64 (S 1).1, .int .i64 (S 1).2, .int .i64 (S 2).1, .int .i64 (S 2).2] 26)).alloc (.cells #[.int .i64 mode, .int .i64 run, .slice A n c, .int .i64 rej] 29)) = w0 at *
    replace K_s := hide K_s
    replace K_x := hide K_x
    replace HB := hide HB
    replace HV := hide (HV.out.below HB.out)
    have s0 := (Blk.cell K_s.out 0).trans (rfl : _ = some (Value.int .i64 (S 0).1))
    have s1 := (Blk.cell K_s.out 1).trans (rfl : _ = some (Value.int .i64 (S 0).2))
    have s2 := (Blk.cell K_s.out 2).trans (rfl : _ = some (Value.int .i64 (S 1).1))
    have s3 := (Blk.cell K_s.out 3).trans (rfl : _ = some (Value.int .i64 (S 1).2))
    have s4 := (Blk.cell K_s.out 4).trans (rfl : _ = some (Value.int .i64 (S 2).1))
    have s5 := (Blk.cell K_s.out 5).trans (rfl : _ = some (Value.int .i64 (S 2).2))
    have x0 := (Blk.cell K_x.out 0).trans (rfl : _ = some (Value.int .i64 mode))
    have x1 := (Blk.cell K_x.out 1).trans (rfl : _ = some (Value.int .i64 run))
    have x2 := (Blk.cell K_x.out 2).trans (rfl : _ = some (Value.slice A n c))
    have x3 := (Blk.cell K_x.out 3).trans (rfl : _ = some (Value.int .i64 rej))
    go_wp2_with fail
    refine (HP.out _ HV.out).mono ?_
    rintro e w1 ⟨⟨u, rfl, hst⟩, hb⟩
    obtain ⟨sl, rfl, hsl⟩ := hst
    obtain ⟨A2, n2, c2, rfl⟩ := hsl.shape3
    have HY1 := hide hsl
    clear hsl
    clear s0 s1 s2 s3 s4 s5 x0 x1 x2 x3
    replace K_s := hide (Blk.below K_s.out hb (Blk.lt K_s.out))
    replace K_x := hide (Blk.below K_x.out hb (Blk.lt K_x.out))
    replace HB := hide (HB.out.trans (hb.mono HB.out.size))
    replace HV := hide (HV.out.below hb)
    clear hb
    go_upto_region 4 with (fail)
    have hbs_a : w.heap.size ≤ w1.heap.size := HB.out.size
    have lt_a_s : w.heap.size < w1.heap.size := Blk.lt K_s.out
    have lt_a_x : (w.heap.size + 1) < w1.heap.size := Blk.lt K_x.out
    replace K_s := K_s.out.alloc (.cells #[.int .i64 (y.mode : Int), .int .i64 (y.run : Int), .slice A2 n2 c2, .int .i64 (y.rej : Int)] 29)
    replace K_x := K_x.out.alloc (.cells #[.int .i64 (y.mode : Int), .int .i64 (y.run : Int), .slice A2 n2 c2, .int .i64 (y.rej : Int)] 29)
    replace HB := HB.out.alloc HB.out.size (.cells #[.int .i64 (y.mode : Int), .int .i64 (y.run : Int), .slice A2 n2 c2, .int .i64 (y.rej : Int)] 29)
    have K_a := Blk.new w1 29 #[.int .i64 (y.mode : Int), .int .i64 (y.run : Int), .slice A2 n2 c2, .int .i64 (y.rej : Int)]
    replace HV := HV.out.below ((Below.refl w1.heap.size w1).alloc (Nat.le_refl _) (.cells #[.int .i64 (y.mode : Int), .int .i64 (y.run : Int), .slice A2 n2 c2, .int .i64 (y.rej : Int)] 29))
    replace HY1 := HY1.out.below ((Below.refl w1.heap.size w1).alloc (Nat.le_refl _) (.cells #[.int .i64 (y.mode : Int), .int .i64 (y.run : Int), .slice A2 n2 c2, .int .i64 (y.rej : Int)] 29))
    generalize w1.alloc (.cells #[.int .i64 (y.mode : Int), .int .i64 (y.run : Int), .slice A2 n2 c2, .int .i64 (y.rej : Int)] 29) = w2 at *
    replace K_s := hide K_s
    replace K_x := hide K_x
    replace K_a := hide K_a
    replace HB := hide HB
    replace HV := hide HV
    replace HY1 := hide HY1
    have s0 := (Blk.cell K_s.out 0).trans (rfl : _ = some (Value.int .i64 (S 0).1))
    have s1 := (Blk.cell K_s.out 1).trans (rfl : _ = some (Value.int .i64 (S 0).2))
    have s2 := (Blk.cell K_s.out 2).trans (rfl : _ = some (Value.int .i64 (S 1).1))
    have s3 := (Blk.cell K_s.out 3).trans (rfl : _ = some (Value.int .i64 (S 1).2))
    have s4 := (Blk.cell K_s.out 4).trans (rfl : _ = some (Value.int .i64 (S 2).1))
    have s5 := (Blk.cell K_s.out 5).trans (rfl : _ = some (Value.int .i64 (S 2).2))
    have x0 := (Blk.cell K_x.out 0).trans (rfl : _ = some (Value.int .i64 mode))
    have x1 := (Blk.cell K_x.out 1).trans (rfl : _ = some (Value.int .i64 run))
    have x2 := (Blk.cell K_x.out 2).trans (rfl : _ = some (Value.slice A n c))
    have x3 := (Blk.cell K_x.out 3).trans (rfl : _ = some (Value.int .i64 rej))
    go_cut [10, 11, 12] (fun v10 v11 v12 wc => ∃ (b10 : Nat) (A3 : Option Addr) (n3 c3 : Nat), v10 = .pointer (some ⟨b10, 0, none⟩) ∧ v11 = .bool ok ∧ v12 = .int .i64 z ∧ Blk wc b10 34 #[.int .i64 (y.mode : Int), .int .i64 (y.run : Int), .slice A3 n3 c3, .int .i64 (y.rej : Int)] ∧ SlL wc (.slice A3 n3 c3) (bcl y.last) ∧ Below w2.heap.size w2 wc)
    case first =>
      have SK : ∀ w', Below w2.heap.size w2 w' → Below w2.heap.size w2 w' ∧ w'.cell? ⟨w.heap.size, 0, none⟩ = some (.int .i64 (S 0).1) ∧ w'.cell? ⟨w.heap.size, 1, none⟩ = some (.int .i64 (S 0).2) ∧ w'.cell? ⟨w.heap.size, 2, none⟩ = some (.int .i64 (S 1).1) ∧ w'.cell? ⟨w.heap.size, 3, none⟩ = some (.int .i64 (S 1).2) ∧ w'.cell? ⟨w.heap.size, 4, none⟩ = some (.int .i64 (S 2).1) ∧ w'.cell? ⟨w.heap.size, 5, none⟩ = some (.int .i64 (S 2).2) ∧ w'.cell? ⟨(w.heap.size + 1), 0, none⟩ = some (.int .i64 mode) ∧ w'.cell? ⟨(w.heap.size + 1), 1, none⟩ = some (.int .i64 run) ∧ w'.cell? ⟨(w.heap.size + 1), 2, none⟩ = some (.slice A n c) ∧ w'.cell? ⟨(w.heap.size + 1), 3, none⟩ = some (.int .i64 rej) := fun w' h => ⟨h, (bcell h _ _ (block_lt_of_cell s0)).trans s0, (bcell h _ _ (block_lt_of_cell s1)).trans s1, (bcell h _ _ (block_lt_of_cell s2)).trans s2, (bcell h _ _ (block_lt_of_cell s3)).trans s3, (bcell h _ _ (block_lt_of_cell s4)).trans s4, (bcell h _ _ (block_lt_of_cell s5)).trans s5, (bcell h _ _ (block_lt_of_cell x0)).trans x0, (bcell h _ _ (block_lt_of_cell x1)).trans x1, (bcell h _ _ (block_lt_of_cell x2)).trans x2, (bcell h _ _ (block_lt_of_cell x3)).trans x3⟩
      have SB : ∀ w', (Below w2.heap.size w2 w' ∧ w'.cell? ⟨w.heap.size, 0, none⟩ = some (.int .i64 (S 0).1) ∧ w'.cell? ⟨w.heap.size, 1, none⟩ = some (.int .i64 (S 0).2) ∧ w'.cell? ⟨w.heap.size, 2, none⟩ = some (.int .i64 (S 1).1) ∧ w'.cell? ⟨w.heap.size, 3, none⟩ = some (.int .i64 (S 1).2) ∧ w'.cell? ⟨w.heap.size, 4, none⟩ = some (.int .i64 (S 2).1) ∧ w'.cell? ⟨w.heap.size, 5, none⟩ = some (.int .i64 (S 2).2) ∧ w'.cell? ⟨(w.heap.size + 1), 0, none⟩ = some (.int .i64 mode) ∧ w'.cell? ⟨(w.heap.size + 1), 1, none⟩ = some (.int .i64 run) ∧ w'.cell? ⟨(w.heap.size + 1), 2, none⟩ = some (.slice A n c) ∧ w'.cell? ⟨(w.heap.size + 1), 3, none⟩ = some (.int .i64 rej)) → Below w2.heap.size w2 w' := fun w' h => h.1
      go_region_held3 (fun w' => Below w2.heap.size w2 w' ∧ w'.cell? ⟨w.heap.size, 0, none⟩ = some (.int .i64 (S 0).1) ∧ w'.cell? ⟨w.heap.size, 1, none⟩ = some (.int .i64 (S 0).2) ∧ w'.cell? ⟨w.heap.size, 2, none⟩ = some (.int .i64 (S 1).1) ∧ w'.cell? ⟨w.heap.size, 3, none⟩ = some (.int .i64 (S 1).2) ∧ w'.cell? ⟨w.heap.size, 4, none⟩ = some (.int .i64 (S 2).1) ∧ w'.cell? ⟨w.heap.size, 5, none⟩ = some (.int .i64 (S 2).2) ∧ w'.cell? ⟨(w.heap.size + 1), 0, none⟩ = some (.int .i64 mode) ∧ w'.cell? ⟨(w.heap.size + 1), 1, none⟩ = some (.int .i64 run) ∧ w'.cell? ⟨(w.heap.size + 1), 2, none⟩ = some (.slice A n c) ∧ w'.cell? ⟨(w.heap.size + 1), 3, none⟩ = some (.int .i64 rej)) (first | exact SK _ (Below.refl _ _).drew | exact SK _ (Below.refl _ _) | exact SK _ (bel_next (by assumption) (by assumption) (Nat.le_refl _)) | exact SK _ (nalcW w2 _).drew | exact SK _ (bel_alW2 (SB _ (by assumption)) _) | exact SK _ (bel_alW2 hB3 _) | exact SK _ (bel_set4W hB3 _ (by first | exact Nat.le_refl _ | exact hBO | exact hBT) _ _ _ _))
        (first
          | (go_at_call 21; refine (HOW.out _).mono ?_; rintro e wo ⟨rfl, hbO⟩; (try have hN := Blk.below (g := w2.heap.size) (Blk.new w2.drew 34 #[.int .i64 0, .int .i64 0, .slice none 0 0, .int .i64 0]) hbO (by simp)); have hBO : w2.heap.size ≤ wo.heap.size := by have := hbO.size; simp at this ⊢; omega)
          | (go_at_call 18; refine (HST.out _).mono ?_; rintro e wt ⟨rfl, hbT⟩; (first | (have hN2 := Blk.below hN hbT (Blk.lt hN)) | (have hN2 := Blk.below (Blk.new wo 34 #[.int .i64 0, .int .i64 0, .slice none 0 0, .int .i64 0]) hbT (by simp)) | skip); have hBT : w2.heap.size ≤ wt.heap.size := by have := hbT.size; simp at this ⊢; omega)
          | (go_at_call 26; refine (HR.out _ (HV.out.below (SB _ (by assumption)))).mono ?_; rintro e wn ⟨⟨u3, rfl, hst3⟩, hbN⟩; have hB3 := bel_next (B := w2.heap.size) (w0 := w2) (by assumption) hbN (Nat.le_refl _); obtain ⟨sl3, rfl, hsl3⟩ := hst3; obtain ⟨A3, n3, c3, rfl⟩ := hsl3.shape3; (first | (have hN3 := Blk.below hN2 hbN (Blk.lt hN2)) | (have hN3 := Blk.below (Blk.new wt 34 #[.int .i64 0, .int .i64 0, .slice none 0 0, .int .i64 0]) hbN (by simp)) | skip); (try have z0 := (Blk.cell hN3 0).trans (rfl : _ = some (Value.int .i64 0))); (try have zf0 := Blk.frozen hN3 0); (try have z1 := (Blk.cell hN3 1).trans (rfl : _ = some (Value.int .i64 0))); (try have zf1 := Blk.frozen hN3 1); (try have z2 := (Blk.cell hN3 2).trans (rfl : _ = some (Value.slice none 0 0))); (try have zf2 := Blk.frozen hN3 2); (try have z3 := (Blk.cell hN3 3).trans (rfl : _ = some (Value.int .i64 0))); (try have zf3 := Blk.frozen hN3 3)))
      all_goals
        go_wp2_with fail
        go_meet
        case rel =>
          first
            | exact ⟨_, A3, n3, c3, rfl, rfl, rfl, Blk.new wn _ _, hsl3.below (nalcW wn _), SB _ (by assumption)⟩
            | exact ⟨_, A3, n3, c3, rfl, rfl, rfl, ((((hN3.set_ 0 (.int .i64 (y.mode : Int))).set_ 1 (.int .i64 (y.run : Int))).set_ 2 (.slice A3 n3 c3)).set_ 3 (.int .i64 (y.rej : Int))), hsl3.own hN3 (nobool4 0 0 0 none 0 0) (only_setCell (only_setCell (only_setCell (only_setCell (only_refl _ (some (_))) (p := ⟨_, 0, none⟩) (Or.inl rfl) (.int .i64 (y.mode : Int))) (p := ⟨_, 1, none⟩) (Or.inl rfl) (.int .i64 (y.run : Int))) (p := ⟨_, 2, none⟩) (Or.inl rfl) (.slice A3 n3 c3)) (p := ⟨_, 3, none⟩) (Or.inl rfl) (.int .i64 (y.rej : Int))), SB _ (by assumption)⟩
    case rest =>
      obtain ⟨b10, A3, n3, c3, rfl, rfl, rfl, hkb, hsl3, hb⟩ := hcut
      clear s0 s1 s2 s3 s4 s5 x0 x1 x2 x3
      replace K_s := hide (Blk.below K_s.out hb (Blk.lt K_s.out))
      replace K_x := hide (Blk.below K_x.out hb (Blk.lt K_x.out))
      replace K_a := hide (Blk.below K_a.out hb (Blk.lt K_a.out))
      replace HB := hide (HB.out.trans (hb.mono HB.out.size))
      replace HV := hide (HV.out.below hb)
      replace HY1 := hide (HY1.out.below hb)
      clear hb
      have K_b := hide hkb
      have HY2 := hide hsl3
      clear hkb hsl3
      have HSY := hide (fun W => stateI_any W (y.mode : Int) (y.run : Int) (y.rej : Int) A2 n2 c2)
      have HSA := hide (fun (W : World) (h1 : SlL W (.slice A2 n2 c2) (bcl y.last)) (h2 : SlL W (.slice A3 n3 c3) (bcl y.last)) => sameY W A2 A3 n2 n3 c2 c3 y h1 h2 HYL.out)
      have a0 := (Blk.cell K_a.out 0).trans (rfl : _ = some (Value.int .i64 (y.mode : Int)))
      have a1 := (Blk.cell K_a.out 1).trans (rfl : _ = some (Value.int .i64 (y.run : Int)))
      have a2 := (Blk.cell K_a.out 2).trans (rfl : _ = some (Value.slice A2 n2 c2))
      have a3 := (Blk.cell K_a.out 3).trans (rfl : _ = some (Value.int .i64 (y.rej : Int)))
      have b0 := (Blk.cell K_b.out 0).trans (rfl : _ = some (Value.int .i64 (y.mode : Int)))
      have b1 := (Blk.cell K_b.out 1).trans (rfl : _ = some (Value.int .i64 (y.run : Int)))
      have b2 := (Blk.cell K_b.out 2).trans (rfl : _ = some (Value.slice A3 n3 c3))
      have b3 := (Blk.cell K_b.out 3).trans (rfl : _ = some (Value.int .i64 (y.rej : Int)))
      go_upto_region 5 with (fail)
      have SK : ∀ w', Below wc.heap.size wc w' → Below wc.heap.size wc w' ∧ w'.cell? ⟨w1.heap.size, 0, none⟩ = some (.int .i64 (y.mode : Int)) ∧ w'.cell? ⟨w1.heap.size, 1, none⟩ = some (.int .i64 (y.run : Int)) ∧ w'.cell? ⟨w1.heap.size, 2, none⟩ = some (.slice A2 n2 c2) ∧ w'.cell? ⟨w1.heap.size, 3, none⟩ = some (.int .i64 (y.rej : Int)) ∧ w'.cell? ⟨b10, 0, none⟩ = some (.int .i64 (y.mode : Int)) ∧ w'.cell? ⟨b10, 1, none⟩ = some (.int .i64 (y.run : Int)) ∧ w'.cell? ⟨b10, 2, none⟩ = some (.slice A3 n3 c3) ∧ w'.cell? ⟨b10, 3, none⟩ = some (.int .i64 (y.rej : Int)) := fun w' h => ⟨h, (bcell h _ _ (block_lt_of_cell a0)).trans a0, (bcell h _ _ (block_lt_of_cell a1)).trans a1, (bcell h _ _ (block_lt_of_cell a2)).trans a2, (bcell h _ _ (block_lt_of_cell a3)).trans a3, (bcell h _ _ (block_lt_of_cell b0)).trans b0, (bcell h _ _ (block_lt_of_cell b1)).trans b1, (bcell h _ _ (block_lt_of_cell b2)).trans b2, (bcell h _ _ (block_lt_of_cell b3)).trans b3⟩
      have SB : ∀ w', (Below wc.heap.size wc w' ∧ w'.cell? ⟨w1.heap.size, 0, none⟩ = some (.int .i64 (y.mode : Int)) ∧ w'.cell? ⟨w1.heap.size, 1, none⟩ = some (.int .i64 (y.run : Int)) ∧ w'.cell? ⟨w1.heap.size, 2, none⟩ = some (.slice A2 n2 c2) ∧ w'.cell? ⟨w1.heap.size, 3, none⟩ = some (.int .i64 (y.rej : Int)) ∧ w'.cell? ⟨b10, 0, none⟩ = some (.int .i64 (y.mode : Int)) ∧ w'.cell? ⟨b10, 1, none⟩ = some (.int .i64 (y.run : Int)) ∧ w'.cell? ⟨b10, 2, none⟩ = some (.slice A3 n3 c3) ∧ w'.cell? ⟨b10, 3, none⟩ = some (.int .i64 (y.rej : Int))) → Below wc.heap.size wc w' := fun w' h => h.1
      go_region_held3 (fun w' => Below wc.heap.size wc w' ∧ w'.cell? ⟨w1.heap.size, 0, none⟩ = some (.int .i64 (y.mode : Int)) ∧ w'.cell? ⟨w1.heap.size, 1, none⟩ = some (.int .i64 (y.run : Int)) ∧ w'.cell? ⟨w1.heap.size, 2, none⟩ = some (.slice A2 n2 c2) ∧ w'.cell? ⟨w1.heap.size, 3, none⟩ = some (.int .i64 (y.rej : Int)) ∧ w'.cell? ⟨b10, 0, none⟩ = some (.int .i64 (y.mode : Int)) ∧ w'.cell? ⟨b10, 1, none⟩ = some (.int .i64 (y.run : Int)) ∧ w'.cell? ⟨b10, 2, none⟩ = some (.slice A3 n3 c3) ∧ w'.cell? ⟨b10, 3, none⟩ = some (.int .i64 (y.rej : Int))) (first | exact SK _ (Below.refl _ _).drew | exact SK _ (Below.refl _ _) | exact SK _ (bel_next (by assumption) (by assumption) (Nat.le_refl _)))
        (first
          | (go_at_call 18; refine (HSY.out _).mono ?_; rintro e wx ⟨rfl, hbW⟩)
          | (go_at_call 24; refine (HSA.out _ (HY1.out.below (SB _ (by assumption))) (HY2.out.below (SB _ (by assumption)))).mono ?_; rintro e wx ⟨rfl, hbW⟩)
          | (go_at_call 15; refine (HAW.out _ (HS.out.below (HB.out.trans ((SB _ (by assumption)).mono HB.out.size)) (Nat.le_refl _))).mono ?_; rintro e wx ⟨rfl, hbW⟩))
      obtain ⟨hbx, _⟩ : Below wc.heap.size wc _ ∧ _ := by assumption
      have HX := hide (HB.out.trans (hbx.mono HB.out.size))
      clear hbx
      go_wp2_with fail
      go_ret
      exact ⟨rfl, HX.out⟩
end Go.Proofs.YthmmgjieppknkaaGreatDoor
