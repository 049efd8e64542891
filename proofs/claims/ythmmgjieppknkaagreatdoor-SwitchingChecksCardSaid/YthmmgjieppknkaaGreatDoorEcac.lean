/- Contracts and plain laws that the statements of this seat share (part Ecac). -/
import Derived.Test.YthmmgjieppknkaaGreatDoorEcaa
import Derived.Test.YthmmgjieppknkaaGreatDoorEcab
import Derived.Test.YthmmgjieppknkaaGreatDoorKaa
import Derived.Test.YthmmgjieppknkaaGreatDoorKab
import Derived.Test.YthmmgjieppknkaaGreatDoorKac
import Derived.Test.YthmmgjieppknkaaGreatDoorKad
import Derived.Test.YthmmgjieppknkaaGreatDoorKag
import Derived.Test.YthmmgjieppknkaaGreatDoorKai
import Derived.Test.YthmmgjieppknkaaGreatDoorKak
import Derived.Test.YthmmgjieppknkaaGreatDoorKal
import Derived.Test.YthmmgjieppknkaaGreatDoorKam
import Derived.Test.YthmmgjieppknkaaGreatDoorKas
import Derived.Test.YthmmgjieppknkaaGreatDoorKat
import Derived.Test.YthmmgjieppknkaaGreatDoorKau
import Derived.Test.YthmmgjieppknkaaGreatDoorKax
import Derived.Maps.AppendAt
import Derived.Deep.RegionHeld3
import Derived.Laws.ResultCell
import Derived.ChangeKeysEq
import Derived.DeepKeys
import Derived.Test.YthmmgjieppknkaaGreatDoorChecked
import Derived.WalkKit
import Derived.WalkSpells
import Derived.WalkLawsBesides
import Derived.Lib.Hide
import Derived.IntWalk
import Derived.BigQuiet
import Derived.Deep.QuietTactic
import Derived.Deep.LoopGhost
import Derived.Deep.DeepCutAuto
import Derived.Deep.DeepFit
import Derived.Deep.Light
import Derived.Outline
import Derived.Laws.Rows
import Derived.Laws.NewBlocks
import Derived.Laws.CopyOwn
import Derived.Laws.Tables
import Derived.Lib.ItoaNum
import Derived.Lib.ItoaLen
import Derived.Lib.Atoi
import Derived.Lib.AtoiAll
import Derived.Lib.Strings
import Derived.Lib.SlTrimSet
import Derived.Lib.IndexMore
import Derived.Lib.IndexBytes
import Derived.Lib.IndexLaws
import Derived.Deep.RegionWith
import Derived.Deep.RegionLaw
import Derived.RegionTactic
import Derived.Lib.Builder
import Derived.Lib.AppendStr
import Derived.Laws.Externs
import Derived.WalkSmall
import Derived.Lib.AtoiErrMem
import Derived.Shelf.Strings.SlTrimAscii
import Derived.Shelf.Strings.Builder1
import Derived.Shelf.Strings.Trim
import Derived.Shelf.Small.Utf8
import Derived.Shelf.Small.Strs
import Derived.Shelf.Strings.BuilderF
import Derived.Shelf.Strings.BuilderK
import Derived.Shelf.Strconv.Atoi
import Derived.Shelf.Strconv.Itoa0
import Derived.Shelf.Strconv.Itoa1
import Derived.Shelf.LaysM
import Derived.Shelf.Strconv.Itoa2
import Derived.Shelf.Strconv.Itoa3
import Derived.Shelf.Strings.Search1
import Derived.Shelf.Strings.Search2
import Derived.Shelf.Strings.Cut
import Derived.Shelf.Strings.Shaped
import Derived.Shelf.Strings.Prefix
import Derived.Shelf.Strings.Runes
import Derived.Shelf.Strings.AsciiSet
import Derived.Shelf.Bits.Mul64
import Derived.Shelf.Unicode.DecodeSlow
import Derived.Test.YthmmgjieppknkaaGreatDoorProg
import Derived.ProofKit
import Derived.Laws.OwnMore
import Derived.BigRegion
import Derived.Deep.OwnRows
import Derived.Lib.LazyBuf
import Derived.Laws.BytesArg
import Derived.RangeFuncSeq
import Derived.Shelf.Abstract
import Derived.Maps.OwnOps
import Derived.Deep.RegionHeld
import Derived.RangeFuncNested
import Derived.RangeFuncBox
import Derived.RangeFuncBound
import Derived.RangeFuncCalls
import Derived.RangeFuncLeaves
import Derived.Shelf.RegionOpen
import Derived.OwnWalkIn
import Derived.TacticsInMore
import Derived.LoopNIn
import Derived.LoopIn
import Derived.DeepKeys4
import Derived.Deep.AppendLies
import Derived.Maps.RangeWalk
namespace Go.Proofs.YthmmgjieppknkaaGreatDoor
open Go.RowKit Go.Shelf Go.Maps MLab
theorem rst_both (mode run rej : Int) (v : Value) (l : List Bool) (hl : l.length ≤ 1000000) : ∃ (k : Nat) (z : Int),
    (∀ W, SlL W v (bcl l) → Calls Tryz.prog 16 #[.agg #[.int .i64 mode, .int .i64 run, v, .int .i64 rej]] W fun e w' => e = .returned (.tuple #[.agg #[.int .i64 (k : Int), .int .i64 0, .slice none 0 0, .int .i64 0], .int .i64 z]) ∧ Below W.heap.size W w') ∧
    (∀ W, SlL W v (bcl l) → Calls Tryz.prog 17 #[.agg #[.int .i64 mode, .int .i64 run, v, .int .i64 rej]] W fun e w' => e = .returned (.tuple #[.agg #[.int .i64 (k : Int), .int .i64 0, .slice none 0 0, .int .i64 0], .int .i64 z]) ∧ Below W.heap.size W w') := by
  by_cases h : rstE mode run l rej = 0
  · have h3 : mode = 3 := by
      unfold rstE at h
      split at h
      · rename_i h2; exact absurd h h2
      · split at h
        · simp at h
        · rename_i h2; exact Classical.not_not.1 h2
    subst h3
    have hr : rightI 3 run l rej = 0 := by
      unfold rstE at h
      split at h
      · rename_i h2; exact absurd h h2
      · rename_i h2; exact Classical.not_not.1 h2
    exact ⟨1, 0, fun W hv => swrst_ok W run rej v l hv hl hr, fun W hv => rswrst_ok W run rej v l hv hl hr⟩
  · exact ⟨0, _, fun W hv => swrst_bad W mode run rej _ v l hv hl h rfl, fun W hv => rswrst_bad W mode run rej _ v l hv hl h rfl⟩
theorem same_begun (W : World) (k : Nat) : Calls Tryz.prog 24 #[.agg #[.int .i64 (k : Int), .int .i64 0, .slice none 0 0, .int .i64 0], .agg #[.int .i64 (k : Int), .int .i64 0, .slice none 0 0, .int .i64 0]] W fun e w' => e = .returned (.bool true) ∧ Below W.heap.size W w' := by
  have h := same55D_any W none none 0 0 0 0 (swB k) (swB k) (SlL.nil W) (SlL.nil W) (by simp [swB])
  rw [decide_eq_true rfl] at h
  exact h
set_option maxRecDepth 100000 in
set_option maxHeartbeats 4000000 in
theorem checks55_any (w : World) (S : Nat → Int × Int) (mode run rej : Int) (v : Value) (l : List Bool) (hv : SlL w v (bcl l)) (hs : Std w) :
    Calls Tryz.prog 3 #[schV S, .agg #[.int .i64 mode, .int .i64 run, v, .int .i64 rej]] w fun e w' => e = .returned (.bool true) ∧ Below w.heap.size w w' := by
  obtain ⟨A, c, rfl⟩ := hv.shape
  obtain ⟨n, hn⟩ : ∃ n, l.length = n := ⟨_, rfl⟩
  rw [bcl_len, hn] at hv ⊢
  have HV := hide hv
  have HS := hide hs
  have HN := hide hn
  clear hv hs hn
  unfold schV
  by_cases hbig : 20 < n
  · have hbi : (20 : Int) < (n : Int) := by omega
    have HB := allocs_below w [.cells #[.int .i64 (S 0).1, .int .i64 (S 0).2, .int .i64 (S 1).1, .int .i64 (S 1).2, .int .i64 (S 2).1, .int .i64 (S 2).2] 26, .cells #[.int .i64 mode, .int .i64 run, .slice A n c, .int .i64 rej] 29]
    have K_s : Blk (allocs w [.cells #[.int .i64 (S 0).1, .int .i64 (S 0).2, .int .i64 (S 1).1, .int .i64 (S 1).2, .int .i64 (S 2).1, .int .i64 (S 2).2] 26, .cells #[.int .i64 mode, .int .i64 run, .slice A n c, .int .i64 rej] 29]) (w.heap.size + 0) 26 #[.int .i64 (S 0).1, .int .i64 (S 0).2, .int .i64 (S 1).1, .int .i64 (S 1).2, .int .i64 (S 2).1, .int .i64 (S 2).2] := allocs_at w [.cells #[.int .i64 (S 0).1, .int .i64 (S 0).2, .int .i64 (S 1).1, .int .i64 (S 1).2, .int .i64 (S 2).1, .int .i64 (S 2).2] 26, .cells #[.int .i64 mode, .int .i64 run, .slice A n c, .int .i64 rej] 29] 0 rfl
    have K_x : Blk (allocs w [.cells #[.int .i64 (S 0).1, .int .i64 (S 0).2, .int .i64 (S 1).1, .int .i64 (S 1).2, .int .i64 (S 2).1, .int .i64 (S 2).2] 26, .cells #[.int .i64 mode, .int .i64 run, .slice A n c, .int .i64 rej] 29]) (w.heap.size + 1) 29 #[.int .i64 mode, .int .i64 run, .slice A n c, .int .i64 rej] := allocs_at w [.cells #[.int .i64 (S 0).1, .int .i64 (S 0).2, .int .i64 (S 1).1, .int .i64 (S 1).2, .int .i64 (S 2).1, .int .i64 (S 2).2] 26, .cells #[.int .i64 mode, .int .i64 run, .slice A n c, .int .i64 rej] 29] 1 rfl
    unfold allocs at HB K_s K_x
    simp only [List.foldl_cons, List.foldl_nil] at HB K_s K_x
    rw [Nat.add_zero] at K_s
    go_enter Tryz.func3, Tryz.ntmps3
    go_upto_region 1 with (fail)
    generalize ((w.alloc (.cells #[.int .i64 (S 0).1, .int .i64 (S 0).2, .int .i64 (S 1).1, .int .i64 (S 1).2, .int .i64 (S 2).1, .int .i64 (S 2).2] 26)).alloc (.cells #[.int .i64 mode, .int .i64 run, .slice A n c, .int .i64 rej] 29)) = w0 at *
    replace K_s := hide K_s
    replace K_x := hide K_x
    replace HB := hide HB
    have x0 := (Blk.cell K_x.out 0).trans (rfl : _ = some (Value.int .i64 mode))
    have x1 := (Blk.cell K_x.out 1).trans (rfl : _ = some (Value.int .i64 run))
    have x2 := (Blk.cell K_x.out 2).trans (rfl : _ = some (Value.slice A n c))
    have x3 := (Blk.cell K_x.out 3).trans (rfl : _ = some (Value.int .i64 rej))
    go_wp2_with fail
    refine (awake55_any _ (HS.out.below HB.out (Nat.le_refl _))).mono ?_
    rintro e w1 ⟨rfl, hb⟩
    clear x0 x1 x2 x3
    replace K_s := hide (Blk.below K_s.out hb (Blk.lt K_s.out))
    replace K_x := hide (Blk.below K_x.out hb (Blk.lt K_x.out))
    replace HB := hide (HB.out.trans (hb.mono HB.out.size))
    clear hb
    go_wp2_with fail
    go_ret
    exact ⟨rfl, HB.out⟩
  · have hbi : ¬ (20 : Int) < (n : Int) := by omega
    have hl : l.length ≤ 1000000 := by rw [HN.out]; omega
    obtain ⟨k, z, hp, hr⟩ := rst_both mode run rej (.slice A n c) l hl
    have HP := hide hp
    have HR := hide hr
    have HL := hide hl
    clear hp hr hl
    obtain ⟨ck, hck⟩ : ∃ q, ckS S = q := ⟨_, rfl⟩
    obtain ⟨rg, hrg⟩ : ∃ q, rightI mode run l rej = q := ⟨_, rfl⟩
    have HCK := hide (fun W => swck_any W S)
    have HRK := hide (fun W => rswck_any W S)
    have HOW := hide (fun W => own_any W S)
    unfold schV at HCK HRK HOW
    rw [hck] at HCK HRK
    have HRI := hide (fun (W : World) (h : SlL W (.slice A n c) (bcl l)) => swright_any W mode run rej _ l h HL.out)
    have HRR := hide (fun (W : World) (h : SlL W (.slice A n c) (bcl l)) => rswright_any W mode run rej _ l h HL.out)
    rw [hrg] at HRI HRR
    clear hck hrg
    have HST := hide (fun W => stateI_any W mode run rej A n c)
    have HSK := hide (fun W => stateI_any W (k : Int) 0 0 none 0 0)
    have HSA := hide (fun W => same_begun W k)
    have HAW := hide (fun W hS => awake55_any W hS)
    have HB := allocs_below w [.cells #[.int .i64 (S 0).1, .int .i64 (S 0).2, .int .i64 (S 1).1, .int .i64 (S 1).2, .int .i64 (S 2).1, .int .i64 (S 2).2] 26, .cells #[.int .i64 mode, .int .i64 run, .slice A n c, .int .i64 rej] 29]
    have K_s : Blk (allocs w [.cells #[.int .i64 (S 0).1, .int .i64 (S 0).2, .int .i64 (S 1).1, .int .i64 (S 1).2, .int .i64 (S 2).1, .int .i64 (S 2).2] 26, .cells #[.int .i64 mode, .int .i64 run, .slice A n c, .int .i64 rej] 29]) (w.heap.size + 0) 26 #[.int .i64 (S 0).1, .int .i64 (S 0).2, .int .i64 (S 1).1, .int .i64 (S 1).2, .int .i64 (S 2).1, .int .i64 (S 2).2] := allocs_at w [.cells #[.int .i64 (S 0).1, .int .i64 (S 0).2, .int .i64 (S 1).1, .int .i64 (S 1).2, .int .i64 (S 2).1, .int .i64 (S 2).2] 26, .cells #[.int .i64 mode, .int .i64 run, .slice A n c, .int .i64 rej] 29] 0 rfl
    have K_x : Blk (allocs w [.cells #[.int .i64 (S 0).1, .int .i64 (S 0).2, .int .i64 (S 1).1, .int .i64 (S 1).2, .int .i64 (S 2).1, .int .i64 (S 2).2] 26, .cells #[.int .i64 mode, .int .i64 run, .slice A n c, .int .i64 rej] 29]) (w.heap.size + 1) 29 #[.int .i64 mode, .int .i64 run, .slice A n c, .int .i64 rej] := allocs_at w [.cells #[.int .i64 (S 0).1, .int .i64 (S 0).2, .int .i64 (S 1).1, .int .i64 (S 1).2, .int .i64 (S 2).1, .int .i64 (S 2).2] 26, .cells #[.int .i64 mode, .int .i64 run, .slice A n c, .int .i64 rej] 29] 1 rfl
    unfold allocs at HB K_s K_x
    simp only [List.foldl_cons, List.foldl_nil] at HB K_s K_x
    rw [Nat.add_zero] at K_s
    go_enter Tryz.func3, Tryz.ntmps3
    go_upto_region 1 with (fail)
    generalize ((w.alloc (.cells #[.int .i64 (S 0).1, .int .i64 (S 0).2, .int .i64 (S 1).1, .int .i64 (S 1).2, .int .i64 (S 2).1, .int .i64 (S 2).2] 26)).alloc (.cells #[.int .i64 mode, .int .i64 run, .slice A n c, .int .i64 rej] 29)) = w0 at *
    replace K_s := hide K_s
    replace K_x := hide K_x
    replace HB := hide HB
    replace HV := hide (HV.out.below HB.out)
    have x0 := (Blk.cell K_x.out 0).trans (rfl : _ = some (Value.int .i64 mode))
    have x1 := (Blk.cell K_x.out 1).trans (rfl : _ = some (Value.int .i64 run))
    have x2 := (Blk.cell K_x.out 2).trans (rfl : _ = some (Value.slice A n c))
    have x3 := (Blk.cell K_x.out 3).trans (rfl : _ = some (Value.int .i64 rej))
    go_wp2_with fail
    refine (HP.out _ HV.out).mono ?_
    rintro e w1 ⟨rfl, hb⟩
    clear x0 x1 x2 x3
    replace K_s := hide (Blk.below K_s.out hb (Blk.lt K_s.out))
    replace K_x := hide (Blk.below K_x.out hb (Blk.lt K_x.out))
    replace HB := hide (HB.out.trans (hb.mono HB.out.size))
    replace HV := hide (HV.out.below hb)
    clear hb
    go_upto_region 4 with (fail)
    have hbs_a : w.heap.size ≤ w1.heap.size := HB.out.size
    have lt_a_s : w.heap.size < w1.heap.size := Blk.lt K_s.out
    have lt_a_x : (w.heap.size + 1) < w1.heap.size := Blk.lt K_x.out
    replace K_s := K_s.out.alloc (.cells #[.int .i64 (k : Int), .int .i64 0, .slice none 0 0, .int .i64 0] 29)
    replace K_x := K_x.out.alloc (.cells #[.int .i64 (k : Int), .int .i64 0, .slice none 0 0, .int .i64 0] 29)
    replace HB := HB.out.alloc HB.out.size (.cells #[.int .i64 (k : Int), .int .i64 0, .slice none 0 0, .int .i64 0] 29)
    have K_a := Blk.new w1 29 #[.int .i64 (k : Int), .int .i64 0, .slice none 0 0, .int .i64 0]
    replace HV := HV.out.below ((Below.refl w1.heap.size w1).alloc (Nat.le_refl _) (.cells #[.int .i64 (k : Int), .int .i64 0, .slice none 0 0, .int .i64 0] 29))
    generalize w1.alloc (.cells #[.int .i64 (k : Int), .int .i64 0, .slice none 0 0, .int .i64 0] 29) = w2 at *
    replace K_s := hide K_s
    replace K_x := hide K_x
    replace K_a := hide K_a
    replace HB := hide HB
    replace HV := hide HV
    have x0 := (Blk.cell K_x.out 0).trans (rfl : _ = some (Value.int .i64 mode))
    have x1 := (Blk.cell K_x.out 1).trans (rfl : _ = some (Value.int .i64 run))
    have x2 := (Blk.cell K_x.out 2).trans (rfl : _ = some (Value.slice A n c))
    have x3 := (Blk.cell K_x.out 3).trans (rfl : _ = some (Value.int .i64 rej))
    go_wp2_with fail
    refine (HST.out _).mono ?_
    rintro e w3 ⟨rfl, hb⟩
    clear x0 x1 x2 x3
    replace K_s := hide (Blk.below K_s.out hb (Blk.lt K_s.out))
    replace K_x := hide (Blk.below K_x.out hb (Blk.lt K_x.out))
    replace K_a := hide (Blk.below K_a.out hb (Blk.lt K_a.out))
    replace HB := hide (HB.out.trans (hb.mono HB.out.size))
    replace HV := hide (HV.out.below hb)
    clear hb
    go_wp2_with fail
    refine (HR.out _ HV.out).mono ?_
    rintro e w4 ⟨rfl, hb⟩
    replace K_s := hide (Blk.below K_s.out hb (Blk.lt K_s.out))
    replace K_x := hide (Blk.below K_x.out hb (Blk.lt K_x.out))
    replace K_a := hide (Blk.below K_a.out hb (Blk.lt K_a.out))
    replace HB := hide (HB.out.trans (hb.mono HB.out.size))
    replace HV := hide (HV.out.below hb)
    clear hb
    go_upto_region 5 with (fail)
    have hbs_b : w.heap.size ≤ w4.heap.size := HB.out.size
    have lt_b_s : w.heap.size < w4.heap.size := Blk.lt K_s.out
    have lt_b_x : (w.heap.size + 1) < w4.heap.size := Blk.lt K_x.out
    have lt_b_a : w1.heap.size < w4.heap.size := Blk.lt K_a.out
    replace K_s := K_s.out.alloc (.cells #[.int .i64 (k : Int), .int .i64 0, .slice none 0 0, .int .i64 0] 34)
    replace K_x := K_x.out.alloc (.cells #[.int .i64 (k : Int), .int .i64 0, .slice none 0 0, .int .i64 0] 34)
    replace K_a := K_a.out.alloc (.cells #[.int .i64 (k : Int), .int .i64 0, .slice none 0 0, .int .i64 0] 34)
    replace HB := HB.out.alloc HB.out.size (.cells #[.int .i64 (k : Int), .int .i64 0, .slice none 0 0, .int .i64 0] 34)
    have K_b := Blk.new w4 34 #[.int .i64 (k : Int), .int .i64 0, .slice none 0 0, .int .i64 0]
    replace HV := HV.out.below ((Below.refl w4.heap.size w4).alloc (Nat.le_refl _) (.cells #[.int .i64 (k : Int), .int .i64 0, .slice none 0 0, .int .i64 0] 34))
    generalize w4.alloc (.cells #[.int .i64 (k : Int), .int .i64 0, .slice none 0 0, .int .i64 0] 34) = w5 at *
    replace K_s := hide K_s
    replace K_x := hide K_x
    replace K_a := hide K_a
    replace K_b := hide K_b
    replace HB := hide HB
    replace HV := hide HV
    have s0 := (Blk.cell K_s.out 0).trans (rfl : _ = some (Value.int .i64 (S 0).1))
    have s1 := (Blk.cell K_s.out 1).trans (rfl : _ = some (Value.int .i64 (S 0).2))
    have s2 := (Blk.cell K_s.out 2).trans (rfl : _ = some (Value.int .i64 (S 1).1))
    have s3 := (Blk.cell K_s.out 3).trans (rfl : _ = some (Value.int .i64 (S 1).2))
    have s4 := (Blk.cell K_s.out 4).trans (rfl : _ = some (Value.int .i64 (S 2).1))
    have s5 := (Blk.cell K_s.out 5).trans (rfl : _ = some (Value.int .i64 (S 2).2))
    have x0 := (Blk.cell K_x.out 0).trans (rfl : _ = some (Value.int .i64 mode))
    have x1 := (Blk.cell K_x.out 1).trans (rfl : _ = some (Value.int .i64 run))
    have x2 := (Blk.cell K_x.out 2).trans (rfl : _ = some (Value.slice A n c))
    have x3 := (Blk.cell K_x.out 3).trans (rfl : _ = some (Value.int .i64 rej))
    have a0 := (Blk.cell K_a.out 0).trans (rfl : _ = some (Value.int .i64 (k : Int)))
    have a1 := (Blk.cell K_a.out 1).trans (rfl : _ = some (Value.int .i64 0))
    have a2 := (Blk.cell K_a.out 2).trans (rfl : _ = some (Value.slice none 0 0))
    have a3 := (Blk.cell K_a.out 3).trans (rfl : _ = some (Value.int .i64 0))
    have b0 := (Blk.cell K_b.out 0).trans (rfl : _ = some (Value.int .i64 (k : Int)))
    have b1 := (Blk.cell K_b.out 1).trans (rfl : _ = some (Value.int .i64 0))
    have b2 := (Blk.cell K_b.out 2).trans (rfl : _ = some (Value.slice none 0 0))
    have b3 := (Blk.cell K_b.out 3).trans (rfl : _ = some (Value.int .i64 0))
    go_upto_region 5 with (fail)
    have SK : ∀ w', Below w5.heap.size w5 w' → Below w5.heap.size w5 w' ∧ w'.cell? ⟨w.heap.size, 0, none⟩ = some (.int .i64 (S 0).1) ∧ w'.cell? ⟨w.heap.size, 1, none⟩ = some (.int .i64 (S 0).2) ∧ w'.cell? ⟨w.heap.size, 2, none⟩ = some (.int .i64 (S 1).1) ∧ w'.cell? ⟨w.heap.size, 3, none⟩ = some (.int .i64 (S 1).2) ∧ w'.cell? ⟨w.heap.size, 4, none⟩ = some (.int .i64 (S 2).1) ∧ w'.cell? ⟨w.heap.size, 5, none⟩ = some (.int .i64 (S 2).2) ∧ w'.cell? ⟨(w.heap.size + 1), 0, none⟩ = some (.int .i64 mode) ∧ w'.cell? ⟨(w.heap.size + 1), 1, none⟩ = some (.int .i64 run) ∧ w'.cell? ⟨(w.heap.size + 1), 2, none⟩ = some (.slice A n c) ∧ w'.cell? ⟨(w.heap.size + 1), 3, none⟩ = some (.int .i64 rej) ∧ w'.cell? ⟨w1.heap.size, 0, none⟩ = some (.int .i64 (k : Int)) ∧ w'.cell? ⟨w1.heap.size, 1, none⟩ = some (.int .i64 0) ∧ w'.cell? ⟨w1.heap.size, 2, none⟩ = some (.slice none 0 0) ∧ w'.cell? ⟨w1.heap.size, 3, none⟩ = some (.int .i64 0) ∧ w'.cell? ⟨w4.heap.size, 0, none⟩ = some (.int .i64 (k : Int)) ∧ w'.cell? ⟨w4.heap.size, 1, none⟩ = some (.int .i64 0) ∧ w'.cell? ⟨w4.heap.size, 2, none⟩ = some (.slice none 0 0) ∧ w'.cell? ⟨w4.heap.size, 3, none⟩ = some (.int .i64 0) := fun w' h => ⟨h, (bcell h _ _ (block_lt_of_cell s0)).trans s0, (bcell h _ _ (block_lt_of_cell s1)).trans s1, (bcell h _ _ (block_lt_of_cell s2)).trans s2, (bcell h _ _ (block_lt_of_cell s3)).trans s3, (bcell h _ _ (block_lt_of_cell s4)).trans s4, (bcell h _ _ (block_lt_of_cell s5)).trans s5, (bcell h _ _ (block_lt_of_cell x0)).trans x0, (bcell h _ _ (block_lt_of_cell x1)).trans x1, (bcell h _ _ (block_lt_of_cell x2)).trans x2, (bcell h _ _ (block_lt_of_cell x3)).trans x3, (bcell h _ _ (block_lt_of_cell a0)).trans a0, (bcell h _ _ (block_lt_of_cell a1)).trans a1, (bcell h _ _ (block_lt_of_cell a2)).trans a2, (bcell h _ _ (block_lt_of_cell a3)).trans a3, (bcell h _ _ (block_lt_of_cell b0)).trans b0, (bcell h _ _ (block_lt_of_cell b1)).trans b1, (bcell h _ _ (block_lt_of_cell b2)).trans b2, (bcell h _ _ (block_lt_of_cell b3)).trans b3⟩
    have SB : ∀ w', (Below w5.heap.size w5 w' ∧ w'.cell? ⟨w.heap.size, 0, none⟩ = some (.int .i64 (S 0).1) ∧ w'.cell? ⟨w.heap.size, 1, none⟩ = some (.int .i64 (S 0).2) ∧ w'.cell? ⟨w.heap.size, 2, none⟩ = some (.int .i64 (S 1).1) ∧ w'.cell? ⟨w.heap.size, 3, none⟩ = some (.int .i64 (S 1).2) ∧ w'.cell? ⟨w.heap.size, 4, none⟩ = some (.int .i64 (S 2).1) ∧ w'.cell? ⟨w.heap.size, 5, none⟩ = some (.int .i64 (S 2).2) ∧ w'.cell? ⟨(w.heap.size + 1), 0, none⟩ = some (.int .i64 mode) ∧ w'.cell? ⟨(w.heap.size + 1), 1, none⟩ = some (.int .i64 run) ∧ w'.cell? ⟨(w.heap.size + 1), 2, none⟩ = some (.slice A n c) ∧ w'.cell? ⟨(w.heap.size + 1), 3, none⟩ = some (.int .i64 rej) ∧ w'.cell? ⟨w1.heap.size, 0, none⟩ = some (.int .i64 (k : Int)) ∧ w'.cell? ⟨w1.heap.size, 1, none⟩ = some (.int .i64 0) ∧ w'.cell? ⟨w1.heap.size, 2, none⟩ = some (.slice none 0 0) ∧ w'.cell? ⟨w1.heap.size, 3, none⟩ = some (.int .i64 0) ∧ w'.cell? ⟨w4.heap.size, 0, none⟩ = some (.int .i64 (k : Int)) ∧ w'.cell? ⟨w4.heap.size, 1, none⟩ = some (.int .i64 0) ∧ w'.cell? ⟨w4.heap.size, 2, none⟩ = some (.slice none 0 0) ∧ w'.cell? ⟨w4.heap.size, 3, none⟩ = some (.int .i64 0)) → Below w5.heap.size w5 w' := fun w' h => h.1
    go_region_held3 (fun w' => Below w5.heap.size w5 w' ∧ w'.cell? ⟨w.heap.size, 0, none⟩ = some (.int .i64 (S 0).1) ∧ w'.cell? ⟨w.heap.size, 1, none⟩ = some (.int .i64 (S 0).2) ∧ w'.cell? ⟨w.heap.size, 2, none⟩ = some (.int .i64 (S 1).1) ∧ w'.cell? ⟨w.heap.size, 3, none⟩ = some (.int .i64 (S 1).2) ∧ w'.cell? ⟨w.heap.size, 4, none⟩ = some (.int .i64 (S 2).1) ∧ w'.cell? ⟨w.heap.size, 5, none⟩ = some (.int .i64 (S 2).2) ∧ w'.cell? ⟨(w.heap.size + 1), 0, none⟩ = some (.int .i64 mode) ∧ w'.cell? ⟨(w.heap.size + 1), 1, none⟩ = some (.int .i64 run) ∧ w'.cell? ⟨(w.heap.size + 1), 2, none⟩ = some (.slice A n c) ∧ w'.cell? ⟨(w.heap.size + 1), 3, none⟩ = some (.int .i64 rej) ∧ w'.cell? ⟨w1.heap.size, 0, none⟩ = some (.int .i64 (k : Int)) ∧ w'.cell? ⟨w1.heap.size, 1, none⟩ = some (.int .i64 0) ∧ w'.cell? ⟨w1.heap.size, 2, none⟩ = some (.slice none 0 0) ∧ w'.cell? ⟨w1.heap.size, 3, none⟩ = some (.int .i64 0) ∧ w'.cell? ⟨w4.heap.size, 0, none⟩ = some (.int .i64 (k : Int)) ∧ w'.cell? ⟨w4.heap.size, 1, none⟩ = some (.int .i64 0) ∧ w'.cell? ⟨w4.heap.size, 2, none⟩ = some (.slice none 0 0) ∧ w'.cell? ⟨w4.heap.size, 3, none⟩ = some (.int .i64 0)) (first | exact SK _ (Below.refl _ _).drew | exact SK _ (Below.refl _ _) | exact SK _ (bel_next (by assumption) (by assumption) (Nat.le_refl _)))
      (first
        | (go_at_call 19; refine (HCK.out _).mono ?_; rintro e wx ⟨rfl, hbW⟩)
        | (go_at_call 21; refine (HOW.out _).mono ?_; rintro e wx ⟨rfl, hbW⟩)
        | (go_at_call 20; refine (HRK.out _).mono ?_; rintro e wx ⟨rfl, hbW⟩)
        | (go_at_call 22; refine (HRI.out _ (HV.out.below (SB _ (by assumption)))).mono ?_; rintro e wx ⟨rfl, hbW⟩)
        | (go_at_call 18; refine (HST.out _).mono ?_; rintro e wx ⟨rfl, hbW⟩)
        | (go_at_call 18; refine (HSK.out _).mono ?_; rintro e wx ⟨rfl, hbW⟩)
        | (go_at_call 23; refine (HRR.out _ (HV.out.below (SB _ (by assumption)))).mono ?_; rintro e wx ⟨rfl, hbW⟩)
        | (go_at_call 24; refine (HSA.out _).mono ?_; rintro e wx ⟨rfl, hbW⟩)
        | (go_at_call 15; refine (HAW.out _ (HS.out.below (HB.out.trans ((SB _ (by assumption)).mono HB.out.size)) (Nat.le_refl _))).mono ?_; rintro e wx ⟨rfl, hbW⟩))
    obtain ⟨hbx, _⟩ : Below w5.heap.size w5 _ ∧ _ := by assumption
    have HX := hide (HB.out.trans (hbx.mono HB.out.size))
    clear hbx
    go_wp2_with fail
    go_ret
    exact ⟨rfl, HX.out⟩
end Go.Proofs.YthmmgjieppknkaaGreatDoor
