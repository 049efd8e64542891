/- Contracts and plain laws that the statements of this seat share (part Erae). -/
import Derived.Test.YthmmgjieppknkaaGreatDoorEraa
import Derived.Test.YthmmgjieppknkaaGreatDoorErab
import Derived.Test.YthmmgjieppknkaaGreatDoorErac
import Derived.Test.YthmmgjieppknkaaGreatDoorErad
import Derived.Test.YthmmgjieppknkaaGreatDoorKaa
import Derived.Test.YthmmgjieppknkaaGreatDoorKab
import Derived.Test.YthmmgjieppknkaaGreatDoorKac
import Derived.Test.YthmmgjieppknkaaGreatDoorKad
import Derived.Test.YthmmgjieppknkaaGreatDoorKag
import Derived.Test.YthmmgjieppknkaaGreatDoorKai
import Derived.Test.YthmmgjieppknkaaGreatDoorKak
import Derived.Test.YthmmgjieppknkaaGreatDoorKal
import Derived.Test.YthmmgjieppknkaaGreatDoorKam
import Derived.Test.YthmmgjieppknkaaGreatDoorKas
import Derived.Test.YthmmgjieppknkaaGreatDoorKat
import Derived.Test.YthmmgjieppknkaaGreatDoorKau
import Derived.Test.YthmmgjieppknkaaGreatDoorKax
import Derived.Deep.RegionWith
import Derived.Laws.OwnMore
import Derived.Deep.RegionLaw
import Derived.RegionTactic
import Derived.Laws.Tables
import Derived.Test.YthmmgjieppknkaaGreatDoorChecked
import Derived.WalkKit
import Derived.WalkSpells
import Derived.WalkLawsBesides
import Derived.Lib.Hide
import Derived.IntWalk
import Derived.BigQuiet
import Derived.Deep.QuietTactic
import Derived.Deep.LoopGhost
import Derived.Deep.DeepCutAuto
import Derived.Deep.DeepFit
import Derived.Deep.Light
import Derived.Outline
import Derived.Laws.Rows
import Derived.Laws.NewBlocks
import Derived.Laws.CopyOwn
import Derived.Lib.ItoaNum
import Derived.Lib.ItoaLen
import Derived.Lib.Atoi
import Derived.Lib.AtoiAll
import Derived.Lib.Strings
import Derived.Lib.SlTrimSet
import Derived.Lib.Builder
import Derived.Lib.AppendStr
import Derived.Laws.Externs
import Derived.WalkSmall
import Derived.Lib.AtoiErrMem
import Derived.Shelf.Strings.SlTrimAscii
import Derived.Shelf.Strings.Builder1
import Derived.Shelf.Strings.Trim
import Derived.Shelf.Small.Utf8
import Derived.Shelf.Small.Strs
import Derived.Shelf.Strings.BuilderF
import Derived.Shelf.Strings.BuilderK
import Derived.Shelf.Strconv.Atoi
import Derived.Shelf.Strconv.Itoa0
import Derived.Shelf.Strconv.Itoa1
import Derived.Shelf.LaysM
import Derived.Shelf.Strconv.Itoa2
import Derived.Shelf.Strconv.Itoa3
import Derived.Shelf.Strings.Search1
import Derived.Shelf.Strings.Search2
import Derived.Shelf.Strings.Cut
import Derived.Shelf.Strings.Shaped
import Derived.Shelf.Strings.Prefix
import Derived.Shelf.Strings.Runes
import Derived.Shelf.Strings.AsciiSet
import Derived.Shelf.Bits.Mul64
import Derived.Shelf.Unicode.DecodeSlow
import Derived.Test.YthmmgjieppknkaaGreatDoorProg
import Derived.Lib.IndexMore
import Derived.Lib.IndexBytes
import Derived.Lib.IndexLaws
import Derived.Deep.RegionHeld3
import Derived.BigRegion
import Derived.Deep.OwnRows
import Derived.Lib.LazyBuf
import Derived.Laws.BytesArg
import Derived.Laws.ResultCell
import Derived.ChangeKeysEq
import Derived.DeepKeys
import Derived.RangeFuncSeq
import Derived.Shelf.Abstract
import Derived.Maps.OwnOps
import Derived.Deep.RegionHeld
import Derived.RangeFuncNested
import Derived.RangeFuncBox
import Derived.RangeFuncBound
import Derived.RangeFuncCalls
import Derived.RangeFuncLeaves
import Derived.Shelf.RegionOpen
import Derived.OwnWalkIn
import Derived.TacticsInMore
import Derived.LoopNIn
import Derived.LoopIn
import Derived.DeepKeys4
import Derived.Maps.RangeWalk
import Derived.ProofKit
import Derived.Maps.AppendAt
namespace Go.Proofs.YthmmgjieppknkaaGreatDoor
open Go.RowKit Go.Maps MLab
theorem right_len {x : Sw} (h : RightS x) : x.last.length ≤ 4 := (rightI_zero h).2.2.2.2.2.2.1
end Go.Proofs.YthmmgjieppknkaaGreatDoor

namespace Go.Proofs.YthmmgjieppknkaaGreatDoor
open Go.RowKit Go.Shelf Go.Maps MLab
theorem sameY (W : World) (A A2 : Option Addr) (N N2 c c2 : Nat) (x : Sw) (hu : SlL W (.slice A N c) (bcl x.last)) (hv : SlL W (.slice A2 N2 c2) (bcl x.last)) (hl : x.last.length ≤ 1000000) :
    Calls Tryz.prog 24 #[.agg #[.int .i64 (x.mode : Int), .int .i64 (x.run : Int), .slice A N c, .int .i64 (x.rej : Int)], .agg #[.int .i64 (x.mode : Int), .int .i64 (x.run : Int), .slice A2 N2 c2, .int .i64 (x.rej : Int)]] W fun e w' => e = .returned (.bool true) ∧ Below W.heap.size W w' := by
  have h := same55D_any W A A2 N N2 c c2 x x hu hv hl
  rw [decide_eq_true rfl] at h
  exact h
end Go.Proofs.YthmmgjieppknkaaGreatDoor

namespace Go.Proofs.YthmmgjieppknkaaGreatDoor
open Go.RowKit Go.Shelf Go.Maps MLab
theorem goC_ne {R : Nat → Nat × Nat} : ∀ {L : List Int} {i : Nat} {x : Cr} {e : Nat × Int}, goC R L i x = .inr e → e.2 ≠ 0
  | [], i, x, e, h => by rw [goC] at h; cases h
  | n :: L, i, x, e, h => by
    rw [goC_cons] at h
    cases hs : stepC R x n with
    | inl z => rw [hs] at h; exact goC_ne h
    | inr z =>
      rw [hs] at h
      cases h
      unfold stepC at hs
      split at hs
      · split at hs <;> cases hs; simp
      · split at hs
        · cases hs; simp
        · split at hs <;> cases hs; simp
theorem runG_ne {S : Nat → Int × Int} {L : List Int} {e : Nat × Int} (h : runG S L = .inr e) : e.2 ≠ 0 := by
  unfold runG at h
  split at h
  · cases h; decide
  · split at h
    · cases h; decide
    · exact goC_ne h
theorem runG_ok {S : Nat → Int × Int} {L : List Int} {c : Cr} (h : runG S L = .inl c) : ckS S = 0 ∧ L.length ≤ 4096 ∧ goC (ruN S) L 0 cr0 = .inl c ∧ RightS c.st ∧ c.res.length ≤ L.length := by
  unfold runG at h
  split at h
  · cases h
  · rename_i h0
    have h0 := Classical.not_not.1 h0
    split at h
    · cases h
    · rename_i h1
      obtain ⟨a, b, _⟩ := goC_ok (B := 1048576) (fun m => (ruN_le h0 m).1) (x := cr0) (swB_right (by omega)) h
      exact ⟨h0, by omega, h, a, by simpa [cr0] using b⟩
def RuP (W : World) (y : Sw) (rs : List Bool) (i : Nat) (z : Int) (e : Ending) (w' : World) : Prop := (∃ u v, e = .returned (.tuple #[u, v, .int .i64 (i : Int), .int .i64 z]) ∧ StV w' u y ∧ SlL w' v (bcl rs)) ∧ Below W.heap.size W w'
def EfP (W : World) (n : Nat) (z : Int) (e : Ending) (w' : World) : Prop := e = .returned (.tuple #[.int .i64 (n : Int), .int .i64 z]) ∧ Below W.heap.size W w'
theorem run_both (S : Nat → Int × Int) (v : Value) (L : List Int) : ∃ (y : Sw) (rs : List Bool) (i : Nat) (z : Int) (n : Nat), y.last.length ≤ 4 ∧ rs.length ≤ 4096 ∧
    (∀ W, SlL W v (zcl L) → Calls Tryz.prog 27 #[schV S, v] W (RuP W y rs i z)) ∧
    (∀ W, SlL W v (zcl L) → Calls Tryz.prog 28 #[schV S, v] W (RuP W y rs i z)) ∧
    (∀ W, SlL W v (zcl L) → Calls Tryz.prog 29 #[schV S, v] W (EfP W n z)) ∧
    (∀ W, SlL W v (zcl L) → Calls Tryz.prog 30 #[schV S, v] W (EfP W n z)) := by
  cases hg : runG S L with
  | inl c =>
    obtain ⟨_, hl, _, hr, hn⟩ := runG_ok hg
    exact ⟨c.st, c.res, 0, 0, c.eff, right_len hr, by omega, fun W hv => swrun_ok W S v L c hv hg, fun W hv => rswrun_ok W S v L c hv hg, fun W hv => sweffort_ok W S v L c hv hg, fun W hv => rsweffort_ok W S v L c hv hg⟩
  | inr e =>
    obtain ⟨i, z⟩ := e
    have hz : z ≠ 0 := runG_ne hg
    refine ⟨swB 0, [], i, z, 0, Nat.zero_le _, Nat.zero_le _, fun W hv => (swrun_err W S v L i z hv hg hz).mono ?_, fun W hv => (rswrun_err W S v L i z hv hg hz).mono ?_, fun W hv => sweffort_err W S v L i z hv hg hz, fun W hv => rsweffort_err W S v L i z hv hg hz⟩
    · rintro e w' ⟨h1, h2⟩
      exact ⟨⟨_, _, h1, StV.begun _ 0, SlL.nil _⟩, h2⟩
    · rintro e w' ⟨h1, h2⟩
      exact ⟨⟨_, _, h1, StV.begun _ 0, SlL.nil _⟩, h2⟩
set_option maxRecDepth 100000 in
set_option maxHeartbeats 8000000 in
theorem runs55_any (w : World) (S : Nat → Int × Int) (v : Value) (L : List Int) (hv : SlL w v (zcl L)) (hs : Std w) :
    Calls Tryz.prog 5 #[schV S, v] w fun e w' => e = .returned (.bool true) ∧ Below w.heap.size w w' := by
  obtain ⟨A, c, rfl⟩ := hv.shape
  obtain ⟨N, hN⟩ : ∃ n, L.length = n := ⟨_, rfl⟩
  rw [zcl_len, hN] at hv ⊢
  have HV := hide hv
  have HS := hide hs
  have HAW := hide (fun W hS => awake55_any W hS)
  clear hv hs hN
  by_cases c1 : 200 < N
  · have i1 : (200 : Int) < (N : Int) := by omega
    by_cases c2 : N ≤ 4096
    · have i2 : (N : Int) ≤ 4096 := by omega
      unfold schV
      have HB := allocs_below w [.cells #[.int .i64 (S 0).1, .int .i64 (S 0).2, .int .i64 (S 1).1, .int .i64 (S 1).2, .int .i64 (S 2).1, .int .i64 (S 2).2] 26]
      have K_s : Blk (allocs w [.cells #[.int .i64 (S 0).1, .int .i64 (S 0).2, .int .i64 (S 1).1, .int .i64 (S 1).2, .int .i64 (S 2).1, .int .i64 (S 2).2] 26]) (w.heap.size + 0) 26 #[.int .i64 (S 0).1, .int .i64 (S 0).2, .int .i64 (S 1).1, .int .i64 (S 1).2, .int .i64 (S 2).1, .int .i64 (S 2).2] := allocs_at w [.cells #[.int .i64 (S 0).1, .int .i64 (S 0).2, .int .i64 (S 1).1, .int .i64 (S 1).2, .int .i64 (S 2).1, .int .i64 (S 2).2] 26] 0 rfl
      unfold allocs at HB K_s
      simp only [List.foldl_cons, List.foldl_nil] at HB K_s
      rw [Nat.add_zero] at K_s
      go_enter Tryz.func5, Tryz.ntmps5
      go_upto_region 1 with (fail)
      generalize (w.alloc (.cells #[.int .i64 (S 0).1, .int .i64 (S 0).2, .int .i64 (S 1).1, .int .i64 (S 1).2, .int .i64 (S 2).1, .int .i64 (S 2).2] 26)) = w0 at *
      replace K_s := hide K_s
      replace HB := hide HB
      have s0 := (Blk.cell K_s.out 0).trans (rfl : _ = some (Value.int .i64 (S 0).1))
      have s1 := (Blk.cell K_s.out 1).trans (rfl : _ = some (Value.int .i64 (S 0).2))
      have s2 := (Blk.cell K_s.out 2).trans (rfl : _ = some (Value.int .i64 (S 1).1))
      have s3 := (Blk.cell K_s.out 3).trans (rfl : _ = some (Value.int .i64 (S 1).2))
      have s4 := (Blk.cell K_s.out 4).trans (rfl : _ = some (Value.int .i64 (S 2).1))
      have s5 := (Blk.cell K_s.out 5).trans (rfl : _ = some (Value.int .i64 (S 2).2))
      go_wp2_with fail
      refine (HAW.out _ (HS.out.below HB.out (Nat.le_refl _))).mono ?_
      rintro e w2 ⟨rfl, hb⟩
      clear s0 s1 s2 s3 s4 s5
      replace K_s := hide (Blk.below K_s.out hb (Blk.lt K_s.out))
      replace HB := hide (HB.out.trans (hb.mono HB.out.size))
      clear hb
      go_wp2_with fail
      go_ret
      exact ⟨rfl, HB.out⟩
    · have i2 : ¬ (N : Int) ≤ 4096 := by omega
      by_cases c3 : 8192 < N
      · have i3 : (8192 : Int) < (N : Int) := by omega
        unfold schV
        have HB := allocs_below w [.cells #[.int .i64 (S 0).1, .int .i64 (S 0).2, .int .i64 (S 1).1, .int .i64 (S 1).2, .int .i64 (S 2).1, .int .i64 (S 2).2] 26]
        have K_s : Blk (allocs w [.cells #[.int .i64 (S 0).1, .int .i64 (S 0).2, .int .i64 (S 1).1, .int .i64 (S 1).2, .int .i64 (S 2).1, .int .i64 (S 2).2] 26]) (w.heap.size + 0) 26 #[.int .i64 (S 0).1, .int .i64 (S 0).2, .int .i64 (S 1).1, .int .i64 (S 1).2, .int .i64 (S 2).1, .int .i64 (S 2).2] := allocs_at w [.cells #[.int .i64 (S 0).1, .int .i64 (S 0).2, .int .i64 (S 1).1, .int .i64 (S 1).2, .int .i64 (S 2).1, .int .i64 (S 2).2] 26] 0 rfl
        unfold allocs at HB K_s
        simp only [List.foldl_cons, List.foldl_nil] at HB K_s
        rw [Nat.add_zero] at K_s
        go_enter Tryz.func5, Tryz.ntmps5
        go_upto_region 1 with (fail)
        generalize (w.alloc (.cells #[.int .i64 (S 0).1, .int .i64 (S 0).2, .int .i64 (S 1).1, .int .i64 (S 1).2, .int .i64 (S 2).1, .int .i64 (S 2).2] 26)) = w0 at *
        replace K_s := hide K_s
        replace HB := hide HB
        have s0 := (Blk.cell K_s.out 0).trans (rfl : _ = some (Value.int .i64 (S 0).1))
        have s1 := (Blk.cell K_s.out 1).trans (rfl : _ = some (Value.int .i64 (S 0).2))
        have s2 := (Blk.cell K_s.out 2).trans (rfl : _ = some (Value.int .i64 (S 1).1))
        have s3 := (Blk.cell K_s.out 3).trans (rfl : _ = some (Value.int .i64 (S 1).2))
        have s4 := (Blk.cell K_s.out 4).trans (rfl : _ = some (Value.int .i64 (S 2).1))
        have s5 := (Blk.cell K_s.out 5).trans (rfl : _ = some (Value.int .i64 (S 2).2))
        go_wp2_with fail
        refine (HAW.out _ (HS.out.below HB.out (Nat.le_refl _))).mono ?_
        rintro e w2 ⟨rfl, hb⟩
        clear s0 s1 s2 s3 s4 s5
        replace K_s := hide (Blk.below K_s.out hb (Blk.lt K_s.out))
        replace HB := hide (HB.out.trans (hb.mono HB.out.size))
        clear hb
        go_wp2_with fail
        go_ret
        exact ⟨rfl, HB.out⟩
      · have i3 : ¬ (8192 : Int) < (N : Int) := by omega
        obtain ⟨y, rs, at_, z, n, hyl, hrl, h1, h2, h3, h4⟩ := run_both S (.slice A N c) L
        have H1 := hide h1
        have H2 := hide h2
        have H3 := hide h3
        have H4 := hide h4
        have HYL := hide (show y.last.length ≤ 1000000 by omega)
        have HRL := hide (show rs.length ≤ 1000000 by omega)
        have HOW := hide (fun W => own_any W S)
        clear h1 h2 h3 h4 hyl hrl
        unfold EfP at H3 H4
        unfold schV at HOW H1 H2 H3 H4 ⊢
        have HB := allocs_below w [.cells #[.int .i64 (S 0).1, .int .i64 (S 0).2, .int .i64 (S 1).1, .int .i64 (S 1).2, .int .i64 (S 2).1, .int .i64 (S 2).2] 26]
        have K_s : Blk (allocs w [.cells #[.int .i64 (S 0).1, .int .i64 (S 0).2, .int .i64 (S 1).1, .int .i64 (S 1).2, .int .i64 (S 2).1, .int .i64 (S 2).2] 26]) (w.heap.size + 0) 26 #[.int .i64 (S 0).1, .int .i64 (S 0).2, .int .i64 (S 1).1, .int .i64 (S 1).2, .int .i64 (S 2).1, .int .i64 (S 2).2] := allocs_at w [.cells #[.int .i64 (S 0).1, .int .i64 (S 0).2, .int .i64 (S 1).1, .int .i64 (S 1).2, .int .i64 (S 2).1, .int .i64 (S 2).2] 26] 0 rfl
        unfold allocs at HB K_s
        simp only [List.foldl_cons, List.foldl_nil] at HB K_s
        rw [Nat.add_zero] at K_s
        go_enter Tryz.func5, Tryz.ntmps5
        go_upto_region 1 with (fail)
        generalize (w.alloc (.cells #[.int .i64 (S 0).1, .int .i64 (S 0).2, .int .i64 (S 1).1, .int .i64 (S 1).2, .int .i64 (S 2).1, .int .i64 (S 2).2] 26)) = w0 at *
        replace K_s := hide K_s
        replace HB := hide HB
        replace HV := hide (HV.out.below HB.out)
        have s0 := (Blk.cell K_s.out 0).trans (rfl : _ = some (Value.int .i64 (S 0).1))
        have s1 := (Blk.cell K_s.out 1).trans (rfl : _ = some (Value.int .i64 (S 0).2))
        have s2 := (Blk.cell K_s.out 2).trans (rfl : _ = some (Value.int .i64 (S 1).1))
        have s3 := (Blk.cell K_s.out 3).trans (rfl : _ = some (Value.int .i64 (S 1).2))
        have s4 := (Blk.cell K_s.out 4).trans (rfl : _ = some (Value.int .i64 (S 2).1))
        have s5 := (Blk.cell K_s.out 5).trans (rfl : _ = some (Value.int .i64 (S 2).2))
        go_wp2_with fail
        refine (H1.out _ HV.out).mono ?_
        rintro e w1 ⟨⟨u, v2, rfl, hst, hrs⟩, hb⟩
        obtain ⟨sl, rfl, hsl⟩ := hst
        obtain ⟨A2, n2, c2, rfl⟩ := hsl.shape3
        obtain ⟨B2, m2, d2, rfl⟩ := hrs.shape3
        clear s0 s1 s2 s3 s4 s5
        replace K_s := hide (Blk.below K_s.out hb (Blk.lt K_s.out))
        replace HB := hide (HB.out.trans (hb.mono HB.out.size))
        replace HV := hide (HV.out.below hb)
        clear hb
        have HY2 := hide hsl
        have HR2 := hide hrs
        clear hsl hrs
        go_upto_region 4 with (fail)
        have hbs_a : w.heap.size ≤ w1.heap.size := HB.out.size
        have lt_a_s : w.heap.size < w1.heap.size := Blk.lt K_s.out
        replace K_s := K_s.out.alloc (.cells #[.int .i64 (y.mode : Int), .int .i64 (y.run : Int), .slice A2 n2 c2, .int .i64 (y.rej : Int)] 29)
        replace HB := HB.out.alloc HB.out.size (.cells #[.int .i64 (y.mode : Int), .int .i64 (y.run : Int), .slice A2 n2 c2, .int .i64 (y.rej : Int)] 29)
        have K_a := Blk.new w1 29 #[.int .i64 (y.mode : Int), .int .i64 (y.run : Int), .slice A2 n2 c2, .int .i64 (y.rej : Int)]
        replace HV := HV.out.below ((Below.refl w1.heap.size w1).alloc (Nat.le_refl _) (.cells #[.int .i64 (y.mode : Int), .int .i64 (y.run : Int), .slice A2 n2 c2, .int .i64 (y.rej : Int)] 29))
        replace HY2 := HY2.out.below ((Below.refl w1.heap.size w1).alloc (Nat.le_refl _) (.cells #[.int .i64 (y.mode : Int), .int .i64 (y.run : Int), .slice A2 n2 c2, .int .i64 (y.rej : Int)] 29))
        replace HR2 := HR2.out.below ((Below.refl w1.heap.size w1).alloc (Nat.le_refl _) (.cells #[.int .i64 (y.mode : Int), .int .i64 (y.run : Int), .slice A2 n2 c2, .int .i64 (y.rej : Int)] 29))
        generalize w1.alloc (.cells #[.int .i64 (y.mode : Int), .int .i64 (y.run : Int), .slice A2 n2 c2, .int .i64 (y.rej : Int)] 29) = w2 at *
        replace K_s := hide K_s
        replace K_a := hide K_a
        replace HB := hide HB
        replace HV := hide HV
        replace HY2 := hide HY2
        replace HR2 := hide HR2
        have s0 := (Blk.cell K_s.out 0).trans (rfl : _ = some (Value.int .i64 (S 0).1))
        have s1 := (Blk.cell K_s.out 1).trans (rfl : _ = some (Value.int .i64 (S 0).2))
        have s2 := (Blk.cell K_s.out 2).trans (rfl : _ = some (Value.int .i64 (S 1).1))
        have s3 := (Blk.cell K_s.out 3).trans (rfl : _ = some (Value.int .i64 (S 1).2))
        have s4 := (Blk.cell K_s.out 4).trans (rfl : _ = some (Value.int .i64 (S 2).1))
        have s5 := (Blk.cell K_s.out 5).trans (rfl : _ = some (Value.int .i64 (S 2).2))
        go_wp2_with fail
        refine (HOW.out _).mono ?_
        rintro e w3 ⟨rfl, hb⟩
        clear s0 s1 s2 s3 s4 s5
        replace K_s := hide (Blk.below K_s.out hb (Blk.lt K_s.out))
        replace K_a := hide (Blk.below K_a.out hb (Blk.lt K_a.out))
        replace HB := hide (HB.out.trans (hb.mono HB.out.size))
        replace HV := hide (HV.out.below hb)
        replace HY2 := hide (HY2.out.below hb)
        replace HR2 := hide (HR2.out.below hb)
        clear hb
        go_wp2_with fail
        refine (H2.out _ HV.out).mono ?_
        rintro e w4 ⟨⟨u, v3, rfl, hst, hrs⟩, hb⟩
        obtain ⟨sl, rfl, hsl⟩ := hst
        obtain ⟨A3, n3, c3, rfl⟩ := hsl.shape3
        obtain ⟨B3, m3, d3, rfl⟩ := hrs.shape3
        replace K_s := hide (Blk.below K_s.out hb (Blk.lt K_s.out))
        replace K_a := hide (Blk.below K_a.out hb (Blk.lt K_a.out))
        replace HB := hide (HB.out.trans (hb.mono HB.out.size))
        replace HV := hide (HV.out.below hb)
        replace HY2 := hide (HY2.out.below hb)
        replace HR2 := hide (HR2.out.below hb)
        clear hb
        have HY3 := hide hsl
        have HR3 := hide hrs
        clear hsl hrs
        go_upto_region 5 with (fail)
        have hbs_b : w.heap.size ≤ w4.heap.size := HB.out.size
        have lt_b_s : w.heap.size < w4.heap.size := Blk.lt K_s.out
        have lt_b_a : w1.heap.size < w4.heap.size := Blk.lt K_a.out
        replace K_s := K_s.out.alloc (.cells #[.int .i64 (y.mode : Int), .int .i64 (y.run : Int), .slice A3 n3 c3, .int .i64 (y.rej : Int)] 34)
        replace K_a := K_a.out.alloc (.cells #[.int .i64 (y.mode : Int), .int .i64 (y.run : Int), .slice A3 n3 c3, .int .i64 (y.rej : Int)] 34)
        replace HB := HB.out.alloc HB.out.size (.cells #[.int .i64 (y.mode : Int), .int .i64 (y.run : Int), .slice A3 n3 c3, .int .i64 (y.rej : Int)] 34)
        have K_b := Blk.new w4 34 #[.int .i64 (y.mode : Int), .int .i64 (y.run : Int), .slice A3 n3 c3, .int .i64 (y.rej : Int)]
        replace HV := HV.out.below ((Below.refl w4.heap.size w4).alloc (Nat.le_refl _) (.cells #[.int .i64 (y.mode : Int), .int .i64 (y.run : Int), .slice A3 n3 c3, .int .i64 (y.rej : Int)] 34))
        replace HY2 := HY2.out.below ((Below.refl w4.heap.size w4).alloc (Nat.le_refl _) (.cells #[.int .i64 (y.mode : Int), .int .i64 (y.run : Int), .slice A3 n3 c3, .int .i64 (y.rej : Int)] 34))
        replace HR2 := HR2.out.below ((Below.refl w4.heap.size w4).alloc (Nat.le_refl _) (.cells #[.int .i64 (y.mode : Int), .int .i64 (y.run : Int), .slice A3 n3 c3, .int .i64 (y.rej : Int)] 34))
        replace HY3 := HY3.out.below ((Below.refl w4.heap.size w4).alloc (Nat.le_refl _) (.cells #[.int .i64 (y.mode : Int), .int .i64 (y.run : Int), .slice A3 n3 c3, .int .i64 (y.rej : Int)] 34))
        replace HR3 := HR3.out.below ((Below.refl w4.heap.size w4).alloc (Nat.le_refl _) (.cells #[.int .i64 (y.mode : Int), .int .i64 (y.run : Int), .slice A3 n3 c3, .int .i64 (y.rej : Int)] 34))
        generalize w4.alloc (.cells #[.int .i64 (y.mode : Int), .int .i64 (y.run : Int), .slice A3 n3 c3, .int .i64 (y.rej : Int)] 34) = w5 at *
        replace K_s := hide K_s
        replace K_a := hide K_a
        replace K_b := hide K_b
        replace HB := hide HB
        replace HV := hide HV
        replace HY2 := hide HY2
        replace HR2 := hide HR2
        replace HY3 := hide HY3
        replace HR3 := hide HR3
        have s0 := (Blk.cell K_s.out 0).trans (rfl : _ = some (Value.int .i64 (S 0).1))
        have s1 := (Blk.cell K_s.out 1).trans (rfl : _ = some (Value.int .i64 (S 0).2))
        have s2 := (Blk.cell K_s.out 2).trans (rfl : _ = some (Value.int .i64 (S 1).1))
        have s3 := (Blk.cell K_s.out 3).trans (rfl : _ = some (Value.int .i64 (S 1).2))
        have s4 := (Blk.cell K_s.out 4).trans (rfl : _ = some (Value.int .i64 (S 2).1))
        have s5 := (Blk.cell K_s.out 5).trans (rfl : _ = some (Value.int .i64 (S 2).2))
        go_wp2_with fail
        refine (H3.out _ HV.out).mono ?_
        rintro e w6 ⟨rfl, hb⟩
        clear s0 s1 s2 s3 s4 s5
        replace K_s := hide (Blk.below K_s.out hb (Blk.lt K_s.out))
        replace K_a := hide (Blk.below K_a.out hb (Blk.lt K_a.out))
        replace K_b := hide (Blk.below K_b.out hb (Blk.lt K_b.out))
        replace HB := hide (HB.out.trans (hb.mono HB.out.size))
        replace HV := hide (HV.out.below hb)
        replace HY2 := hide (HY2.out.below hb)
        replace HR2 := hide (HR2.out.below hb)
        replace HY3 := hide (HY3.out.below hb)
        replace HR3 := hide (HR3.out.below hb)
        clear hb
        have s0 := (Blk.cell K_s.out 0).trans (rfl : _ = some (Value.int .i64 (S 0).1))
        have s1 := (Blk.cell K_s.out 1).trans (rfl : _ = some (Value.int .i64 (S 0).2))
        have s2 := (Blk.cell K_s.out 2).trans (rfl : _ = some (Value.int .i64 (S 1).1))
        have s3 := (Blk.cell K_s.out 3).trans (rfl : _ = some (Value.int .i64 (S 1).2))
        have s4 := (Blk.cell K_s.out 4).trans (rfl : _ = some (Value.int .i64 (S 2).1))
        have s5 := (Blk.cell K_s.out 5).trans (rfl : _ = some (Value.int .i64 (S 2).2))
        go_wp2_with fail
        refine (HOW.out _).mono ?_
        rintro e w7 ⟨rfl, hb⟩
        clear s0 s1 s2 s3 s4 s5
        replace K_s := hide (Blk.below K_s.out hb (Blk.lt K_s.out))
        replace K_a := hide (Blk.below K_a.out hb (Blk.lt K_a.out))
        replace K_b := hide (Blk.below K_b.out hb (Blk.lt K_b.out))
        replace HB := hide (HB.out.trans (hb.mono HB.out.size))
        replace HV := hide (HV.out.below hb)
        replace HY2 := hide (HY2.out.below hb)
        replace HR2 := hide (HR2.out.below hb)
        replace HY3 := hide (HY3.out.below hb)
        replace HR3 := hide (HR3.out.below hb)
        clear hb
        go_wp2_with fail
        refine (H4.out _ HV.out).mono ?_
        rintro e w8 ⟨rfl, hb⟩
        replace K_s := hide (Blk.below K_s.out hb (Blk.lt K_s.out))
        replace K_a := hide (Blk.below K_a.out hb (Blk.lt K_a.out))
        replace K_b := hide (Blk.below K_b.out hb (Blk.lt K_b.out))
        replace HB := hide (HB.out.trans (hb.mono HB.out.size))
        replace HV := hide (HV.out.below hb)
        replace HY2 := hide (HY2.out.below hb)
        replace HR2 := hide (HR2.out.below hb)
        replace HY3 := hide (HY3.out.below hb)
        replace HR3 := hide (HR3.out.below hb)
        clear hb
        have HSY := hide (fun W => stateI_any W (y.mode : Int) (y.run : Int) (y.rej : Int) A2 n2 c2)
        have HSA := hide (fun (W : World) (h1 : SlL W (.slice A2 n2 c2) (bcl y.last)) (h2 : SlL W (.slice A3 n3 c3) (bcl y.last)) => sameY W A2 A3 n2 n3 c2 c3 y h1 h2 HYL.out)
        have HEQ := hide (fun (W : World) (h1 : SlL W (.slice B2 m2 d2) (bcl rs)) (h2 : SlL W (.slice B3 m3 d3) (bcl rs)) => eqB_any W _ _ rs h1 h2 HRL.out)
        have hii : ((at_ : Int) == (at_ : Int)) = true := beq_self_eq_true _
        have hzz : (z == z) = true := beq_self_eq_true _
        have hnn : ((n : Int) == (n : Int)) = true := beq_self_eq_true _
        have a0 := (Blk.cell K_a.out 0).trans (rfl : _ = some (Value.int .i64 (y.mode : Int)))
        have a1 := (Blk.cell K_a.out 1).trans (rfl : _ = some (Value.int .i64 (y.run : Int)))
        have a2 := (Blk.cell K_a.out 2).trans (rfl : _ = some (Value.slice A2 n2 c2))
        have a3 := (Blk.cell K_a.out 3).trans (rfl : _ = some (Value.int .i64 (y.rej : Int)))
        have b0 := (Blk.cell K_b.out 0).trans (rfl : _ = some (Value.int .i64 (y.mode : Int)))
        have b1 := (Blk.cell K_b.out 1).trans (rfl : _ = some (Value.int .i64 (y.run : Int)))
        have b2 := (Blk.cell K_b.out 2).trans (rfl : _ = some (Value.slice A3 n3 c3))
        have b3 := (Blk.cell K_b.out 3).trans (rfl : _ = some (Value.int .i64 (y.rej : Int)))
        go_upto_region 7 with (fail)
        have SK : ∀ w', Below w8.heap.size w8 w' → Below w8.heap.size w8 w' ∧ w'.cell? ⟨w1.heap.size, 0, none⟩ = some (.int .i64 (y.mode : Int)) ∧ w'.cell? ⟨w1.heap.size, 1, none⟩ = some (.int .i64 (y.run : Int)) ∧ w'.cell? ⟨w1.heap.size, 2, none⟩ = some (.slice A2 n2 c2) ∧ w'.cell? ⟨w1.heap.size, 3, none⟩ = some (.int .i64 (y.rej : Int)) ∧ w'.cell? ⟨w4.heap.size, 0, none⟩ = some (.int .i64 (y.mode : Int)) ∧ w'.cell? ⟨w4.heap.size, 1, none⟩ = some (.int .i64 (y.run : Int)) ∧ w'.cell? ⟨w4.heap.size, 2, none⟩ = some (.slice A3 n3 c3) ∧ w'.cell? ⟨w4.heap.size, 3, none⟩ = some (.int .i64 (y.rej : Int)) := fun w' h => ⟨h, (bcell h _ _ (block_lt_of_cell a0)).trans a0, (bcell h _ _ (block_lt_of_cell a1)).trans a1, (bcell h _ _ (block_lt_of_cell a2)).trans a2, (bcell h _ _ (block_lt_of_cell a3)).trans a3, (bcell h _ _ (block_lt_of_cell b0)).trans b0, (bcell h _ _ (block_lt_of_cell b1)).trans b1, (bcell h _ _ (block_lt_of_cell b2)).trans b2, (bcell h _ _ (block_lt_of_cell b3)).trans b3⟩
        have SB : ∀ w', (Below w8.heap.size w8 w' ∧ w'.cell? ⟨w1.heap.size, 0, none⟩ = some (.int .i64 (y.mode : Int)) ∧ w'.cell? ⟨w1.heap.size, 1, none⟩ = some (.int .i64 (y.run : Int)) ∧ w'.cell? ⟨w1.heap.size, 2, none⟩ = some (.slice A2 n2 c2) ∧ w'.cell? ⟨w1.heap.size, 3, none⟩ = some (.int .i64 (y.rej : Int)) ∧ w'.cell? ⟨w4.heap.size, 0, none⟩ = some (.int .i64 (y.mode : Int)) ∧ w'.cell? ⟨w4.heap.size, 1, none⟩ = some (.int .i64 (y.run : Int)) ∧ w'.cell? ⟨w4.heap.size, 2, none⟩ = some (.slice A3 n3 c3) ∧ w'.cell? ⟨w4.heap.size, 3, none⟩ = some (.int .i64 (y.rej : Int))) → Below w8.heap.size w8 w' := fun w' h => h.1
        go_region_held3 (fun w' => Below w8.heap.size w8 w' ∧ w'.cell? ⟨w1.heap.size, 0, none⟩ = some (.int .i64 (y.mode : Int)) ∧ w'.cell? ⟨w1.heap.size, 1, none⟩ = some (.int .i64 (y.run : Int)) ∧ w'.cell? ⟨w1.heap.size, 2, none⟩ = some (.slice A2 n2 c2) ∧ w'.cell? ⟨w1.heap.size, 3, none⟩ = some (.int .i64 (y.rej : Int)) ∧ w'.cell? ⟨w4.heap.size, 0, none⟩ = some (.int .i64 (y.mode : Int)) ∧ w'.cell? ⟨w4.heap.size, 1, none⟩ = some (.int .i64 (y.run : Int)) ∧ w'.cell? ⟨w4.heap.size, 2, none⟩ = some (.slice A3 n3 c3) ∧ w'.cell? ⟨w4.heap.size, 3, none⟩ = some (.int .i64 (y.rej : Int))) (first | exact SK _ (Below.refl _ _).drew | exact SK _ (Below.refl _ _) | exact SK _ (bel_next (by assumption) (by assumption) (Nat.le_refl _)))
          (first
            | (go_at_call 18; refine (HSY.out _).mono ?_; rintro e wx ⟨rfl, hbW⟩)
            | (go_at_call 24; refine (HSA.out _ (HY2.out.below (SB _ (by assumption))) (HY3.out.below (SB _ (by assumption)))).mono ?_; rintro e wx ⟨rfl, hbW⟩)
            | (go_at_call 31; refine (HEQ.out _ (HR2.out.below (SB _ (by assumption))) (HR3.out.below (SB _ (by assumption)))).mono ?_; rintro e wx ⟨rfl, hbW⟩)
            | (go_at_call 15; refine (HAW.out _ (HS.out.below (HB.out.trans ((SB _ (by assumption)).mono HB.out.size)) (Nat.le_refl _))).mono ?_; rintro e wx ⟨rfl, hbW⟩))
        obtain ⟨hbx, _⟩ : Below w8.heap.size w8 _ ∧ _ := by assumption
        have HX := hide (HB.out.trans (hbx.mono HB.out.size))
        clear hbx
        go_wp2_with fail
        go_ret
        exact ⟨rfl, HX.out⟩
  · have i1 : ¬ (200 : Int) < (N : Int) := by omega
    have i3 : ¬ (8192 : Int) < (N : Int) := by omega
    obtain ⟨y, rs, at_, z, n, hyl, hrl, h1, h2, h3, h4⟩ := run_both S (.slice A N c) L
    have H1 := hide h1
    have H2 := hide h2
    have H3 := hide h3
    have H4 := hide h4
    have HYL := hide (show y.last.length ≤ 1000000 by omega)
    have HRL := hide (show rs.length ≤ 1000000 by omega)
    have HOW := hide (fun W => own_any W S)
    clear h1 h2 h3 h4 hyl hrl
    unfold EfP at H3 H4
    unfold schV at HOW H1 H2 H3 H4 ⊢
    have HB := allocs_below w [.cells #[.int .i64 (S 0).1, .int .i64 (S 0).2, .int .i64 (S 1).1, .int .i64 (S 1).2, .int .i64 (S 2).1, .int .i64 (S 2).2] 26]
    have K_s : Blk (allocs w [.cells #[.int .i64 (S 0).1, .int .i64 (S 0).2, .int .i64 (S 1).1, .int .i64 (S 1).2, .int .i64 (S 2).1, .int .i64 (S 2).2] 26]) (w.heap.size + 0) 26 #[.int .i64 (S 0).1, .int .i64 (S 0).2, .int .i64 (S 1).1, .int .i64 (S 1).2, .int .i64 (S 2).1, .int .i64 (S 2).2] := allocs_at w [.cells #[.int .i64 (S 0).1, .int .i64 (S 0).2, .int .i64 (S 1).1, .int .i64 (S 1).2, .int .i64 (S 2).1, .int .i64 (S 2).2] 26] 0 rfl
    unfold allocs at HB K_s
    simp only [List.foldl_cons, List.foldl_nil] at HB K_s
    rw [Nat.add_zero] at K_s
    go_enter Tryz.func5, Tryz.ntmps5
    go_upto_region 1 with (fail)
    generalize (w.alloc (.cells #[.int .i64 (S 0).1, .int .i64 (S 0).2, .int .i64 (S 1).1, .int .i64 (S 1).2, .int .i64 (S 2).1, .int .i64 (S 2).2] 26)) = w0 at *
    replace K_s := hide K_s
    replace HB := hide HB
    replace HV := hide (HV.out.below HB.out)
    have s0 := (Blk.cell K_s.out 0).trans (rfl : _ = some (Value.int .i64 (S 0).1))
    have s1 := (Blk.cell K_s.out 1).trans (rfl : _ = some (Value.int .i64 (S 0).2))
    have s2 := (Blk.cell K_s.out 2).trans (rfl : _ = some (Value.int .i64 (S 1).1))
    have s3 := (Blk.cell K_s.out 3).trans (rfl : _ = some (Value.int .i64 (S 1).2))
    have s4 := (Blk.cell K_s.out 4).trans (rfl : _ = some (Value.int .i64 (S 2).1))
    have s5 := (Blk.cell K_s.out 5).trans (rfl : _ = some (Value.int .i64 (S 2).2))
    go_wp2_with fail
    refine (H1.out _ HV.out).mono ?_
    rintro e w1 ⟨⟨u, v2, rfl, hst, hrs⟩, hb⟩
    obtain ⟨sl, rfl, hsl⟩ := hst
    obtain ⟨A2, n2, c2, rfl⟩ := hsl.shape3
    obtain ⟨B2, m2, d2, rfl⟩ := hrs.shape3
    clear s0 s1 s2 s3 s4 s5
    replace K_s := hide (Blk.below K_s.out hb (Blk.lt K_s.out))
    replace HB := hide (HB.out.trans (hb.mono HB.out.size))
    replace HV := hide (HV.out.below hb)
    clear hb
    have HY2 := hide hsl
    have HR2 := hide hrs
    clear hsl hrs
    go_upto_region 4 with (fail)
    have hbs_a : w.heap.size ≤ w1.heap.size := HB.out.size
    have lt_a_s : w.heap.size < w1.heap.size := Blk.lt K_s.out
    replace K_s := K_s.out.alloc (.cells #[.int .i64 (y.mode : Int), .int .i64 (y.run : Int), .slice A2 n2 c2, .int .i64 (y.rej : Int)] 29)
    replace HB := HB.out.alloc HB.out.size (.cells #[.int .i64 (y.mode : Int), .int .i64 (y.run : Int), .slice A2 n2 c2, .int .i64 (y.rej : Int)] 29)
    have K_a := Blk.new w1 29 #[.int .i64 (y.mode : Int), .int .i64 (y.run : Int), .slice A2 n2 c2, .int .i64 (y.rej : Int)]
    replace HV := HV.out.below ((Below.refl w1.heap.size w1).alloc (Nat.le_refl _) (.cells #[.int .i64 (y.mode : Int), .int .i64 (y.run : Int), .slice A2 n2 c2, .int .i64 (y.rej : Int)] 29))
    replace HY2 := HY2.out.below ((Below.refl w1.heap.size w1).alloc (Nat.le_refl _) (.cells #[.int .i64 (y.mode : Int), .int .i64 (y.run : Int), .slice A2 n2 c2, .int .i64 (y.rej : Int)] 29))
    replace HR2 := HR2.out.below ((Below.refl w1.heap.size w1).alloc (Nat.le_refl _) (.cells #[.int .i64 (y.mode : Int), .int .i64 (y.run : Int), .slice A2 n2 c2, .int .i64 (y.rej : Int)] 29))
    generalize w1.alloc (.cells #[.int .i64 (y.mode : Int), .int .i64 (y.run : Int), .slice A2 n2 c2, .int .i64 (y.rej : Int)] 29) = w2 at *
    replace K_s := hide K_s
    replace K_a := hide K_a
    replace HB := hide HB
    replace HV := hide HV
    replace HY2 := hide HY2
    replace HR2 := hide HR2
    have s0 := (Blk.cell K_s.out 0).trans (rfl : _ = some (Value.int .i64 (S 0).1))
    have s1 := (Blk.cell K_s.out 1).trans (rfl : _ = some (Value.int .i64 (S 0).2))
    have s2 := (Blk.cell K_s.out 2).trans (rfl : _ = some (Value.int .i64 (S 1).1))
    have s3 := (Blk.cell K_s.out 3).trans (rfl : _ = some (Value.int .i64 (S 1).2))
    have s4 := (Blk.cell K_s.out 4).trans (rfl : _ = some (Value.int .i64 (S 2).1))
    have s5 := (Blk.cell K_s.out 5).trans (rfl : _ = some (Value.int .i64 (S 2).2))
    go_wp2_with fail
    refine (HOW.out _).mono ?_
    rintro e w3 ⟨rfl, hb⟩
    clear s0 s1 s2 s3 s4 s5
    replace K_s := hide (Blk.below K_s.out hb (Blk.lt K_s.out))
    replace K_a := hide (Blk.below K_a.out hb (Blk.lt K_a.out))
    replace HB := hide (HB.out.trans (hb.mono HB.out.size))
    replace HV := hide (HV.out.below hb)
    replace HY2 := hide (HY2.out.below hb)
    replace HR2 := hide (HR2.out.below hb)
    clear hb
    go_wp2_with fail
    refine (H2.out _ HV.out).mono ?_
    rintro e w4 ⟨⟨u, v3, rfl, hst, hrs⟩, hb⟩
    obtain ⟨sl, rfl, hsl⟩ := hst
    obtain ⟨A3, n3, c3, rfl⟩ := hsl.shape3
    obtain ⟨B3, m3, d3, rfl⟩ := hrs.shape3
    replace K_s := hide (Blk.below K_s.out hb (Blk.lt K_s.out))
    replace K_a := hide (Blk.below K_a.out hb (Blk.lt K_a.out))
    replace HB := hide (HB.out.trans (hb.mono HB.out.size))
    replace HV := hide (HV.out.below hb)
    replace HY2 := hide (HY2.out.below hb)
    replace HR2 := hide (HR2.out.below hb)
    clear hb
    have HY3 := hide hsl
    have HR3 := hide hrs
    clear hsl hrs
    go_upto_region 5 with (fail)
    have hbs_b : w.heap.size ≤ w4.heap.size := HB.out.size
    have lt_b_s : w.heap.size < w4.heap.size := Blk.lt K_s.out
    have lt_b_a : w1.heap.size < w4.heap.size := Blk.lt K_a.out
    replace K_s := K_s.out.alloc (.cells #[.int .i64 (y.mode : Int), .int .i64 (y.run : Int), .slice A3 n3 c3, .int .i64 (y.rej : Int)] 34)
    replace K_a := K_a.out.alloc (.cells #[.int .i64 (y.mode : Int), .int .i64 (y.run : Int), .slice A3 n3 c3, .int .i64 (y.rej : Int)] 34)
    replace HB := HB.out.alloc HB.out.size (.cells #[.int .i64 (y.mode : Int), .int .i64 (y.run : Int), .slice A3 n3 c3, .int .i64 (y.rej : Int)] 34)
    have K_b := Blk.new w4 34 #[.int .i64 (y.mode : Int), .int .i64 (y.run : Int), .slice A3 n3 c3, .int .i64 (y.rej : Int)]
    replace HV := HV.out.below ((Below.refl w4.heap.size w4).alloc (Nat.le_refl _) (.cells #[.int .i64 (y.mode : Int), .int .i64 (y.run : Int), .slice A3 n3 c3, .int .i64 (y.rej : Int)] 34))
    replace HY2 := HY2.out.below ((Below.refl w4.heap.size w4).alloc (Nat.le_refl _) (.cells #[.int .i64 (y.mode : Int), .int .i64 (y.run : Int), .slice A3 n3 c3, .int .i64 (y.rej : Int)] 34))
    replace HR2 := HR2.out.below ((Below.refl w4.heap.size w4).alloc (Nat.le_refl _) (.cells #[.int .i64 (y.mode : Int), .int .i64 (y.run : Int), .slice A3 n3 c3, .int .i64 (y.rej : Int)] 34))
    replace HY3 := HY3.out.below ((Below.refl w4.heap.size w4).alloc (Nat.le_refl _) (.cells #[.int .i64 (y.mode : Int), .int .i64 (y.run : Int), .slice A3 n3 c3, .int .i64 (y.rej : Int)] 34))
    replace HR3 := HR3.out.below ((Below.refl w4.heap.size w4).alloc (Nat.le_refl _) (.cells #[.int .i64 (y.mode : Int), .int .i64 (y.run : Int), .slice A3 n3 c3, .int .i64 (y.rej : Int)] 34))
    generalize w4.alloc (.cells #[.int .i64 (y.mode : Int), .int .i64 (y.run : Int), .slice A3 n3 c3, .int .i64 (y.rej : Int)] 34) = w5 at *
    replace K_s := hide K_s
    replace K_a := hide K_a
    replace K_b := hide K_b
    replace HB := hide HB
    replace HV := hide HV
    replace HY2 := hide HY2
    replace HR2 := hide HR2
    replace HY3 := hide HY3
    replace HR3 := hide HR3
    have s0 := (Blk.cell K_s.out 0).trans (rfl : _ = some (Value.int .i64 (S 0).1))
    have s1 := (Blk.cell K_s.out 1).trans (rfl : _ = some (Value.int .i64 (S 0).2))
    have s2 := (Blk.cell K_s.out 2).trans (rfl : _ = some (Value.int .i64 (S 1).1))
    have s3 := (Blk.cell K_s.out 3).trans (rfl : _ = some (Value.int .i64 (S 1).2))
    have s4 := (Blk.cell K_s.out 4).trans (rfl : _ = some (Value.int .i64 (S 2).1))
    have s5 := (Blk.cell K_s.out 5).trans (rfl : _ = some (Value.int .i64 (S 2).2))
    go_wp2_with fail
    refine (H3.out _ HV.out).mono ?_
    rintro e w6 ⟨rfl, hb⟩
    clear s0 s1 s2 s3 s4 s5
    replace K_s := hide (Blk.below K_s.out hb (Blk.lt K_s.out))
    replace K_a := hide (Blk.below K_a.out hb (Blk.lt K_a.out))
    replace K_b := hide (Blk.below K_b.out hb (Blk.lt K_b.out))
    replace HB := hide (HB.out.trans (hb.mono HB.out.size))
    replace HV := hide (HV.out.below hb)
    replace HY2 := hide (HY2.out.below hb)
    replace HR2 := hide (HR2.out.below hb)
    replace HY3 := hide (HY3.out.below hb)
    replace HR3 := hide (HR3.out.below hb)
    clear hb
    have s0 := (Blk.cell K_s.out 0).trans (rfl : _ = some (Value.int .i64 (S 0).1))
    have s1 := (Blk.cell K_s.out 1).trans (rfl : _ = some (Value.int .i64 (S 0).2))
    have s2 := (Blk.cell K_s.out 2).trans (rfl : _ = some (Value.int .i64 (S 1).1))
    have s3 := (Blk.cell K_s.out 3).trans (rfl : _ = some (Value.int .i64 (S 1).2))
    have s4 := (Blk.cell K_s.out 4).trans (rfl : _ = some (Value.int .i64 (S 2).1))
    have s5 := (Blk.cell K_s.out 5).trans (rfl : _ = some (Value.int .i64 (S 2).2))
    go_wp2_with fail
    refine (HOW.out _).mono ?_
    rintro e w7 ⟨rfl, hb⟩
    clear s0 s1 s2 s3 s4 s5
    replace K_s := hide (Blk.below K_s.out hb (Blk.lt K_s.out))
    replace K_a := hide (Blk.below K_a.out hb (Blk.lt K_a.out))
    replace K_b := hide (Blk.below K_b.out hb (Blk.lt K_b.out))
    replace HB := hide (HB.out.trans (hb.mono HB.out.size))
    replace HV := hide (HV.out.below hb)
    replace HY2 := hide (HY2.out.below hb)
    replace HR2 := hide (HR2.out.below hb)
    replace HY3 := hide (HY3.out.below hb)
    replace HR3 := hide (HR3.out.below hb)
    clear hb
    go_wp2_with fail
    refine (H4.out _ HV.out).mono ?_
    rintro e w8 ⟨rfl, hb⟩
    replace K_s := hide (Blk.below K_s.out hb (Blk.lt K_s.out))
    replace K_a := hide (Blk.below K_a.out hb (Blk.lt K_a.out))
    replace K_b := hide (Blk.below K_b.out hb (Blk.lt K_b.out))
    replace HB := hide (HB.out.trans (hb.mono HB.out.size))
    replace HV := hide (HV.out.below hb)
    replace HY2 := hide (HY2.out.below hb)
    replace HR2 := hide (HR2.out.below hb)
    replace HY3 := hide (HY3.out.below hb)
    replace HR3 := hide (HR3.out.below hb)
    clear hb
    have HSY := hide (fun W => stateI_any W (y.mode : Int) (y.run : Int) (y.rej : Int) A2 n2 c2)
    have HSA := hide (fun (W : World) (h1 : SlL W (.slice A2 n2 c2) (bcl y.last)) (h2 : SlL W (.slice A3 n3 c3) (bcl y.last)) => sameY W A2 A3 n2 n3 c2 c3 y h1 h2 HYL.out)
    have HEQ := hide (fun (W : World) (h1 : SlL W (.slice B2 m2 d2) (bcl rs)) (h2 : SlL W (.slice B3 m3 d3) (bcl rs)) => eqB_any W _ _ rs h1 h2 HRL.out)
    have hii : ((at_ : Int) == (at_ : Int)) = true := beq_self_eq_true _
    have hzz : (z == z) = true := beq_self_eq_true _
    have hnn : ((n : Int) == (n : Int)) = true := beq_self_eq_true _
    have a0 := (Blk.cell K_a.out 0).trans (rfl : _ = some (Value.int .i64 (y.mode : Int)))
    have a1 := (Blk.cell K_a.out 1).trans (rfl : _ = some (Value.int .i64 (y.run : Int)))
    have a2 := (Blk.cell K_a.out 2).trans (rfl : _ = some (Value.slice A2 n2 c2))
    have a3 := (Blk.cell K_a.out 3).trans (rfl : _ = some (Value.int .i64 (y.rej : Int)))
    have b0 := (Blk.cell K_b.out 0).trans (rfl : _ = some (Value.int .i64 (y.mode : Int)))
    have b1 := (Blk.cell K_b.out 1).trans (rfl : _ = some (Value.int .i64 (y.run : Int)))
    have b2 := (Blk.cell K_b.out 2).trans (rfl : _ = some (Value.slice A3 n3 c3))
    have b3 := (Blk.cell K_b.out 3).trans (rfl : _ = some (Value.int .i64 (y.rej : Int)))
    go_upto_region 7 with (fail)
    have SK : ∀ w', Below w8.heap.size w8 w' → Below w8.heap.size w8 w' ∧ w'.cell? ⟨w1.heap.size, 0, none⟩ = some (.int .i64 (y.mode : Int)) ∧ w'.cell? ⟨w1.heap.size, 1, none⟩ = some (.int .i64 (y.run : Int)) ∧ w'.cell? ⟨w1.heap.size, 2, none⟩ = some (.slice A2 n2 c2) ∧ w'.cell? ⟨w1.heap.size, 3, none⟩ = some (.int .i64 (y.rej : Int)) ∧ w'.cell? ⟨w4.heap.size, 0, none⟩ = some (.int .i64 (y.mode : Int)) ∧ w'.cell? ⟨w4.heap.size, 1, none⟩ = some (.int .i64 (y.run : Int)) ∧ w'.cell? ⟨w4.heap.size, 2, none⟩ = some (.slice A3 n3 c3) ∧ w'.cell? ⟨w4.heap.size, 3, none⟩ = some (.int .i64 (y.rej : Int)) := fun w' h => ⟨h, (bcell h _ _ (block_lt_of_cell a0)).trans a0, (bcell h _ _ (block_lt_of_cell a1)).trans a1, (bcell h _ _ (block_lt_of_cell a2)).trans a2, (bcell h _ _ (block_lt_of_cell a3)).trans a3, (bcell h _ _ (block_lt_of_cell b0)).trans b0, (bcell h _ _ (block_lt_of_cell b1)).trans b1, (bcell h _ _ (block_lt_of_cell b2)).trans b2, (bcell h _ _ (block_lt_of_cell b3)).trans b3⟩
    have SB : ∀ w', (Below w8.heap.size w8 w' ∧ w'.cell? ⟨w1.heap.size, 0, none⟩ = some (.int .i64 (y.mode : Int)) ∧ w'.cell? ⟨w1.heap.size, 1, none⟩ = some (.int .i64 (y.run : Int)) ∧ w'.cell? ⟨w1.heap.size, 2, none⟩ = some (.slice A2 n2 c2) ∧ w'.cell? ⟨w1.heap.size, 3, none⟩ = some (.int .i64 (y.rej : Int)) ∧ w'.cell? ⟨w4.heap.size, 0, none⟩ = some (.int .i64 (y.mode : Int)) ∧ w'.cell? ⟨w4.heap.size, 1, none⟩ = some (.int .i64 (y.run : Int)) ∧ w'.cell? ⟨w4.heap.size, 2, none⟩ = some (.slice A3 n3 c3) ∧ w'.cell? ⟨w4.heap.size, 3, none⟩ = some (.int .i64 (y.rej : Int))) → Below w8.heap.size w8 w' := fun w' h => h.1
    go_region_held3 (fun w' => Below w8.heap.size w8 w' ∧ w'.cell? ⟨w1.heap.size, 0, none⟩ = some (.int .i64 (y.mode : Int)) ∧ w'.cell? ⟨w1.heap.size, 1, none⟩ = some (.int .i64 (y.run : Int)) ∧ w'.cell? ⟨w1.heap.size, 2, none⟩ = some (.slice A2 n2 c2) ∧ w'.cell? ⟨w1.heap.size, 3, none⟩ = some (.int .i64 (y.rej : Int)) ∧ w'.cell? ⟨w4.heap.size, 0, none⟩ = some (.int .i64 (y.mode : Int)) ∧ w'.cell? ⟨w4.heap.size, 1, none⟩ = some (.int .i64 (y.run : Int)) ∧ w'.cell? ⟨w4.heap.size, 2, none⟩ = some (.slice A3 n3 c3) ∧ w'.cell? ⟨w4.heap.size, 3, none⟩ = some (.int .i64 (y.rej : Int))) (first | exact SK _ (Below.refl _ _).drew | exact SK _ (Below.refl _ _) | exact SK _ (bel_next (by assumption) (by assumption) (Nat.le_refl _)))
      (first
        | (go_at_call 18; refine (HSY.out _).mono ?_; rintro e wx ⟨rfl, hbW⟩)
        | (go_at_call 24; refine (HSA.out _ (HY2.out.below (SB _ (by assumption))) (HY3.out.below (SB _ (by assumption)))).mono ?_; rintro e wx ⟨rfl, hbW⟩)
        | (go_at_call 31; refine (HEQ.out _ (HR2.out.below (SB _ (by assumption))) (HR3.out.below (SB _ (by assumption)))).mono ?_; rintro e wx ⟨rfl, hbW⟩)
        | (go_at_call 15; refine (HAW.out _ (HS.out.below (HB.out.trans ((SB _ (by assumption)).mono HB.out.size)) (Nat.le_refl _))).mono ?_; rintro e wx ⟨rfl, hbW⟩))
    obtain ⟨hbx, _⟩ : Below w8.heap.size w8 _ ∧ _ := by assumption
    have HX := hide (HB.out.trans (hbx.mono HB.out.size))
    clear hbx
    go_wp2_with fail
    go_ret
    exact ⟨rfl, HX.out⟩
end Go.Proofs.YthmmgjieppknkaaGreatDoor
