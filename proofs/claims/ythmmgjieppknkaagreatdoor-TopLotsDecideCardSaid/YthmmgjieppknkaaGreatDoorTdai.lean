/- Contracts and plain laws that the statements of this seat share (part Tdai). -/
import Derived.Test.YthmmgjieppknkaaGreatDoorTdaa
import Derived.Test.YthmmgjieppknkaaGreatDoorTdab
import Derived.Test.YthmmgjieppknkaaGreatDoorTdac
import Derived.Test.YthmmgjieppknkaaGreatDoorTdad
import Derived.Test.YthmmgjieppknkaaGreatDoorTdae
import Derived.Test.YthmmgjieppknkaaGreatDoorTdaf
import Derived.Test.YthmmgjieppknkaaGreatDoorTdag
import Derived.Test.YthmmgjieppknkaaGreatDoorTdah
import Derived.Test.YthmmgjieppknkaaGreatDoorKtaa
import Derived.Test.YthmmgjieppknkaaGreatDoorKtab
import Derived.Test.YthmmgjieppknkaaGreatDoorKtac
import Derived.Test.YthmmgjieppknkaaGreatDoorKtad
import Derived.Test.YthmmgjieppknkaaGreatDoorKtag
import Derived.Test.YthmmgjieppknkaaGreatDoorKtai
import Derived.Test.YthmmgjieppknkaaGreatDoorKtak
import Derived.Test.YthmmgjieppknkaaGreatDoorKtal
import Derived.Test.YthmmgjieppknkaaGreatDoorKtam
import Derived.Test.YthmmgjieppknkaaGreatDoorKtap
import Derived.Test.YthmmgjieppknkaaGreatDoorKtas
import Derived.Test.YthmmgjieppknkaaGreatDoorKtat
import Derived.Test.YthmmgjieppknkaaGreatDoorKtau
import Derived.Test.YthmmgjieppknkaaGreatDoorKtax
import Derived.Deep.RegionWith
import Derived.Laws.OwnMore
import Derived.Deep.RegionLaw
import Derived.RegionTactic
import Derived.Laws.Tables
import Derived.Test.YthmmgjieppknkaaGreatDoorChecked
import Derived.WalkKit
import Derived.WalkSpells
import Derived.WalkLawsBesides
import Derived.Lib.Hide
import Derived.IntWalk
import Derived.BigQuiet
import Derived.Deep.QuietTactic
import Derived.Deep.LoopGhost
import Derived.Deep.DeepCutAuto
import Derived.Deep.DeepFit
import Derived.Deep.Light
import Derived.Outline
import Derived.Laws.Rows
import Derived.Laws.NewBlocks
import Derived.Laws.CopyOwn
import Derived.Lib.ItoaNum
import Derived.Lib.ItoaLen
import Derived.Lib.Atoi
import Derived.Lib.AtoiAll
import Derived.Lib.Strings
import Derived.Lib.SlTrimSet
import Derived.Lib.Builder
import Derived.Lib.AppendStr
import Derived.Laws.Externs
import Derived.WalkSmall
import Derived.Lib.AtoiErrMem
import Derived.Shelf.Strings.SlTrimAscii
import Derived.Shelf.Strings.Builder1
import Derived.Shelf.Strings.Trim
import Derived.Shelf.Small.Utf8
import Derived.Shelf.Small.Strs
import Derived.Shelf.Strings.BuilderF
import Derived.Shelf.Strings.BuilderK
import Derived.Shelf.Strconv.Atoi
import Derived.Shelf.Strconv.Itoa0
import Derived.Shelf.Strconv.Itoa1
import Derived.Shelf.LaysM
import Derived.Shelf.Strconv.Itoa2
import Derived.Shelf.Strconv.Itoa3
import Derived.Shelf.Strings.Search1
import Derived.Shelf.Strings.Search2
import Derived.Shelf.Strings.Cut
import Derived.Shelf.Strings.Shaped
import Derived.Shelf.Strings.Prefix
import Derived.Shelf.Strings.Runes
import Derived.Shelf.Strings.AsciiSet
import Derived.Shelf.Bits.Mul64
import Derived.Shelf.Unicode.DecodeSlow
import Derived.Test.YthmmgjieppknkaaGreatDoorProg
import Derived.Lib.IndexMore
import Derived.Lib.IndexBytes
import Derived.Lib.IndexLaws
import Derived.Deep.RegionHeld3
import Derived.BigRegion
import Derived.Deep.OwnRows
import Derived.Lib.LazyBuf
import Derived.Laws.BytesArg
import Derived.RangeFuncSeq
import Derived.Shelf.Abstract
import Derived.Maps.OwnOps
import Derived.Deep.RegionHeld
import Derived.RangeFuncNested
import Derived.RangeFuncBox
import Derived.RangeFuncBound
import Derived.RangeFuncCalls
import Derived.RangeFuncLeaves
import Derived.Shelf.RegionOpen
import Derived.OwnWalkIn
import Derived.TacticsInMore
import Derived.LoopNIn
import Derived.LoopIn
import Derived.DeepKeys4
import Derived.Maps.RangeWalk
import Derived.Deep.AppendLies
import Derived.Maps.AppendAt
namespace Go.Proofs.YthmmgjieppknkaaGreatDoor
open Go.RowKit Go.Maps MLab
theorem right_len {x : Sw} (h : RightS x) : x.last.length ≤ 4 := (rightI_zero h).2.2.2.2.2.2.1
end Go.Proofs.YthmmgjieppknkaaGreatDoor

namespace Go.Proofs.YthmmgjieppknkaaGreatDoor
open Go.RowKit Go.Shelf Go.Maps MLab
theorem caseB_true {S : Nat → Int × Int} (h : caseB S = true) : ∀ j, j < 3 → 1 ≤ (S j).1 ∧ (S j).1 ≤ 12 ∧ 0 ≤ (S j).2 ∧ (S j).2 < (S j).1 := by
  intro j hj
  refine Classical.byContradiction fun hn => ?_
  rw [caseB_bad hj hn] at h
  cases h
end Go.Proofs.YthmmgjieppknkaaGreatDoor

namespace Go.Proofs.YthmmgjieppknkaaGreatDoor
open Go.RowKit Go.Shelf Go.Maps MLab
theorem goC_ne {R : Nat → Nat × Nat} : ∀ {L : List Int} {i : Nat} {x : Cr} {e : Nat × Int}, goC R L i x = .inr e → e.2 ≠ 0
  | [], i, x, e, h => by rw [goC] at h; cases h
  | n :: L, i, x, e, h => by
    rw [goC_cons] at h
    cases hs : stepC R x n with
    | inl z => rw [hs] at h; exact goC_ne h
    | inr z =>
      rw [hs] at h
      cases h
      unfold stepC at hs
      split at hs
      · split at hs <;> cases hs; simp
      · split at hs
        · cases hs; simp
        · split at hs <;> cases hs; simp
theorem runG_ne {S : Nat → Int × Int} {L : List Int} {e : Nat × Int} (h : runG S L = .inr e) : e.2 ≠ 0 := by
  unfold runG at h
  split at h
  · cases h; decide
  · split at h
    · cases h; decide
    · exact goC_ne h
theorem runG_ok {S : Nat → Int × Int} {L : List Int} {c : Cr} (h : runG S L = .inl c) : ckS S = 0 ∧ L.length ≤ 4096 ∧ goC (ruN S) L 0 cr0 = .inl c ∧ RightS c.st ∧ c.res.length ≤ L.length := by
  unfold runG at h
  split at h
  · cases h
  · rename_i h0
    have h0 := Classical.not_not.1 h0
    split at h
    · cases h
    · rename_i h1
      obtain ⟨a, b, _⟩ := goC_ok (B := 1048576) (fun m => (ruN_le h0 m).1) (x := cr0) (swB_right (by omega)) h
      exact ⟨h0, by omega, h, a, by simpa [cr0] using b⟩
end Go.Proofs.YthmmgjieppknkaaGreatDoor

namespace Go.Proofs.YthmmgjieppknkaaGreatDoor
open Go.RowKit Go.Shelf Go.Maps MLab
theorem goC_res {R : Nat → Nat × Nat} : ∀ {L : List Int} {i : Nat} {x y : Cr}, goC R L i x = .inl y → ∃ t, y.res = x.res ++ t
  | [], i, x, y, h => by rw [goC] at h; cases h; exact ⟨[], by simp⟩
  | n :: L, i, x, y, h => by
    rw [goC_cons] at h
    cases hs : stepC R x n with
    | inr e => rw [hs] at h; cases h
    | inl z =>
      rw [hs] at h
      obtain ⟨t, ht⟩ := goC_res h
      have hz : ∃ t, z.res = x.res ++ t := by
        unfold stepC at hs
        split at hs
        · split at hs
          · cases hs; exact ⟨[], by simp⟩
          · cases hs
        · split at hs
          · cases hs
          · split at hs
            · cases hs
            · cases hs; exact ⟨_, rfl⟩
      obtain ⟨u, hu⟩ := hz
      exact ⟨u ++ t, by rw [ht, hu, List.append_assoc]⟩
theorem swrun_okM (w : World) (S : Nat → Int × Int) (v : Value) (L : List Int) (c : Cr) (M : Nat) (hM : c.res.length = M) (hv : SlL w v (zcl L)) (hg : runG S L = .inl c) :
    Calls Tryz.prog 27 #[schV S, v] w fun e w' => (∃ A2 n2 c2 B2 d2, e = .returned (.tuple #[.agg #[.int .i64 (c.st.mode : Int), .int .i64 (c.st.run : Int), .slice A2 n2 c2, .int .i64 (c.st.rej : Int)], .slice B2 M d2, .int .i64 0, .int .i64 0]) ∧ SlL w' (.slice A2 n2 c2) (bcl c.st.last) ∧ SlL w' (.slice B2 M d2) (bcl c.res)) ∧ Below w.heap.size w w' := by
  refine (swrun_ok w S v L c hv hg).mono ?_
  rintro e w' ⟨⟨u, rs, rfl, ⟨sl, rfl, hsl⟩, hrs⟩, hb⟩
  obtain ⟨A2, n2, c2, rfl⟩ := hsl.shape3
  obtain ⟨B2, d2, rfl⟩ := hrs.shape
  rw [bcl_len, hM] at hrs ⊢
  exact ⟨⟨A2, n2, c2, B2, d2, rfl, hsl, hrs⟩, hb⟩
set_option maxRecDepth 100000 in
set_option maxHeartbeats 16000000 in
theorem decide_any (w : World) (S : Nat → Int × Int) (v : Value) (L : List Int) (hv : SlL w v (zcl L)) (hs : Std w) :
    Calls Tryz.prog 13 #[schV S, v] w fun e w' => e = .returned (.bool true) ∧ Below w.heap.size w w' := by
  obtain ⟨A, c, rfl⟩ := hv.shape
  obtain ⟨N, hN⟩ : ∃ n, L.length = n := ⟨_, rfl⟩
  rw [zcl_len, hN] at hv ⊢
  have HV := hide hv
  have HS := hide hs
  have HN := hide hN
  have HLO := hide (fun W hS => clots_any W hS)
  have HCS := hide (fun W => casch_any W S)
  obtain ⟨cb, hcb⟩ : ∃ q, caseB S = q := ⟨_, rfl⟩
  rw [hcb] at HCS
  have HCB := hide hcb
  clear hv hs hN hcb
  cases cb with
  | false =>
    unfold schV at HCS ⊢
    have HB := allocs_below w [.cells #[.int .i64 (S 0).1, .int .i64 (S 0).2, .int .i64 (S 1).1, .int .i64 (S 1).2, .int .i64 (S 2).1, .int .i64 (S 2).2] 26]
    have K_s : Blk (allocs w [.cells #[.int .i64 (S 0).1, .int .i64 (S 0).2, .int .i64 (S 1).1, .int .i64 (S 1).2, .int .i64 (S 2).1, .int .i64 (S 2).2] 26]) (w.heap.size + 0) 26 #[.int .i64 (S 0).1, .int .i64 (S 0).2, .int .i64 (S 1).1, .int .i64 (S 1).2, .int .i64 (S 2).1, .int .i64 (S 2).2] := allocs_at w [.cells #[.int .i64 (S 0).1, .int .i64 (S 0).2, .int .i64 (S 1).1, .int .i64 (S 1).2, .int .i64 (S 2).1, .int .i64 (S 2).2] 26] 0 rfl
    unfold allocs at HB K_s
    simp only [List.foldl_cons, List.foldl_nil] at HB K_s
    rw [Nat.add_zero] at K_s
    go_enter Tryz.func13, Tryz.ntmps13
    go_upto_region 1 with (fail)
    generalize (w.alloc (.cells #[.int .i64 (S 0).1, .int .i64 (S 0).2, .int .i64 (S 1).1, .int .i64 (S 1).2, .int .i64 (S 2).1, .int .i64 (S 2).2] 26)) = w0 at *
    replace K_s := hide K_s
    replace HB := hide HB
    replace HV := hide (HV.out.below HB.out)
    have s0 := (Blk.cell K_s.out 0).trans (rfl : _ = some (Value.int .i64 (S 0).1))
    have s1 := (Blk.cell K_s.out 1).trans (rfl : _ = some (Value.int .i64 (S 0).2))
    have s2 := (Blk.cell K_s.out 2).trans (rfl : _ = some (Value.int .i64 (S 1).1))
    have s3 := (Blk.cell K_s.out 3).trans (rfl : _ = some (Value.int .i64 (S 1).2))
    have s4 := (Blk.cell K_s.out 4).trans (rfl : _ = some (Value.int .i64 (S 2).1))
    have s5 := (Blk.cell K_s.out 5).trans (rfl : _ = some (Value.int .i64 (S 2).2))
    go_wp2_with fail
    refine (HCS.out _).mono ?_
    rintro e w1 ⟨rfl, hb⟩
    clear s0 s1 s2 s3 s4 s5
    replace K_s := hide (Blk.below K_s.out hb (Blk.lt K_s.out))
    replace HB := hide (HB.out.trans (hb.mono HB.out.size))
    replace HV := hide (HV.out.below hb)
    clear hb
    go_wp2_with fail
    refine (HLO.out _ (HS.out.below HB.out (Nat.le_refl _))).mono ?_
    rintro e w2 ⟨rfl, hb⟩
    replace K_s := hide (Blk.below K_s.out hb (Blk.lt K_s.out))
    replace HB := hide (HB.out.trans (hb.mono HB.out.size))
    replace HV := hide (HV.out.below hb)
    clear hb
    go_wp2_with fail
    go_ret
    exact ⟨rfl, HB.out⟩
  | true =>
    by_cases h60 : 60 < N
    · have i1 : (60 : Int) < (N : Int) := by omega
      unfold schV at HCS ⊢
      have HB := allocs_below w [.cells #[.int .i64 (S 0).1, .int .i64 (S 0).2, .int .i64 (S 1).1, .int .i64 (S 1).2, .int .i64 (S 2).1, .int .i64 (S 2).2] 26]
      have K_s : Blk (allocs w [.cells #[.int .i64 (S 0).1, .int .i64 (S 0).2, .int .i64 (S 1).1, .int .i64 (S 1).2, .int .i64 (S 2).1, .int .i64 (S 2).2] 26]) (w.heap.size + 0) 26 #[.int .i64 (S 0).1, .int .i64 (S 0).2, .int .i64 (S 1).1, .int .i64 (S 1).2, .int .i64 (S 2).1, .int .i64 (S 2).2] := allocs_at w [.cells #[.int .i64 (S 0).1, .int .i64 (S 0).2, .int .i64 (S 1).1, .int .i64 (S 1).2, .int .i64 (S 2).1, .int .i64 (S 2).2] 26] 0 rfl
      unfold allocs at HB K_s
      simp only [List.foldl_cons, List.foldl_nil] at HB K_s
      rw [Nat.add_zero] at K_s
      go_enter Tryz.func13, Tryz.ntmps13
      go_upto_region 1 with (fail)
      generalize (w.alloc (.cells #[.int .i64 (S 0).1, .int .i64 (S 0).2, .int .i64 (S 1).1, .int .i64 (S 1).2, .int .i64 (S 2).1, .int .i64 (S 2).2] 26)) = w0 at *
      replace K_s := hide K_s
      replace HB := hide HB
      replace HV := hide (HV.out.below HB.out)
      have s0 := (Blk.cell K_s.out 0).trans (rfl : _ = some (Value.int .i64 (S 0).1))
      have s1 := (Blk.cell K_s.out 1).trans (rfl : _ = some (Value.int .i64 (S 0).2))
      have s2 := (Blk.cell K_s.out 2).trans (rfl : _ = some (Value.int .i64 (S 1).1))
      have s3 := (Blk.cell K_s.out 3).trans (rfl : _ = some (Value.int .i64 (S 1).2))
      have s4 := (Blk.cell K_s.out 4).trans (rfl : _ = some (Value.int .i64 (S 2).1))
      have s5 := (Blk.cell K_s.out 5).trans (rfl : _ = some (Value.int .i64 (S 2).2))
      go_wp2_with fail
      refine (HCS.out _).mono ?_
      rintro e w1 ⟨rfl, hb⟩
      clear s0 s1 s2 s3 s4 s5
      replace K_s := hide (Blk.below K_s.out hb (Blk.lt K_s.out))
      replace HB := hide (HB.out.trans (hb.mono HB.out.size))
      replace HV := hide (HV.out.below hb)
      clear hb
      go_wp2_with fail
      refine (HLO.out _ (HS.out.below HB.out (Nat.le_refl _))).mono ?_
      rintro e w2 ⟨rfl, hb⟩
      replace K_s := hide (Blk.below K_s.out hb (Blk.lt K_s.out))
      replace HB := hide (HB.out.trans (hb.mono HB.out.size))
      replace HV := hide (HV.out.below hb)
      clear hb
      go_wp2_with fail
      go_ret
      exact ⟨rfl, HB.out⟩
    · have i1 : ¬ (60 : Int) < (N : Int) := by omega
      cases hq : runG S L with
      | inr e0 =>
        obtain ⟨i0_, z⟩ := e0
        have hz0_ : z ≠ 0 := runG_ne hq
        have hzz1 : (z == 0) = false := by simpa using hz0_
        have hzz2 : (z != 0) = true := by simpa using hz0_
        have H0 := hide (fun (W : World) (h : SlL W (.slice A N c) (zcl L)) => swrun_err W S _ _ i0_ z h hq hz0_)
        clear hq hz0_
        unfold schV at HCS H0 ⊢
        have HB := allocs_below w [.cells #[.int .i64 (S 0).1, .int .i64 (S 0).2, .int .i64 (S 1).1, .int .i64 (S 1).2, .int .i64 (S 2).1, .int .i64 (S 2).2] 26]
        have K_s : Blk (allocs w [.cells #[.int .i64 (S 0).1, .int .i64 (S 0).2, .int .i64 (S 1).1, .int .i64 (S 1).2, .int .i64 (S 2).1, .int .i64 (S 2).2] 26]) (w.heap.size + 0) 26 #[.int .i64 (S 0).1, .int .i64 (S 0).2, .int .i64 (S 1).1, .int .i64 (S 1).2, .int .i64 (S 2).1, .int .i64 (S 2).2] := allocs_at w [.cells #[.int .i64 (S 0).1, .int .i64 (S 0).2, .int .i64 (S 1).1, .int .i64 (S 1).2, .int .i64 (S 2).1, .int .i64 (S 2).2] 26] 0 rfl
        unfold allocs at HB K_s
        simp only [List.foldl_cons, List.foldl_nil] at HB K_s
        rw [Nat.add_zero] at K_s
        go_enter Tryz.func13, Tryz.ntmps13
        go_upto_region 1 with (fail)
        generalize (w.alloc (.cells #[.int .i64 (S 0).1, .int .i64 (S 0).2, .int .i64 (S 1).1, .int .i64 (S 1).2, .int .i64 (S 2).1, .int .i64 (S 2).2] 26)) = w0 at *
        replace K_s := hide K_s
        replace HB := hide HB
        replace HV := hide (HV.out.below HB.out)
        have s0 := (Blk.cell K_s.out 0).trans (rfl : _ = some (Value.int .i64 (S 0).1))
        have s1 := (Blk.cell K_s.out 1).trans (rfl : _ = some (Value.int .i64 (S 0).2))
        have s2 := (Blk.cell K_s.out 2).trans (rfl : _ = some (Value.int .i64 (S 1).1))
        have s3 := (Blk.cell K_s.out 3).trans (rfl : _ = some (Value.int .i64 (S 1).2))
        have s4 := (Blk.cell K_s.out 4).trans (rfl : _ = some (Value.int .i64 (S 2).1))
        have s5 := (Blk.cell K_s.out 5).trans (rfl : _ = some (Value.int .i64 (S 2).2))
        go_wp2_with fail
        refine (HCS.out _).mono ?_
        rintro e w1 ⟨rfl, hb⟩
        clear s0 s1 s2 s3 s4 s5
        replace K_s := hide (Blk.below K_s.out hb (Blk.lt K_s.out))
        replace HB := hide (HB.out.trans (hb.mono HB.out.size))
        replace HV := hide (HV.out.below hb)
        clear hb
        have s0 := (Blk.cell K_s.out 0).trans (rfl : _ = some (Value.int .i64 (S 0).1))
        have s1 := (Blk.cell K_s.out 1).trans (rfl : _ = some (Value.int .i64 (S 0).2))
        have s2 := (Blk.cell K_s.out 2).trans (rfl : _ = some (Value.int .i64 (S 1).1))
        have s3 := (Blk.cell K_s.out 3).trans (rfl : _ = some (Value.int .i64 (S 1).2))
        have s4 := (Blk.cell K_s.out 4).trans (rfl : _ = some (Value.int .i64 (S 2).1))
        have s5 := (Blk.cell K_s.out 5).trans (rfl : _ = some (Value.int .i64 (S 2).2))
        go_wp2_with fail
        refine (H0.out _ HV.out).mono ?_
        rintro e w3 ⟨rfl, hb⟩
        clear s0 s1 s2 s3 s4 s5
        replace K_s := hide (Blk.below K_s.out hb (Blk.lt K_s.out))
        replace HB := hide (HB.out.trans (hb.mono HB.out.size))
        replace HV := hide (HV.out.below hb)
        clear hb
        go_upto_region 4 with (fail)
        have hbs_x : w.heap.size ≤ w3.heap.size := HB.out.size
        have lt_x_s : w.heap.size < w3.heap.size := Blk.lt K_s.out
        replace K_s := K_s.out.alloc (.cells #[.int .i64 0, .int .i64 0, .slice none 0 0, .int .i64 0] 29)
        replace HB := HB.out.alloc HB.out.size (.cells #[.int .i64 0, .int .i64 0, .slice none 0 0, .int .i64 0] 29)
        have K_x := Blk.new w3 29 #[.int .i64 0, .int .i64 0, .slice none 0 0, .int .i64 0]
        replace HV := HV.out.below ((Below.refl w3.heap.size w3).alloc (Nat.le_refl _) (.cells #[.int .i64 0, .int .i64 0, .slice none 0 0, .int .i64 0] 29))
        generalize w3.alloc (.cells #[.int .i64 0, .int .i64 0, .slice none 0 0, .int .i64 0] 29) = w4 at *
        replace K_s := hide K_s
        replace K_x := hide K_x
        replace HB := hide HB
        replace HV := hide HV
        go_wp2_with fail
        refine (HLO.out _ (HS.out.below HB.out (Nat.le_refl _))).mono ?_
        rintro e w5 ⟨rfl, hb⟩
        replace K_s := hide (Blk.below K_s.out hb (Blk.lt K_s.out))
        replace K_x := hide (Blk.below K_x.out hb (Blk.lt K_x.out))
        replace HB := hide (HB.out.trans (hb.mono HB.out.size))
        replace HV := hide (HV.out.below hb)
        clear hb
        go_wp2_with fail
        go_ret
        exact ⟨rfl, HB.out⟩
      | inl cl =>
        obtain ⟨h0, hL4, hgo, hRc, hrc⟩ := runG_ok hq
        rw [HN.out] at hL4 hrc
        obtain ⟨M, hM⟩ : ∃ M, cl.res.length = M := ⟨_, rfl⟩
        have H0 := hide (fun (W : World) (h : SlL W (.slice A N c) (zcl L)) => swrun_okM W S _ _ cl M hM h hq)
        have HM := hide hM
        have HGO := hide hgo
        have HCK0 := hide h0
        have HSB := hide (caseB_true HCB.out)
        have HN60 := hide (show N ≤ 60 by omega)
        have HM60 := hide (show M ≤ 60 by omega)
        obtain ⟨xc, hxc⟩ : ∃ y, cl.st = y := ⟨_, rfl⟩
        rw [hxc] at H0
        clear hq hgo h0 hL4 hRc hrc hM hxc
        unfold schV at HCS H0 ⊢
        have HB := allocs_below w [.cells #[.int .i64 (S 0).1, .int .i64 (S 0).2, .int .i64 (S 1).1, .int .i64 (S 1).2, .int .i64 (S 2).1, .int .i64 (S 2).2] 26]
        have K_s : Blk (allocs w [.cells #[.int .i64 (S 0).1, .int .i64 (S 0).2, .int .i64 (S 1).1, .int .i64 (S 1).2, .int .i64 (S 2).1, .int .i64 (S 2).2] 26]) (w.heap.size + 0) 26 #[.int .i64 (S 0).1, .int .i64 (S 0).2, .int .i64 (S 1).1, .int .i64 (S 1).2, .int .i64 (S 2).1, .int .i64 (S 2).2] := allocs_at w [.cells #[.int .i64 (S 0).1, .int .i64 (S 0).2, .int .i64 (S 1).1, .int .i64 (S 1).2, .int .i64 (S 2).1, .int .i64 (S 2).2] 26] 0 rfl
        unfold allocs at HB K_s
        simp only [List.foldl_cons, List.foldl_nil] at HB K_s
        rw [Nat.add_zero] at K_s
        go_enter Tryz.func13, Tryz.ntmps13
        go_upto_region 1 with (fail)
        generalize (w.alloc (.cells #[.int .i64 (S 0).1, .int .i64 (S 0).2, .int .i64 (S 1).1, .int .i64 (S 1).2, .int .i64 (S 2).1, .int .i64 (S 2).2] 26)) = w0 at *
        replace K_s := hide K_s
        replace HB := hide HB
        replace HV := hide (HV.out.below HB.out)
        have s0 := (Blk.cell K_s.out 0).trans (rfl : _ = some (Value.int .i64 (S 0).1))
        have s1 := (Blk.cell K_s.out 1).trans (rfl : _ = some (Value.int .i64 (S 0).2))
        have s2 := (Blk.cell K_s.out 2).trans (rfl : _ = some (Value.int .i64 (S 1).1))
        have s3 := (Blk.cell K_s.out 3).trans (rfl : _ = some (Value.int .i64 (S 1).2))
        have s4 := (Blk.cell K_s.out 4).trans (rfl : _ = some (Value.int .i64 (S 2).1))
        have s5 := (Blk.cell K_s.out 5).trans (rfl : _ = some (Value.int .i64 (S 2).2))
        go_wp2_with fail
        refine (HCS.out _).mono ?_
        rintro e w1 ⟨rfl, hb⟩
        clear s0 s1 s2 s3 s4 s5
        replace K_s := hide (Blk.below K_s.out hb (Blk.lt K_s.out))
        replace HB := hide (HB.out.trans (hb.mono HB.out.size))
        replace HV := hide (HV.out.below hb)
        clear hb
        have s0 := (Blk.cell K_s.out 0).trans (rfl : _ = some (Value.int .i64 (S 0).1))
        have s1 := (Blk.cell K_s.out 1).trans (rfl : _ = some (Value.int .i64 (S 0).2))
        have s2 := (Blk.cell K_s.out 2).trans (rfl : _ = some (Value.int .i64 (S 1).1))
        have s3 := (Blk.cell K_s.out 3).trans (rfl : _ = some (Value.int .i64 (S 1).2))
        have s4 := (Blk.cell K_s.out 4).trans (rfl : _ = some (Value.int .i64 (S 2).1))
        have s5 := (Blk.cell K_s.out 5).trans (rfl : _ = some (Value.int .i64 (S 2).2))
        go_wp2_with fail
        refine (H0.out _ HV.out).mono ?_
        rintro e w3 ⟨⟨A2, n2, c2, B2, d2, rfl, hsl, hrs⟩, hb⟩
        clear s0 s1 s2 s3 s4 s5
        replace K_s := hide (Blk.below K_s.out hb (Blk.lt K_s.out))
        replace HB := hide (HB.out.trans (hb.mono HB.out.size))
        replace HV := hide (HV.out.below hb)
        clear hb
        have HL2 := hide hrs
        clear hsl hrs
        go_upto_region 4 with (fail)
        have hbs_x : w.heap.size ≤ w3.heap.size := HB.out.size
        have lt_x_s : w.heap.size < w3.heap.size := Blk.lt K_s.out
        replace K_s := K_s.out.alloc (.cells #[.int .i64 (xc.mode : Int), .int .i64 (xc.run : Int), .slice A2 n2 c2, .int .i64 (xc.rej : Int)] 29)
        replace HB := HB.out.alloc HB.out.size (.cells #[.int .i64 (xc.mode : Int), .int .i64 (xc.run : Int), .slice A2 n2 c2, .int .i64 (xc.rej : Int)] 29)
        have K_x := Blk.new w3 29 #[.int .i64 (xc.mode : Int), .int .i64 (xc.run : Int), .slice A2 n2 c2, .int .i64 (xc.rej : Int)]
        replace HV := HV.out.below ((Below.refl w3.heap.size w3).alloc (Nat.le_refl _) (.cells #[.int .i64 (xc.mode : Int), .int .i64 (xc.run : Int), .slice A2 n2 c2, .int .i64 (xc.rej : Int)] 29))
        replace HL2 := HL2.out.below ((Below.refl w3.heap.size w3).alloc (Nat.le_refl _) (.cells #[.int .i64 (xc.mode : Int), .int .i64 (xc.run : Int), .slice A2 n2 c2, .int .i64 (xc.rej : Int)] 29))
        generalize w3.alloc (.cells #[.int .i64 (xc.mode : Int), .int .i64 (xc.run : Int), .slice A2 n2 c2, .int .i64 (xc.rej : Int)] 29) = w4 at *
        replace K_s := hide K_s
        replace K_x := hide K_x
        replace HB := hide HB
        replace HV := hide HV
        replace HL2 := hide HL2
        have HW := hide (Below.refl w4.heap.size w4)
        have K_s4 := K_s
        have HL4 := HL2
        have HV4 := HV
        have HB4 := HB
        go_upto_region 7 with (fail)
        have lt_b_s : w.heap.size < w4.heap.size := Blk.lt K_s.out
        have lt_b_x : w3.heap.size < w4.heap.size := Blk.lt K_x.out
        replace K_s := K_s.out.alloc (.cells #[.int .i64 0, .int .i64 0, .slice none 0 0, .int .i64 0] 29)
        replace K_x := K_x.out.alloc (.cells #[.int .i64 0, .int .i64 0, .slice none 0 0, .int .i64 0] 29)
        replace HB := HB.out.alloc HB.out.size (.cells #[.int .i64 0, .int .i64 0, .slice none 0 0, .int .i64 0] 29)
        have K_b := Blk.new w4 29 #[.int .i64 0, .int .i64 0, .slice none 0 0, .int .i64 0]
        replace HV := HV.out.below ((Below.refl w4.heap.size w4).alloc (Nat.le_refl _) (.cells #[.int .i64 0, .int .i64 0, .slice none 0 0, .int .i64 0] 29))
        replace HL2 := HL2.out.below ((Below.refl w4.heap.size w4).alloc (Nat.le_refl _) (.cells #[.int .i64 0, .int .i64 0, .slice none 0 0, .int .i64 0] 29))
        replace HW := HW.out.alloc HW.out.size (.cells #[.int .i64 0, .int .i64 0, .slice none 0 0, .int .i64 0] 29)
        generalize w4.alloc (.cells #[.int .i64 0, .int .i64 0, .slice none 0 0, .int .i64 0] 29) = w5 at *
        replace K_s := hide K_s
        replace K_x := hide K_x
        replace K_b := hide K_b
        replace HB := hide HB
        replace HV := hide HV
        replace HL2 := hide HL2
        replace HW := hide HW
        have HBS := hide (show w.heap.size ≤ w4.heap.size by have := lt_b_x; omega)
        have HLTS := hide lt_b_s
        clear lt_b_s lt_b_x
        go_wp2_with fail
        go_loopg [10, 41] N (fun z mv iv wr => ∃ (j : Nat) (x : Sw) (rs : List Bool) (ef : Nat) (A9 : Option Addr) (n9 c9 RL : Nat), mv = .int .i64 (RL : Int) ∧ iv = .int .i64 (j : Int) ∧ z + j = N ∧ rs.length = RL ∧ goC (ruN S) (L.drop j) j ⟨x, rs, ef⟩ = .inl cl ∧ RightS x ∧ RL ≤ j ∧ Blk wr w4.heap.size 29 #[.int .i64 (x.mode : Int), .int .i64 (x.run : Int), .slice A9 n9 c9, .int .i64 (x.rej : Int)] ∧ SlL wr (.slice A9 n9 c9) (bcl x.last) ∧ Below w4.heap.size w4 wr)
        case atStart => exact ⟨0, swB 0, [], 0, none, 0, 0, 0, rfl, rfl, rfl, rfl, HGO.out, swB_right (by omega), Nat.le_refl _, K_b.out, SlL.nil _, HW.out⟩
        case round =>
          clear HW K_b HV HL2 HB K_s K_x HGO
          obtain ⟨j, x, rs, ef, A9, n9, c9, RL, rfl, rfl, hq, hRL, hgc, hrx, hrl, hkb, hsl, hbw⟩ := hrel
          obtain ⟨W1, rfl⟩ : ∃ W, W = wr := ⟨_, rfl⟩
          have HQ := hide hq
          have HRLE := hide hRL
          have HGC := hide hgc
          have HRX := hide hrx
          have HRL := hide hrl
          have K_b := hide hkb
          have HSL := hide hsl
          have HW := hide hbw
          have HV := hide (HV4.out.below hbw)
          have HL2 := hide (HL4.out.below hbw)
          have K_s := hide (Blk.below K_s4.out hbw (Blk.lt K_s4.out))
          have HB := hide (HB4.out.trans (hbw.mono HB4.out.size))
          clear hq hRL hgc hrx hrl hkb hsl hbw
          by_cases hlt : j < N
          · have hji : (j : Int) < (N : Int) := by omega
            have hj0 : (0 : Int) ≤ (j : Int) := by omega
            have hcv : ∃ g o, A = some ⟨g, o, none⟩ ∧ ∀ p y, (zcl L)[p]? = some y → W1.cell? ⟨g, o + p, none⟩ = some y := by
              obtain ⟨A8, c8, h1, _, h3⟩ := HV.out
              simp only [Value.slice.injEq] at h1
              obtain ⟨rfl, hl, rfl⟩ := h1
              exact h3 (by omega)
            obtain ⟨g, og, rfl, hcell⟩ := hcv
            obtain ⟨fd, hfd⟩ : ∃ z, L[j]? = some z := ⟨_, List.getElem?_eq_getElem (by rw [HN.out]; omega)⟩
            have lc := hcell j _ (zcl_at hfd)
            have hgc := HGC.out
            rw [List.drop_eq_getElem_cons (by rw [HN.out]; omega), (List.getElem?_eq_some_iff.1 hfd).2, goC_cons] at hgc
            clear hcell hfd
            cases hstep : stepC (ruN S) ⟨x, rs, ef⟩ fd with
            | inr e1 => rw [hstep] at hgc; cases hgc
            | inl d =>
              rw [hstep] at hgc
              have HG2 := hide hgc
              clear hgc
              have hstep2 := hstep
              unfold stepC at hstep2
              by_cases hf1 : fd = -1
              · rw [if_pos hf1] at hstep2
                by_cases h3 : x.mode = 3
                · rw [if_pos h3] at hstep2
                  obtain rfl := Sum.inl.inj hstep2
                  subst hf1
                  have hfe : ((-1 : Int) == -1) = true := rfl
                  have kb : Blk W1 w4.heap.size 29 #[.int .i64 3, .int .i64 (x.run : Int), .slice A9 n9 c9, .int .i64 (x.rej : Int)] := by have h := K_b.out; rw [h3] at h; exact h
                  replace K_b := hide kb
                  have hr3 : rightI 3 (x.run : Int) x.last (x.rej : Int) = 0 := by have h : rightI (x.mode : Int) (x.run : Int) x.last (x.rej : Int) = 0 := HRX.out; rw [h3] at h; exact h
                  have HRS := hide (fun (W : World) (h : SlL W (.slice A9 n9 c9) (bcl x.last)) => swrst_ok W (x.run : Int) (x.rej : Int) _ x.last h (by have := right_len HRX.out; omega) hr3)
                  clear hstep hstep2 kb hr3 h3
                  have b0 := (Blk.cell K_b.out 0).trans (rfl : _ = some (Value.int .i64 3))
                  have b1 := (Blk.cell K_b.out 1).trans (rfl : _ = some (Value.int .i64 (x.run : Int)))
                  have b2 := (Blk.cell K_b.out 2).trans (rfl : _ = some (Value.slice A9 n9 c9))
                  have b3 := (Blk.cell K_b.out 3).trans (rfl : _ = some (Value.int .i64 (x.rej : Int)))
                  go_wp2_with fail
                  refine (HRS.out _ HSL.out).mono ?_
                  rintro e w11 ⟨rfl, hb⟩
                  clear lc
                  clear b0 b1 b2 b3
                  replace K_s := hide (Blk.below K_s.out hb (Blk.lt K_s.out))
                  replace K_b := hide (Blk.below K_b.out hb (Blk.lt K_b.out))
                  replace HB := hide (HB.out.trans (hb.mono HB.out.size))
                  replace HSL := hide (HSL.out.below hb)
                  replace HW := hide (HW.out.trans (hb.mono HW.out.size))
                  clear hb
                  have b0 := (Blk.cell K_b.out 0).trans (rfl : _ = some (Value.int .i64 3))
                  have bf0 := Blk.frozen K_b.out 0
                  have b1 := (Blk.cell K_b.out 1).trans (rfl : _ = some (Value.int .i64 (x.run : Int)))
                  have bf1 := Blk.frozen K_b.out 1
                  have b2 := (Blk.cell K_b.out 2).trans (rfl : _ = some (Value.slice A9 n9 c9))
                  have bf2 := Blk.frozen K_b.out 2
                  have b3 := (Blk.cell K_b.out 3).trans (rfl : _ = some (Value.int .i64 (x.rej : Int)))
                  have bf3 := Blk.frozen K_b.out 3
                  go_wp2_with fail
                  go_roundg (gk - 1)
                  case measure => have := HQ.out; omega
                  case rel => exact ⟨j + 1, swB 1, rs, ef, none, 0, 0, RL, rfl, by go_num, by have := HQ.out; omega, HRLE.out, HG2.out, swB_right (by omega), by have := HRL.out; omega, ((((K_b.out.set_ 0 (.int .i64 1)).set_ 1 (.int .i64 0)).set_ 2 (.slice none 0 0)).set_ 3 (.int .i64 0)), SlL.nil _, ((((HW.out.setCell (p := ⟨w4.heap.size, 0, none⟩) (Nat.le_refl _) (.int .i64 1)).setCell (p := ⟨w4.heap.size, 1, none⟩) (Nat.le_refl _) (.int .i64 0)).setCell (p := ⟨w4.heap.size, 2, none⟩) (Nat.le_refl _) (.slice none 0 0)).setCell (p := ⟨w4.heap.size, 3, none⟩) (Nat.le_refl _) (.int .i64 0))⟩
                · rw [if_neg h3] at hstep2
                  cases hstep2
              · rw [if_neg hf1] at hstep2
                have hfe : (fd == -1) = false := by simpa using hf1
                by_cases h3 : x.mode = 3
                · rw [if_pos h3] at hstep2
                  cases hstep2
                · rw [if_neg h3] at hstep2
                  by_cases hrg : fd < 0 ∨ ((ruN S x.mode).1 : Int) < fd
                  · rw [if_pos hrg] at hstep2
                    cases hstep2
                  · rw [if_neg hrg] at hstep2
                    obtain rfl := Sum.inl.inj hstep2
                    have hm3 : x.mode < 3 := by have := okP_right HRX.out; omega
                    have hra := ruN_at HCK0.out hm3
                    have hsb := HSB.out x.mode hm3
                    have hnx := fun (W : World) (h : SlL W (.slice A9 n9 c9) (bcl x.last)) => swnext_ok W S x fd (.slice A9 n9 c9) h HCK0.out HRX.out h3 (by omega) (by rw [hra.1]; omega)
                    rw [hra.2] at hnx
                    obtain ⟨ok, hok⟩ : ∃ b, decide (fd ≤ ((ruN S x.mode).2 : Int)) = b := ⟨_, rfl⟩
                    dsimp only at HG2
                    rw [hok] at hnx HG2
                    obtain ⟨u9, hu9⟩ : ∃ u, goesS x ok = u := ⟨_, rfl⟩
                    rw [hu9] at hnx HG2
                    have HRU := hide (show RightS u9 from by rw [← hu9]; exact (goesS_ok HRX.out ok).2)
                    have HNX := hide hnx
                    unfold schV at HNX
                    have hra1 : ((ruN S x.mode).1 : Int) = (S x.mode).1 := hra.1.symm
                    have hra2 : ((ruN S x.mode).2 : Int) = (S x.mode).2 := hra.2.symm
                    rw [hra1] at hrg
                    rw [hra2] at hok
                    have hde : dcE (S x.mode).1 (S x.mode).2 fd = 0 := by unfold dcE; rw [if_pos (by omega)]
                    have hdb : dcB (S x.mode).1 (S x.mode).2 fd = ok := by unfold dcB; rw [if_pos (by omega)]; exact hok
                    have hde2 := fun W => pldec_any W (S x.mode).1 (S x.mode).2 fd
                    rw [hde, hdb] at hde2
                    have HDE := hide hde2
                    have hat : ∀ (W : World), Blk W w.heap.size 26 #[.int .i64 (S 0).1, .int .i64 (S 0).2, .int .i64 (S 1).1, .int .i64 (S 1).2, .int .i64 (S 2).1, .int .i64 (S 2).2] → W.cell? ⟨w.heap.size, x.mode * 2, none⟩ = some (.int .i64 (S x.mode).1) ∧ W.cell? ⟨w.heap.size, x.mode * 2 + 1, none⟩ = some (.int .i64 (S x.mode).2) := fun W hk => by
                      rcases (by omega : x.mode = 0 ∨ x.mode = 1 ∨ x.mode = 2) with e | e | e <;> rw [e]
                      · exact ⟨(Blk.cell hk 0).trans rfl, (Blk.cell hk 1).trans rfl⟩
                      · exact ⟨(Blk.cell hk 2).trans rfl, (Blk.cell hk 3).trans rfl⟩
                      · exact ⟨(Blk.cell hk 4).trans rfl, (Blk.cell hk 5).trans rfl⟩
                    have HAT := hide hat
                    obtain ⟨rz, hrz⟩ : ∃ q, (S x.mode).1 = q := ⟨_, rfl⟩
                    obtain ⟨ra, hra9⟩ : ∃ q, (S x.mode).2 = q := ⟨_, rfl⟩
                    rw [hrz, hra9] at HDE HAT
                    have hres : ∃ t, cl.res = rs ++ [ok] ++ t := goC_res HG2.out
                    have hat9 : cl.res[RL]? = some ok := by
                      obtain ⟨t, ht⟩ := hres
                      rw [ht, List.append_assoc, List.getElem?_append_right (by rw [HRLE.out]; exact Nat.le_refl _), HRLE.out, Nat.sub_self]
                      rfl
                    have hRM : RL < M := by have := (List.getElem?_eq_some_iff.1 hat9).1; rw [HM.out] at this; exact this
                    have hcv2 : ∃ g o, B2 = some ⟨g, o, none⟩ ∧ ∀ p y, (bcl cl.res)[p]? = some y → W1.cell? ⟨g, o + p, none⟩ = some y := by
                      obtain ⟨A8, c8, h1, _, h3⟩ := HL2.out
                      simp only [Value.slice.injEq] at h1
                      obtain ⟨rfl, hl, rfl⟩ := h1
                      exact h3 (by omega)
                    obtain ⟨g2, og2, rfl, hcell2⟩ := hcv2
                    have HAT9 := hide hat9
                    have i1 : ¬ (x.mode : Int) < 0 := by omega
                    have i2 : ¬ (2 : Int) < (x.mode : Int) := by omega
                    have i3 : ¬ (M : Int) ≤ (RL : Int) := by omega
                    have i4 : (RL : Int) < (M : Int) := by omega
                    have i5 : (0 : Int) ≤ (RL : Int) := by omega
                    have i6 : (0 : Int) ≤ (x.mode : Int) := by omega
                    have i7 : (x.mode : Int) < 3 := by omega
                    have hwr : IntKind.i64.wrap ((RL : Int) + 1) = ((RL + 1 : Nat) : Int) := (IntWalk.i64_in _ (by have := HM60.out; omega)).trans (by omega)
                    clear hstep hstep2 hra hra1 hra2 hnx hok hu9 h3 hrg hm3 hf1 hsb hde hdb hde2 hat hrz hra9 hres hat9 hcell2 hRM
                    have hb1 := HAT.out _ K_s.out
                    obtain ⟨ha1, ha2⟩ := hb1
                    have b0 := (Blk.cell K_b.out 0).trans (rfl : _ = some (Value.int .i64 (x.mode : Int)))
                    have b1 := (Blk.cell K_b.out 1).trans (rfl : _ = some (Value.int .i64 (x.run : Int)))
                    have b2 := (Blk.cell K_b.out 2).trans (rfl : _ = some (Value.slice A9 n9 c9))
                    have b3 := (Blk.cell K_b.out 3).trans (rfl : _ = some (Value.int .i64 (x.rej : Int)))
                    go_upto_region 18 with (fail)
                    clear b0 b1 b2 b3
                    have hbs_r : w.heap.size ≤ W1.heap.size := HB.out.size
                    have lt_r_s : w.heap.size < W1.heap.size := Blk.lt K_s.out
                    have lt_r_b : w4.heap.size < W1.heap.size := Blk.lt K_b.out
                    replace K_s := K_s.out.alloc (.cells #[.int .i64 rz, .int .i64 ra] 23)
                    replace K_b := K_b.out.alloc (.cells #[.int .i64 rz, .int .i64 ra] 23)
                    replace HB := HB.out.alloc HB.out.size (.cells #[.int .i64 rz, .int .i64 ra] 23)
                    have K_r := Blk.new W1 23 #[.int .i64 rz, .int .i64 ra]
                    replace HSL := HSL.out.below ((Below.refl W1.heap.size W1).alloc (Nat.le_refl _) (.cells #[.int .i64 rz, .int .i64 ra] 23))
                    replace HL2 := HL2.out.below ((Below.refl W1.heap.size W1).alloc (Nat.le_refl _) (.cells #[.int .i64 rz, .int .i64 ra] 23))
                    replace HW := HW.out.alloc HW.out.size (.cells #[.int .i64 rz, .int .i64 ra] 23)
                    generalize W1.alloc (.cells #[.int .i64 rz, .int .i64 ra] 23) = w10 at *
                    replace K_s := hide K_s
                    replace K_b := hide K_b
                    replace K_r := hide K_r
                    replace HB := hide HB
                    replace HSL := hide HSL
                    replace HL2 := hide HL2
                    replace HW := hide HW
                    clear ha1 ha2
                    have r0 := (Blk.cell K_r.out 0).trans (rfl : _ = some (Value.int .i64 rz))
                    have r1 := (Blk.cell K_r.out 1).trans (rfl : _ = some (Value.int .i64 ra))
                    go_wp2_with fail
                    refine (HDE.out _).mono ?_
                    rintro e w11 ⟨rfl, hb⟩
                    clear lc
                    clear r0 r1
                    replace K_s := hide (Blk.below K_s.out hb (Blk.lt K_s.out))
                    replace K_b := hide (Blk.below K_b.out hb (Blk.lt K_b.out))
                    replace K_r := hide (Blk.below K_r.out hb (Blk.lt K_r.out))
                    replace HB := hide (HB.out.trans (hb.mono HB.out.size))
                    replace HSL := hide (HSL.out.below hb)
                    replace HL2 := hide (HL2.out.below hb)
                    replace HW := hide (HW.out.trans (hb.mono HW.out.size))
                    clear hb
                    have s0 := (Blk.cell K_s.out 0).trans (rfl : _ = some (Value.int .i64 (S 0).1))
                    have s1 := (Blk.cell K_s.out 1).trans (rfl : _ = some (Value.int .i64 (S 0).2))
                    have s2 := (Blk.cell K_s.out 2).trans (rfl : _ = some (Value.int .i64 (S 1).1))
                    have s3 := (Blk.cell K_s.out 3).trans (rfl : _ = some (Value.int .i64 (S 1).2))
                    have s4 := (Blk.cell K_s.out 4).trans (rfl : _ = some (Value.int .i64 (S 2).1))
                    have s5 := (Blk.cell K_s.out 5).trans (rfl : _ = some (Value.int .i64 (S 2).2))
                    have b0 := (Blk.cell K_b.out 0).trans (rfl : _ = some (Value.int .i64 (x.mode : Int)))
                    have b1 := (Blk.cell K_b.out 1).trans (rfl : _ = some (Value.int .i64 (x.run : Int)))
                    have b2 := (Blk.cell K_b.out 2).trans (rfl : _ = some (Value.slice A9 n9 c9))
                    have b3 := (Blk.cell K_b.out 3).trans (rfl : _ = some (Value.int .i64 (x.rej : Int)))
                    go_wp2_with fail
                    refine (HNX.out _ HSL.out).mono ?_
                    rintro e w12 ⟨u, rfl, hst, hb⟩
                    obtain ⟨sl, rfl, hsl, hfr⟩ := hst
                    obtain ⟨A5, n5, c5, rfl⟩ := hsl.shape3
                    clear s0 s1 s2 s3 s4 s5 b0 b1 b2 b3
                    replace K_s := hide (Blk.below K_s.out hb (Blk.lt K_s.out))
                    replace K_b := hide (Blk.below K_b.out hb (Blk.lt K_b.out))
                    replace K_r := hide (Blk.below K_r.out hb (Blk.lt K_r.out))
                    replace HB := hide (HB.out.trans (hb.mono HB.out.size))
                    replace HSL := hide (HSL.out.below hb)
                    replace HL2 := hide (HL2.out.below hb)
                    replace HW := hide (HW.out.trans (hb.mono HW.out.size))
                    clear hb
                    have HS5 := hide hsl
                    clear hsl hfr
                    go_upto_region 20 with (fail)
                    have hbs_t : w.heap.size ≤ w12.heap.size := HB.out.size
                    have lt_t_s : w.heap.size < w12.heap.size := Blk.lt K_s.out
                    have lt_t_b : w4.heap.size < w12.heap.size := Blk.lt K_b.out
                    have lt_t_r : W1.heap.size < w12.heap.size := Blk.lt K_r.out
                    replace K_s := K_s.out.alloc (.cells #[.int .i64 (u9.mode : Int), .int .i64 (u9.run : Int), .slice A5 n5 c5, .int .i64 (u9.rej : Int)] 29)
                    replace K_b := K_b.out.alloc (.cells #[.int .i64 (u9.mode : Int), .int .i64 (u9.run : Int), .slice A5 n5 c5, .int .i64 (u9.rej : Int)] 29)
                    replace K_r := K_r.out.alloc (.cells #[.int .i64 (u9.mode : Int), .int .i64 (u9.run : Int), .slice A5 n5 c5, .int .i64 (u9.rej : Int)] 29)
                    replace HB := HB.out.alloc HB.out.size (.cells #[.int .i64 (u9.mode : Int), .int .i64 (u9.run : Int), .slice A5 n5 c5, .int .i64 (u9.rej : Int)] 29)
                    have K_t := Blk.new w12 29 #[.int .i64 (u9.mode : Int), .int .i64 (u9.run : Int), .slice A5 n5 c5, .int .i64 (u9.rej : Int)]
                    replace HSL := HSL.out.below ((Below.refl w12.heap.size w12).alloc (Nat.le_refl _) (.cells #[.int .i64 (u9.mode : Int), .int .i64 (u9.run : Int), .slice A5 n5 c5, .int .i64 (u9.rej : Int)] 29))
                    replace HL2 := HL2.out.below ((Below.refl w12.heap.size w12).alloc (Nat.le_refl _) (.cells #[.int .i64 (u9.mode : Int), .int .i64 (u9.run : Int), .slice A5 n5 c5, .int .i64 (u9.rej : Int)] 29))
                    replace HS5 := HS5.out.below ((Below.refl w12.heap.size w12).alloc (Nat.le_refl _) (.cells #[.int .i64 (u9.mode : Int), .int .i64 (u9.run : Int), .slice A5 n5 c5, .int .i64 (u9.rej : Int)] 29))
                    replace HW := HW.out.alloc HW.out.size (.cells #[.int .i64 (u9.mode : Int), .int .i64 (u9.run : Int), .slice A5 n5 c5, .int .i64 (u9.rej : Int)] 29)
                    generalize w12.alloc (.cells #[.int .i64 (u9.mode : Int), .int .i64 (u9.run : Int), .slice A5 n5 c5, .int .i64 (u9.rej : Int)] 29) = w13 at *
                    replace K_s := hide K_s
                    replace K_b := hide K_b
                    replace K_r := hide K_r
                    replace K_t := hide K_t
                    replace HB := hide HB
                    replace HSL := hide HSL
                    replace HL2 := hide HL2
                    replace HS5 := hide HS5
                    replace HW := hide HW
                    have hrb := SlL.cell HL2.out (bcl_at HAT9.out)
                    have t0 := (Blk.cell K_t.out 0).trans (rfl : _ = some (Value.int .i64 (u9.mode : Int)))
                    have t1 := (Blk.cell K_t.out 1).trans (rfl : _ = some (Value.int .i64 (u9.run : Int)))
                    have t2 := (Blk.cell K_t.out 2).trans (rfl : _ = some (Value.slice A5 n5 c5))
                    have t3 := (Blk.cell K_t.out 3).trans (rfl : _ = some (Value.int .i64 (u9.rej : Int)))
                    have b0 := (Blk.cell K_b.out 0).trans (rfl : _ = some (Value.int .i64 (x.mode : Int)))
                    have bf0 := Blk.frozen K_b.out 0
                    have b1 := (Blk.cell K_b.out 1).trans (rfl : _ = some (Value.int .i64 (x.run : Int)))
                    have bf1 := Blk.frozen K_b.out 1
                    have b2 := (Blk.cell K_b.out 2).trans (rfl : _ = some (Value.slice A9 n9 c9))
                    have bf2 := Blk.frozen K_b.out 2
                    have b3 := (Blk.cell K_b.out 3).trans (rfl : _ = some (Value.int .i64 (x.rej : Int)))
                    have bf3 := Blk.frozen K_b.out 3
                    go_wp2_with fail
                    go_roundg (gk - 1)
                    case measure => have := HQ.out; omega
                    case rel => exact ⟨j + 1, u9, rs ++ [ok], ef + (ruN S x.mode).1, A5, n5, c5, RL + 1, by go_num, by go_num, by have := HQ.out; omega, by rw [List.length_append, HRLE.out]; rfl, HG2.out, HRU.out, by have := HRL.out; omega, ((((K_b.out.set_ 0 (.int .i64 (u9.mode : Int))).set_ 1 (.int .i64 (u9.run : Int))).set_ 2 (.slice A5 n5 c5)).set_ 3 (.int .i64 (u9.rej : Int))), (HS5.out.own K_b.out (nobool4 _ _ _ _ _ _) (only_setCell (only_setCell (only_setCell (only_setCell (only_refl _ (some (w4.heap.size))) (p := ⟨w4.heap.size, 0, none⟩) (Or.inl rfl) (.int .i64 (u9.mode : Int))) (p := ⟨w4.heap.size, 1, none⟩) (Or.inl rfl) (.int .i64 (u9.run : Int))) (p := ⟨w4.heap.size, 2, none⟩) (Or.inl rfl) (.slice A5 n5 c5)) (p := ⟨w4.heap.size, 3, none⟩) (Or.inl rfl) (.int .i64 (u9.rej : Int)))), ((((HW.out.setCell (p := ⟨w4.heap.size, 0, none⟩) (Nat.le_refl _) (.int .i64 (u9.mode : Int))).setCell (p := ⟨w4.heap.size, 1, none⟩) (Nat.le_refl _) (.int .i64 (u9.run : Int))).setCell (p := ⟨w4.heap.size, 2, none⟩) (Nat.le_refl _) (.slice A5 n5 c5)).setCell (p := ⟨w4.heap.size, 3, none⟩) (Nat.le_refl _) (.int .i64 (u9.rej : Int)))⟩
          · have hji : ¬ (j : Int) < (N : Int) := by omega
            have hjN : j = L.length := by rw [HN.out]; have := HQ.out; omega
            have hgc := HGC.out
            rw [hjN, List.drop_length] at hgc
            have hcl : (⟨x, rs, ef⟩ : Cr) = cl := Sum.inl.inj hgc
            have hRM : RL = M := by rw [← HRLE.out, ← HM.out, ← hcl]
            subst hRM
            clear hcl hgc hjN
            go_wp2_with fail
            refine (HLO.out _ (HS.out.below HB.out (Nat.le_refl _))).mono ?_
            rintro e w2 ⟨rfl, hb⟩
            replace HB := hide (HB.out.trans (hb.mono HB.out.size))
            clear hb
            go_wp2_with fail
            go_ret
            exact ⟨rfl, HB.out⟩
end Go.Proofs.YthmmgjieppknkaaGreatDoor
