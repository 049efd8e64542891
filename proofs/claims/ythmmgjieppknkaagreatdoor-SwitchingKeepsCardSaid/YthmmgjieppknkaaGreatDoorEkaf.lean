/- Contracts and plain laws that the statements of this seat share (part Ekaf). -/
import Derived.Test.YthmmgjieppknkaaGreatDoorEkaa
import Derived.Test.YthmmgjieppknkaaGreatDoorEkab
import Derived.Test.YthmmgjieppknkaaGreatDoorEkac
import Derived.Test.YthmmgjieppknkaaGreatDoorEkad
import Derived.Test.YthmmgjieppknkaaGreatDoorEkae
import Derived.Test.YthmmgjieppknkaaGreatDoorKaa
import Derived.Test.YthmmgjieppknkaaGreatDoorKab
import Derived.Test.YthmmgjieppknkaaGreatDoorKac
import Derived.Test.YthmmgjieppknkaaGreatDoorKad
import Derived.Test.YthmmgjieppknkaaGreatDoorKag
import Derived.Test.YthmmgjieppknkaaGreatDoorKai
import Derived.Test.YthmmgjieppknkaaGreatDoorKak
import Derived.Test.YthmmgjieppknkaaGreatDoorKal
import Derived.Test.YthmmgjieppknkaaGreatDoorKam
import Derived.Test.YthmmgjieppknkaaGreatDoorKap
import Derived.Test.YthmmgjieppknkaaGreatDoorKas
import Derived.Test.YthmmgjieppknkaaGreatDoorKat
import Derived.Test.YthmmgjieppknkaaGreatDoorKau
import Derived.Test.YthmmgjieppknkaaGreatDoorKax
import Derived.Deep.RegionWith
import Derived.Laws.OwnMore
import Derived.Deep.RegionLaw
import Derived.RegionTactic
import Derived.Laws.Tables
import Derived.Test.YthmmgjieppknkaaGreatDoorChecked
import Derived.WalkKit
import Derived.WalkSpells
import Derived.WalkLawsBesides
import Derived.Lib.Hide
import Derived.IntWalk
import Derived.BigQuiet
import Derived.Deep.QuietTactic
import Derived.Deep.LoopGhost
import Derived.Deep.DeepCutAuto
import Derived.Deep.DeepFit
import Derived.Deep.Light
import Derived.Outline
import Derived.Laws.Rows
import Derived.Laws.NewBlocks
import Derived.Laws.CopyOwn
import Derived.Lib.ItoaNum
import Derived.Lib.ItoaLen
import Derived.Lib.Atoi
import Derived.Lib.AtoiAll
import Derived.Lib.Strings
import Derived.Lib.SlTrimSet
import Derived.Lib.Builder
import Derived.Lib.AppendStr
import Derived.Laws.Externs
import Derived.WalkSmall
import Derived.Lib.AtoiErrMem
import Derived.Shelf.Strings.SlTrimAscii
import Derived.Shelf.Strings.Builder1
import Derived.Shelf.Strings.Trim
import Derived.Shelf.Small.Utf8
import Derived.Shelf.Small.Strs
import Derived.Shelf.Strings.BuilderF
import Derived.Shelf.Strings.BuilderK
import Derived.Shelf.Strconv.Atoi
import Derived.Shelf.Strconv.Itoa0
import Derived.Shelf.Strconv.Itoa1
import Derived.Shelf.LaysM
import Derived.Shelf.Strconv.Itoa2
import Derived.Shelf.Strconv.Itoa3
import Derived.Shelf.Strings.Search1
import Derived.Shelf.Strings.Search2
import Derived.Shelf.Strings.Cut
import Derived.Shelf.Strings.Shaped
import Derived.Shelf.Strings.Prefix
import Derived.Shelf.Strings.Runes
import Derived.Shelf.Strings.AsciiSet
import Derived.Shelf.Bits.Mul64
import Derived.Shelf.Unicode.DecodeSlow
import Derived.Test.YthmmgjieppknkaaGreatDoorProg
import Derived.Lib.IndexMore
import Derived.Lib.IndexBytes
import Derived.Lib.IndexLaws
import Derived.Deep.RegionHeld3
import Derived.BigRegion
import Derived.Deep.OwnRows
import Derived.Lib.LazyBuf
import Derived.Laws.BytesArg
import Derived.Laws.ResultCell
import Derived.ChangeKeysEq
import Derived.DeepKeys
import Derived.RangeFuncSeq
import Derived.Shelf.Abstract
import Derived.Maps.OwnOps
import Derived.Deep.RegionHeld
import Derived.RangeFuncNested
import Derived.RangeFuncBox
import Derived.RangeFuncBound
import Derived.RangeFuncCalls
import Derived.RangeFuncLeaves
import Derived.Shelf.RegionOpen
import Derived.OwnWalkIn
import Derived.TacticsInMore
import Derived.LoopNIn
import Derived.LoopIn
import Derived.DeepKeys4
import Derived.Maps.RangeWalk
import Derived.ProofKit
import Derived.Maps.AppendAt
namespace Go.Proofs.YthmmgjieppknkaaGreatDoor
open Go.RowKit Go.Maps MLab
theorem right_len {x : Sw} (h : RightS x) : x.last.length ≤ 4 := (rightI_zero h).2.2.2.2.2.2.1
end Go.Proofs.YthmmgjieppknkaaGreatDoor

namespace Go.Proofs.YthmmgjieppknkaaGreatDoor
open Go.RowKit Go.Shelf Go.Maps MLab
theorem sameY (W : World) (A A2 : Option Addr) (N N2 c c2 : Nat) (x : Sw) (hu : SlL W (.slice A N c) (bcl x.last)) (hv : SlL W (.slice A2 N2 c2) (bcl x.last)) (hl : x.last.length ≤ 1000000) :
    Calls Tryz.prog 24 #[.agg #[.int .i64 (x.mode : Int), .int .i64 (x.run : Int), .slice A N c, .int .i64 (x.rej : Int)], .agg #[.int .i64 (x.mode : Int), .int .i64 (x.run : Int), .slice A2 N2 c2, .int .i64 (x.rej : Int)]] W fun e w' => e = .returned (.bool true) ∧ Below W.heap.size W w' := by
  have h := same55D_any W A A2 N N2 c c2 x x hu hv hl
  rw [decide_eq_true rfl] at h
  exact h
end Go.Proofs.YthmmgjieppknkaaGreatDoor

namespace Go.Proofs.YthmmgjieppknkaaGreatDoor
open Go.RowKit Go.Shelf Go.Maps MLab
theorem goC_ne {R : Nat → Nat × Nat} : ∀ {L : List Int} {i : Nat} {x : Cr} {e : Nat × Int}, goC R L i x = .inr e → e.2 ≠ 0
  | [], i, x, e, h => by rw [goC] at h; cases h
  | n :: L, i, x, e, h => by
    rw [goC_cons] at h
    cases hs : stepC R x n with
    | inl z => rw [hs] at h; exact goC_ne h
    | inr z =>
      rw [hs] at h
      cases h
      unfold stepC at hs
      split at hs
      · split at hs <;> cases hs; simp
      · split at hs
        · cases hs; simp
        · split at hs <;> cases hs; simp
theorem runG_ne {S : Nat → Int × Int} {L : List Int} {e : Nat × Int} (h : runG S L = .inr e) : e.2 ≠ 0 := by
  unfold runG at h
  split at h
  · cases h; decide
  · split at h
    · cases h; decide
    · exact goC_ne h
theorem runG_ok {S : Nat → Int × Int} {L : List Int} {c : Cr} (h : runG S L = .inl c) : ckS S = 0 ∧ L.length ≤ 4096 ∧ goC (ruN S) L 0 cr0 = .inl c ∧ RightS c.st ∧ c.res.length ≤ L.length := by
  unfold runG at h
  split at h
  · cases h
  · rename_i h0
    have h0 := Classical.not_not.1 h0
    split at h
    · cases h
    · rename_i h1
      obtain ⟨a, b, _⟩ := goC_ok (B := 1048576) (fun m => (ruN_le h0 m).1) (x := cr0) (swB_right (by omega)) h
      exact ⟨h0, by omega, h, a, by simpa [cr0] using b⟩
end Go.Proofs.YthmmgjieppknkaaGreatDoor

namespace Go.Proofs.YthmmgjieppknkaaGreatDoor
open Go.RowKit Go.Shelf Go.Maps MLab
theorem SlL.take {w : World} {A : Option Addr} {len c k : Nat} {L : List Value} (h : SlL w (.slice A len c) L) (hk : k ≤ len) : SlL w (.slice A k c) (L.take k) := by
  obtain ⟨A2, c2, hv, hcap, hc⟩ := h
  simp only [Value.slice.injEq] at hv
  obtain ⟨rfl, hl, rfl⟩ := hv
  have hlt : (L.take k).length = k := by rw [List.length_take]; omega
  refine ⟨A, c, by rw [hlt], by rw [hlt]; omega, fun h0 => ?_⟩
  rw [hlt] at h0
  obtain ⟨g, o, hA, hcell⟩ := hc (by omega)
  refine ⟨g, o, hA, fun p x hp => hcell p x ?_⟩
  rw [List.getElem?_take] at hp
  split at hp
  · exact hp
  · cases hp
theorem zcl_take (L : List Int) (k : Nat) : (zcl L).take k = zcl (L.take k) := by unfold zcl; rw [List.map_take]
end Go.Proofs.YthmmgjieppknkaaGreatDoor

namespace Go.Proofs.YthmmgjieppknkaaGreatDoor
open Go.RowKit Go.Shelf Go.Maps MLab
set_option maxRecDepth 100000 in
set_option maxHeartbeats 2000000 in
theorem cloneB_any (w : World) (v : Value) (l : List Bool) (hv : SlL w v (bcl l)) (hl : l.length ≤ 1000000) :
    Calls Tryz.prog 39 #[v] w fun e w' => (∃ u, e = .returned u ∧ w'.ownsRow w.heap.size 4 1 u l.length (bcl l)) ∧ Below w.heap.size w w' := by
  have q22 : ∀ (w : World) (a : Option Addr) (n c n' c' : Nat), (binOp .eql 27 (.slice a n c) (.slice none n' c')).run Tryz.prog w = .ok (.bool a.isNone) w := fun w a n c n' c' => Lib.run_eql_slice_nil w _ _ a n c n' c' Tryz.underlying27
  obtain ⟨i0, hi, hz0, hz1, hz2⟩ := info_parts info_bool
  have HV := hide hv
  obtain ⟨A, c, rfl⟩ := hv.shape
  rw [bcl_len] at hv ⊢
  cases A with
  | none =>
    have h0 : l.length = 0 := by
      obtain ⟨A2, c2, h1, _, h3⟩ := hv
      simp only [Value.slice.injEq] at h1
      obtain ⟨rfl, _, _⟩ := h1
      rcases Nat.eq_zero_or_pos l.length with h | h
      · exact h
      · obtain ⟨g, o, h4, _⟩ := h3 (by rw [bcl_len]; exact h)
        cases h4
    have hl0 : l = [] := List.eq_nil_of_length_eq_zero h0
    subst hl0
    clear hv h0 HV hl
    go_enter Tryz.func39, Tryz.ntmps39
    go_wp2_with fail
    go_ret
    exact ⟨⟨_, rfl, World.ownsRow_nil _ _ _ _⟩, Below.refl _ _⟩
  | some a =>
    obtain ⟨N, hN⟩ : ∃ N, l.length = N := ⟨_, rfl⟩
    have HN := hide hN
    rw [hN] at hl ⊢
    have HVS := hide (show SlL w (.slice (some a) N c) (bcl l) from by rw [← hN]; exact hv)
    clear hv hN HV
    go_enter Tryz.func39, Tryz.ntmps39
    go_wp2_with (at_builtin; refine wpList_append_sl _ rfl _ _ 27 rfl w.heap.size 4 i0 (.bool false) 1 Tryz.underlying27 hi hz0 hz1 hz2 rfl _ 0 [] rfl (own_empty w _) _ (bcl l) rfl (HVS.out.below ((Below.refl _ _).alloc (Nat.le_refl _) _)) (bcl_one l) ?la1 ?la2 ?la3 ?_)
    try (case la1 => (rw [bcl_len, HN.out]; simp [maxLen]; omega))
    try (case la2 => (rw [bcl_len, HN.out]; omega))
    try (case la3 => (simp))
    intro v6 w6 ho6 hg6
    rw [bcl_len, HN.out] at ho6
    try rw [List.nil_append] at ho6
    try rw [Nat.zero_add] at ho6
    have hb6 : Below w.heap.size w w6 := ((Below.refl _ _).alloc (Nat.le_refl _) _).grown hg6 (by simp) (fun k e => ((own_empty w 4).lt k e).1)
    have HB6 := hide hb6
    have HO6 := hide ho6
    clear hg6 hb6 ho6
    go_wp2_with fail
    go_ret
    exact ⟨⟨_, rfl, HO6.out⟩, HB6.out⟩
theorem goC_at {R : Nat → Nat × Nat} {L : List Int} {cl : Cr} (h : goC R L 0 cr0 = .inl cl) (k : Nat) (hk : k ≤ L.length) : ∃ d, goC R (L.take k) 0 cr0 = .inl d ∧ goC R (L.drop k) k d = .inl cl := by
  obtain ⟨d, h1, h2⟩ := goC_prefix k h
  exact ⟨d, h1, by rwa [List.length_take, Nat.min_eq_left hk, Nat.zero_add] at h2⟩
set_option maxRecDepth 100000 in
set_option maxHeartbeats 16000000 in
theorem keeps55_any (w : World) (S : Nat → Int × Int) (v : Value) (L : List Int) (hv : SlL w v (zcl L)) (cut : Int) (hcut : 0 ≤ cut ∧ cut < 256) (hs : Std w) :
    Calls Tryz.prog 10 #[schV S, v, .int .u8 cut] w fun e w' => e = .returned (.bool true) ∧ Below w.heap.size w w' := by
  obtain ⟨i0, hi, hz0, hz1, hz2⟩ := info_parts info_bool
  obtain ⟨A, c, rfl⟩ := hv.shape
  obtain ⟨N, hN⟩ : ∃ n, L.length = n := ⟨_, rfl⟩
  rw [zcl_len, hN] at hv ⊢
  have hcap : N ≤ c := by
    obtain ⟨A2, c2, h1, h2, _⟩ := hv
    simp only [Value.slice.injEq] at h1
    rw [zcl_len, hN] at h2
    omega
  have HV := hide hv
  have HS := hide hs
  have HN := hide hN
  have HCAP := hide hcap
  have HAW := hide (fun W hS => awake55_any W hS)
  have HOW := hide (fun W => own_any W S)
  have HRK := hide (fun W => rswck_any W S)
  obtain ⟨ck, hck⟩ : ∃ q, ckS S = q := ⟨_, rfl⟩
  rw [hck] at HRK
  have HCK := hide hck
  have hw1 : IntKind.i64.wrap cut = cut := IntWalk.i64_in _ (by omega)
  clear hv hs hN hcap hck
  by_cases hc0 : ck = 0
  · subst hc0
    by_cases h80 : 80 < N
    · have i1 : (80 : Int) < (N : Int) := by omega
      unfold schV at HOW HRK ⊢
      have HB := allocs_below w [.cells #[.int .i64 (S 0).1, .int .i64 (S 0).2, .int .i64 (S 1).1, .int .i64 (S 1).2, .int .i64 (S 2).1, .int .i64 (S 2).2] 26]
      have K_s : Blk (allocs w [.cells #[.int .i64 (S 0).1, .int .i64 (S 0).2, .int .i64 (S 1).1, .int .i64 (S 1).2, .int .i64 (S 2).1, .int .i64 (S 2).2] 26]) (w.heap.size + 0) 26 #[.int .i64 (S 0).1, .int .i64 (S 0).2, .int .i64 (S 1).1, .int .i64 (S 1).2, .int .i64 (S 2).1, .int .i64 (S 2).2] := allocs_at w [.cells #[.int .i64 (S 0).1, .int .i64 (S 0).2, .int .i64 (S 1).1, .int .i64 (S 1).2, .int .i64 (S 2).1, .int .i64 (S 2).2] 26] 0 rfl
      unfold allocs at HB K_s
      simp only [List.foldl_cons, List.foldl_nil] at HB K_s
      rw [Nat.add_zero] at K_s
      go_enter Tryz.func10, Tryz.ntmps10
      go_upto_region 1 with (fail)
      generalize (w.alloc (.cells #[.int .i64 (S 0).1, .int .i64 (S 0).2, .int .i64 (S 1).1, .int .i64 (S 1).2, .int .i64 (S 2).1, .int .i64 (S 2).2] 26)) = w0 at *
      replace K_s := hide K_s
      replace HB := hide HB
      replace HV := hide (HV.out.below HB.out)
      have s0 := (Blk.cell K_s.out 0).trans (rfl : _ = some (Value.int .i64 (S 0).1))
      have s1 := (Blk.cell K_s.out 1).trans (rfl : _ = some (Value.int .i64 (S 0).2))
      have s2 := (Blk.cell K_s.out 2).trans (rfl : _ = some (Value.int .i64 (S 1).1))
      have s3 := (Blk.cell K_s.out 3).trans (rfl : _ = some (Value.int .i64 (S 1).2))
      have s4 := (Blk.cell K_s.out 4).trans (rfl : _ = some (Value.int .i64 (S 2).1))
      have s5 := (Blk.cell K_s.out 5).trans (rfl : _ = some (Value.int .i64 (S 2).2))
      go_wp2_with fail
      refine (HOW.out _).mono ?_
      rintro e w1 ⟨rfl, hb⟩
      clear s0 s1 s2 s3 s4 s5
      replace K_s := hide (Blk.below K_s.out hb (Blk.lt K_s.out))
      replace HB := hide (HB.out.trans (hb.mono HB.out.size))
      replace HV := hide (HV.out.below hb)
      clear hb
      go_wp2_with fail
      refine (HRK.out _).mono ?_
      rintro e w2 ⟨rfl, hb⟩
      replace K_s := hide (Blk.below K_s.out hb (Blk.lt K_s.out))
      replace HB := hide (HB.out.trans (hb.mono HB.out.size))
      replace HV := hide (HV.out.below hb)
      clear hb
      go_wp2_with fail
      refine (HAW.out _ (HS.out.below HB.out (Nat.le_refl _))).mono ?_
      rintro e w3 ⟨rfl, hb⟩
      replace K_s := hide (Blk.below K_s.out hb (Blk.lt K_s.out))
      replace HB := hide (HB.out.trans (hb.mono HB.out.size))
      replace HV := hide (HV.out.below hb)
      clear hb
      go_wp2_with fail
      go_ret
      exact ⟨rfl, HB.out⟩
    · have i1 : ¬ (80 : Int) < (N : Int) := by omega
      cases hq : runG S L with
      | inr e0 =>
        obtain ⟨i0_, z⟩ := e0
        have hz0_ : z ≠ 0 := runG_ne hq
        have hzz1 : (z == 0) = false := by simpa using hz0_
        have hzz2 : (z != 0) = true := by simpa using hz0_
        have H0 := hide (fun (W : World) (h : SlL W (.slice A N c) (zcl L)) => swrun_err W S _ _ i0_ z h hq hz0_)
        clear hq hz0_
        unfold schV at HOW HRK H0 ⊢
        have HB := allocs_below w [.cells #[.int .i64 (S 0).1, .int .i64 (S 0).2, .int .i64 (S 1).1, .int .i64 (S 1).2, .int .i64 (S 2).1, .int .i64 (S 2).2] 26]
        have K_s : Blk (allocs w [.cells #[.int .i64 (S 0).1, .int .i64 (S 0).2, .int .i64 (S 1).1, .int .i64 (S 1).2, .int .i64 (S 2).1, .int .i64 (S 2).2] 26]) (w.heap.size + 0) 26 #[.int .i64 (S 0).1, .int .i64 (S 0).2, .int .i64 (S 1).1, .int .i64 (S 1).2, .int .i64 (S 2).1, .int .i64 (S 2).2] := allocs_at w [.cells #[.int .i64 (S 0).1, .int .i64 (S 0).2, .int .i64 (S 1).1, .int .i64 (S 1).2, .int .i64 (S 2).1, .int .i64 (S 2).2] 26] 0 rfl
        unfold allocs at HB K_s
        simp only [List.foldl_cons, List.foldl_nil] at HB K_s
        rw [Nat.add_zero] at K_s
        go_enter Tryz.func10, Tryz.ntmps10
        go_upto_region 1 with (fail)
        generalize (w.alloc (.cells #[.int .i64 (S 0).1, .int .i64 (S 0).2, .int .i64 (S 1).1, .int .i64 (S 1).2, .int .i64 (S 2).1, .int .i64 (S 2).2] 26)) = w0 at *
        replace K_s := hide K_s
        replace HB := hide HB
        replace HV := hide (HV.out.below HB.out)
        have s0 := (Blk.cell K_s.out 0).trans (rfl : _ = some (Value.int .i64 (S 0).1))
        have s1 := (Blk.cell K_s.out 1).trans (rfl : _ = some (Value.int .i64 (S 0).2))
        have s2 := (Blk.cell K_s.out 2).trans (rfl : _ = some (Value.int .i64 (S 1).1))
        have s3 := (Blk.cell K_s.out 3).trans (rfl : _ = some (Value.int .i64 (S 1).2))
        have s4 := (Blk.cell K_s.out 4).trans (rfl : _ = some (Value.int .i64 (S 2).1))
        have s5 := (Blk.cell K_s.out 5).trans (rfl : _ = some (Value.int .i64 (S 2).2))
        go_wp2_with fail
        refine (HOW.out _).mono ?_
        rintro e w1 ⟨rfl, hb⟩
        clear s0 s1 s2 s3 s4 s5
        replace K_s := hide (Blk.below K_s.out hb (Blk.lt K_s.out))
        replace HB := hide (HB.out.trans (hb.mono HB.out.size))
        replace HV := hide (HV.out.below hb)
        clear hb
        go_wp2_with fail
        refine (HRK.out _).mono ?_
        rintro e w2 ⟨rfl, hb⟩
        replace K_s := hide (Blk.below K_s.out hb (Blk.lt K_s.out))
        replace HB := hide (HB.out.trans (hb.mono HB.out.size))
        replace HV := hide (HV.out.below hb)
        clear hb
        have s0 := (Blk.cell K_s.out 0).trans (rfl : _ = some (Value.int .i64 (S 0).1))
        have s1 := (Blk.cell K_s.out 1).trans (rfl : _ = some (Value.int .i64 (S 0).2))
        have s2 := (Blk.cell K_s.out 2).trans (rfl : _ = some (Value.int .i64 (S 1).1))
        have s3 := (Blk.cell K_s.out 3).trans (rfl : _ = some (Value.int .i64 (S 1).2))
        have s4 := (Blk.cell K_s.out 4).trans (rfl : _ = some (Value.int .i64 (S 2).1))
        have s5 := (Blk.cell K_s.out 5).trans (rfl : _ = some (Value.int .i64 (S 2).2))
        go_wp2_with fail
        refine (H0.out _ HV.out).mono ?_
        rintro e w3 ⟨rfl, hb⟩
        clear s0 s1 s2 s3 s4 s5
        replace K_s := hide (Blk.below K_s.out hb (Blk.lt K_s.out))
        replace HB := hide (HB.out.trans (hb.mono HB.out.size))
        replace HV := hide (HV.out.below hb)
        clear hb
        go_upto_region 4 with (fail)
        have hbs_x : w.heap.size ≤ w3.heap.size := HB.out.size
        have lt_x_s : w.heap.size < w3.heap.size := Blk.lt K_s.out
        replace K_s := K_s.out.alloc (.cells #[.int .i64 0, .int .i64 0, .slice none 0 0, .int .i64 0] 29)
        replace HB := HB.out.alloc HB.out.size (.cells #[.int .i64 0, .int .i64 0, .slice none 0 0, .int .i64 0] 29)
        have K_x := Blk.new w3 29 #[.int .i64 0, .int .i64 0, .slice none 0 0, .int .i64 0]
        replace HV := HV.out.below ((Below.refl w3.heap.size w3).alloc (Nat.le_refl _) (.cells #[.int .i64 0, .int .i64 0, .slice none 0 0, .int .i64 0] 29))
        generalize w3.alloc (.cells #[.int .i64 0, .int .i64 0, .slice none 0 0, .int .i64 0] 29) = w4 at *
        replace K_s := hide K_s
        replace K_x := hide K_x
        replace HB := hide HB
        replace HV := hide HV
        go_wp2_with fail
        refine (HAW.out _ (HS.out.below HB.out (Nat.le_refl _))).mono ?_
        rintro e w5 ⟨rfl, hb⟩
        replace K_s := hide (Blk.below K_s.out hb (Blk.lt K_s.out))
        replace K_x := hide (Blk.below K_x.out hb (Blk.lt K_x.out))
        replace HB := hide (HB.out.trans (hb.mono HB.out.size))
        replace HV := hide (HV.out.below hb)
        clear hb
        go_wp2_with fail
        go_ret
        exact ⟨rfl, HB.out⟩
      | inl cl =>
        obtain ⟨h0, hL4, hgo, hRc, hrc⟩ := runG_ok hq
        rw [HN.out] at hL4 hrc
        have hNp : IntKind.i64.wrap ((N : Int) + 1) = ((N + 1 : Nat) : Int) := (IntWalk.i64_in _ (by omega)).trans (by omega)
        obtain ⟨N1, hN1⟩ : ∃ N1, N + 1 = N1 := ⟨_, rfl⟩
        rw [hN1] at hNp
        have hN1z : ((N1 : Int) == 0) = false := by rw [beq_eq_false_iff_ne]; omega
        have hN1f : (N1 = 0) = False := eq_false (by omega)
        have hN1n : ¬ (N1 : Int) = 0 := by omega
        obtain ⟨k, hk⟩ : ∃ k : Nat, cut.tmod (N1 : Int) = (k : Int) := ⟨(cut.tmod (N1 : Int)).toNat, by have := Int.tmod_nonneg (a := cut) (N1 : Int) hcut.1; omega⟩
        have hkN : k ≤ N := by have := Int.tmod_lt_of_pos cut (show (0 : Int) < (N1 : Int) by omega); omega
        have HN1 := hide hN1
        have HN1n := hide hN1n
        clear hN1 hcut hN1n
        obtain ⟨z0, hg0, hg1⟩ := goC_at hgo k (by rw [HN.out]; exact hkN)
        have hrun0 : runG S (L.take k) = .inl z0 := by unfold runG; rw [if_neg (by simp [h0]), if_neg (by rw [List.length_take]; omega)]; exact hg0
        obtain ⟨-, -, -, hRz, hrz⟩ := runG_ok hrun0
        rw [List.length_take, HN.out] at hrz
        have H0 := hide (fun (W : World) (h : SlL W (.slice A N c) (zcl L)) => swrun_ok W S _ _ cl h hq)
        have H1 := hide (fun (W : World) (h : SlL W (.slice A k c) (zcl (L.take k))) => swrun_ok W S _ _ z0 h hrun0)
        have hV0 := (HV.out.take (k := k) hkN)
        rw [zcl_take] at hV0
        have HV0 := hide hV0
        have HGO := hide hgo
        have HG1 := hide hg1
        have HRC := hide hRc
        have HRZ := hide hRz
        have HCK0 := hide h0
        have hk0 : (0 : Int) ≤ (k : Int) := by omega
        have hkNi : (k : Int) ≤ (N : Int) := by omega
        have hkc : (k : Int) ≤ (c : Int) := by have := HCAP.out; omega
        have HKN := hide hkN
        have HRZ3 := hide (show z0.res.length ≤ k by omega)
        have HRC2 := hide (show cl.res.length ≤ 1000000 by omega)
        have HRZ2 := hide (show z0.res.length ≤ 1000000 by omega)
        have HG0 := hide hg0
        have hN80 : N ≤ 80 := by omega
        have HN80 := hide hN80
        obtain ⟨y, hy⟩ : ∃ y, z0.st = y := ⟨_, rfl⟩
        obtain ⟨rs0, hrs0⟩ : ∃ y, z0.res = y := ⟨_, rfl⟩
        rw [hy, hrs0] at H1
        have HZY := hide hy
        have HZR := hide hrs0
        obtain ⟨xc, hxc⟩ : ∃ y, cl.st = y := ⟨_, rfl⟩
        obtain ⟨rsc, hrsc⟩ : ∃ y, cl.res = y := ⟨_, rfl⟩
        rw [hxc, hrsc] at H0
        have HXC := hide hxc
        have HRSC := hide hrsc
        clear hq hgo hg0 hg1 hrun0 hRc hRz h0 hL4 hrc hrz hV0 hkN hy hrs0 hxc hrsc h80
        unfold schV at HOW HRK H0 H1 ⊢
        have HB := allocs_below w [.cells #[.int .i64 (S 0).1, .int .i64 (S 0).2, .int .i64 (S 1).1, .int .i64 (S 1).2, .int .i64 (S 2).1, .int .i64 (S 2).2] 26]
        have K_s : Blk (allocs w [.cells #[.int .i64 (S 0).1, .int .i64 (S 0).2, .int .i64 (S 1).1, .int .i64 (S 1).2, .int .i64 (S 2).1, .int .i64 (S 2).2] 26]) (w.heap.size + 0) 26 #[.int .i64 (S 0).1, .int .i64 (S 0).2, .int .i64 (S 1).1, .int .i64 (S 1).2, .int .i64 (S 2).1, .int .i64 (S 2).2] := allocs_at w [.cells #[.int .i64 (S 0).1, .int .i64 (S 0).2, .int .i64 (S 1).1, .int .i64 (S 1).2, .int .i64 (S 2).1, .int .i64 (S 2).2] 26] 0 rfl
        unfold allocs at HB K_s
        simp only [List.foldl_cons, List.foldl_nil] at HB K_s
        rw [Nat.add_zero] at K_s
        go_enter Tryz.func10, Tryz.ntmps10
        go_upto_region 1 with (fail)
        generalize (w.alloc (.cells #[.int .i64 (S 0).1, .int .i64 (S 0).2, .int .i64 (S 1).1, .int .i64 (S 1).2, .int .i64 (S 2).1, .int .i64 (S 2).2] 26)) = w0 at *
        replace K_s := hide K_s
        replace HB := hide HB
        replace HV := hide (HV.out.below HB.out)
        replace HV0 := hide (HV0.out.below HB.out)
        have s0 := (Blk.cell K_s.out 0).trans (rfl : _ = some (Value.int .i64 (S 0).1))
        have s1 := (Blk.cell K_s.out 1).trans (rfl : _ = some (Value.int .i64 (S 0).2))
        have s2 := (Blk.cell K_s.out 2).trans (rfl : _ = some (Value.int .i64 (S 1).1))
        have s3 := (Blk.cell K_s.out 3).trans (rfl : _ = some (Value.int .i64 (S 1).2))
        have s4 := (Blk.cell K_s.out 4).trans (rfl : _ = some (Value.int .i64 (S 2).1))
        have s5 := (Blk.cell K_s.out 5).trans (rfl : _ = some (Value.int .i64 (S 2).2))
        go_wp2_with fail
        refine (HOW.out _).mono ?_
        rintro e w1 ⟨rfl, hb⟩
        clear s0 s1 s2 s3 s4 s5
        replace K_s := hide (Blk.below K_s.out hb (Blk.lt K_s.out))
        replace HB := hide (HB.out.trans (hb.mono HB.out.size))
        replace HV := hide (HV.out.below hb)
        replace HV0 := hide (HV0.out.below hb)
        clear hb
        go_wp2_with fail
        refine (HRK.out _).mono ?_
        rintro e w2 ⟨rfl, hb⟩
        replace K_s := hide (Blk.below K_s.out hb (Blk.lt K_s.out))
        replace HB := hide (HB.out.trans (hb.mono HB.out.size))
        replace HV := hide (HV.out.below hb)
        replace HV0 := hide (HV0.out.below hb)
        clear hb
        have s0 := (Blk.cell K_s.out 0).trans (rfl : _ = some (Value.int .i64 (S 0).1))
        have s1 := (Blk.cell K_s.out 1).trans (rfl : _ = some (Value.int .i64 (S 0).2))
        have s2 := (Blk.cell K_s.out 2).trans (rfl : _ = some (Value.int .i64 (S 1).1))
        have s3 := (Blk.cell K_s.out 3).trans (rfl : _ = some (Value.int .i64 (S 1).2))
        have s4 := (Blk.cell K_s.out 4).trans (rfl : _ = some (Value.int .i64 (S 2).1))
        have s5 := (Blk.cell K_s.out 5).trans (rfl : _ = some (Value.int .i64 (S 2).2))
        go_wp2_with fail
        refine (H0.out _ HV.out).mono ?_
        rintro e w3 ⟨⟨u, v8, rfl, hst, hrs⟩, hb⟩
        obtain ⟨sl, rfl, hsl⟩ := hst
        obtain ⟨A2, n2, c2, rfl⟩ := hsl.shape3
        obtain ⟨B2, m2, d2, rfl⟩ := hrs.shape3
        clear s0 s1 s2 s3 s4 s5
        replace K_s := hide (Blk.below K_s.out hb (Blk.lt K_s.out))
        replace HB := hide (HB.out.trans (hb.mono HB.out.size))
        replace HV := hide (HV.out.below hb)
        replace HV0 := hide (HV0.out.below hb)
        clear hb
        have HX2 := hide hsl
        have HL2 := hide hrs
        clear hsl hrs
        go_upto_region 4 with (fail)
        have hbs_x : w.heap.size ≤ w3.heap.size := HB.out.size
        have lt_x_s : w.heap.size < w3.heap.size := Blk.lt K_s.out
        replace K_s := K_s.out.alloc (.cells #[.int .i64 (xc.mode : Int), .int .i64 (xc.run : Int), .slice A2 n2 c2, .int .i64 (xc.rej : Int)] 29)
        replace HB := HB.out.alloc HB.out.size (.cells #[.int .i64 (xc.mode : Int), .int .i64 (xc.run : Int), .slice A2 n2 c2, .int .i64 (xc.rej : Int)] 29)
        have K_x := Blk.new w3 29 #[.int .i64 (xc.mode : Int), .int .i64 (xc.run : Int), .slice A2 n2 c2, .int .i64 (xc.rej : Int)]
        replace HV := HV.out.below ((Below.refl w3.heap.size w3).alloc (Nat.le_refl _) (.cells #[.int .i64 (xc.mode : Int), .int .i64 (xc.run : Int), .slice A2 n2 c2, .int .i64 (xc.rej : Int)] 29))
        replace HV0 := HV0.out.below ((Below.refl w3.heap.size w3).alloc (Nat.le_refl _) (.cells #[.int .i64 (xc.mode : Int), .int .i64 (xc.run : Int), .slice A2 n2 c2, .int .i64 (xc.rej : Int)] 29))
        replace HX2 := HX2.out.below ((Below.refl w3.heap.size w3).alloc (Nat.le_refl _) (.cells #[.int .i64 (xc.mode : Int), .int .i64 (xc.run : Int), .slice A2 n2 c2, .int .i64 (xc.rej : Int)] 29))
        replace HL2 := HL2.out.below ((Below.refl w3.heap.size w3).alloc (Nat.le_refl _) (.cells #[.int .i64 (xc.mode : Int), .int .i64 (xc.run : Int), .slice A2 n2 c2, .int .i64 (xc.rej : Int)] 29))
        generalize w3.alloc (.cells #[.int .i64 (xc.mode : Int), .int .i64 (xc.run : Int), .slice A2 n2 c2, .int .i64 (xc.rej : Int)] 29) = w4 at *
        replace K_s := hide K_s
        replace K_x := hide K_x
        replace HB := hide HB
        replace HV := hide HV
        replace HV0 := hide HV0
        replace HX2 := hide HX2
        replace HL2 := hide HL2
        have s0 := (Blk.cell K_s.out 0).trans (rfl : _ = some (Value.int .i64 (S 0).1))
        have s1 := (Blk.cell K_s.out 1).trans (rfl : _ = some (Value.int .i64 (S 0).2))
        have s2 := (Blk.cell K_s.out 2).trans (rfl : _ = some (Value.int .i64 (S 1).1))
        have s3 := (Blk.cell K_s.out 3).trans (rfl : _ = some (Value.int .i64 (S 1).2))
        have s4 := (Blk.cell K_s.out 4).trans (rfl : _ = some (Value.int .i64 (S 2).1))
        have s5 := (Blk.cell K_s.out 5).trans (rfl : _ = some (Value.int .i64 (S 2).2))
        go_upto_region 7 with (fail)
        go_cut [12, 13, 15] (fun v1 v2 v4 wc => ∃ (b1 : Nat) (A3 : Option Addr) (n3 c3 : Nat), v1 = .pointer (some ⟨b1, 0, none⟩) ∧ v4 = .int .i64 0 ∧ Blk wc b1 29 #[.int .i64 (y.mode : Int), .int .i64 (y.run : Int), .slice A3 n3 c3, .int .i64 (y.rej : Int)] ∧ SlL wc (.slice A3 n3 c3) (bcl y.last) ∧ SlL wc v2 (bcl rs0) ∧ w4.heap.size ≤ b1 ∧ Below w4.heap.size w4 wc)
        case first =>
          have SK : ∀ w', Below w4.heap.size w4 w' → Below w4.heap.size w4 w' ∧ w'.cell? ⟨w.heap.size, 0, none⟩ = some (.int .i64 (S 0).1) ∧ w'.cell? ⟨w.heap.size, 1, none⟩ = some (.int .i64 (S 0).2) ∧ w'.cell? ⟨w.heap.size, 2, none⟩ = some (.int .i64 (S 1).1) ∧ w'.cell? ⟨w.heap.size, 3, none⟩ = some (.int .i64 (S 1).2) ∧ w'.cell? ⟨w.heap.size, 4, none⟩ = some (.int .i64 (S 2).1) ∧ w'.cell? ⟨w.heap.size, 5, none⟩ = some (.int .i64 (S 2).2) := fun w' h => ⟨h, (bcell h _ _ (block_lt_of_cell s0)).trans s0, (bcell h _ _ (block_lt_of_cell s1)).trans s1, (bcell h _ _ (block_lt_of_cell s2)).trans s2, (bcell h _ _ (block_lt_of_cell s3)).trans s3, (bcell h _ _ (block_lt_of_cell s4)).trans s4, (bcell h _ _ (block_lt_of_cell s5)).trans s5⟩
          have SB : ∀ w', (Below w4.heap.size w4 w' ∧ w'.cell? ⟨w.heap.size, 0, none⟩ = some (.int .i64 (S 0).1) ∧ w'.cell? ⟨w.heap.size, 1, none⟩ = some (.int .i64 (S 0).2) ∧ w'.cell? ⟨w.heap.size, 2, none⟩ = some (.int .i64 (S 1).1) ∧ w'.cell? ⟨w.heap.size, 3, none⟩ = some (.int .i64 (S 1).2) ∧ w'.cell? ⟨w.heap.size, 4, none⟩ = some (.int .i64 (S 2).1) ∧ w'.cell? ⟨w.heap.size, 5, none⟩ = some (.int .i64 (S 2).2)) → Below w4.heap.size w4 w' := fun w' h => h.1
          go_region_held3 (fun w' => Below w4.heap.size w4 w' ∧ w'.cell? ⟨w.heap.size, 0, none⟩ = some (.int .i64 (S 0).1) ∧ w'.cell? ⟨w.heap.size, 1, none⟩ = some (.int .i64 (S 0).2) ∧ w'.cell? ⟨w.heap.size, 2, none⟩ = some (.int .i64 (S 1).1) ∧ w'.cell? ⟨w.heap.size, 3, none⟩ = some (.int .i64 (S 1).2) ∧ w'.cell? ⟨w.heap.size, 4, none⟩ = some (.int .i64 (S 2).1) ∧ w'.cell? ⟨w.heap.size, 5, none⟩ = some (.int .i64 (S 2).2)) (first | exact SK _ (Below.refl _ _).drew | exact SK _ (Below.refl _ _) | exact SK _ (bel_next (by assumption) (by assumption) (Nat.le_refl _)) | exact SK _ (nalcW w4 _).drew | exact SK _ (bel_alW2 hB3 _) | exact SK _ (bel_set4W hB3 _ (Nat.le_refl _) _ _ _ _))
            (first
              | (go_at_call 27; refine (H1.out _ (HV0.out.below (SB _ (by assumption)))).mono ?_; rintro e wn ⟨⟨u3, r3, rfl, hst3, hrs3⟩, hbN⟩; have hB3 := bel_next (B := w4.heap.size) (w0 := w4) (by assumption) hbN (Nat.le_refl _); obtain ⟨sl3, rfl, hsl3⟩ := hst3; obtain ⟨A3, n3, c3, rfl⟩ := hsl3.shape3; obtain ⟨B3, m3, d3, rfl⟩ := hrs3.shape3; (first | (have hN3 := Blk.below (g := w4.heap.size) (Blk.new w4.drew 29 #[.int .i64 0, .int .i64 0, .slice none 0 0, .int .i64 0]) hbN (by simp)) | skip); (try have z0 := (Blk.cell hN3 0).trans (rfl : _ = some (Value.int .i64 0))); (try have zf0 := Blk.frozen hN3 0); (try have z1 := (Blk.cell hN3 1).trans (rfl : _ = some (Value.int .i64 0))); (try have zf1 := Blk.frozen hN3 1); (try have z2 := (Blk.cell hN3 2).trans (rfl : _ = some (Value.slice none 0 0))); (try have zf2 := Blk.frozen hN3 2); (try have z3 := (Blk.cell hN3 3).trans (rfl : _ = some (Value.int .i64 0))); (try have zf3 := Blk.frozen hN3 3)))
          all_goals
            go_wp2_with fail
            go_meet
            case rel =>
              first
                | exact ⟨_, A3, n3, c3, rfl, rfl, Blk.new wn _ _, hsl3.below (nalcW wn _), hrs3.below (nalcW wn _), hB3.size, SB _ (by assumption)⟩
                | exact ⟨_, A3, n3, c3, rfl, rfl, ((((hN3.set_ 0 (.int .i64 (y.mode : Int))).set_ 1 (.int .i64 (y.run : Int))).set_ 2 (.slice A3 n3 c3)).set_ 3 (.int .i64 (y.rej : Int))), hsl3.own hN3 (nobool4 0 0 0 none 0 0) (only_setCell (only_setCell (only_setCell (only_setCell (only_refl _ (some (_))) (p := ⟨_, 0, none⟩) (Or.inl rfl) (.int .i64 (y.mode : Int))) (p := ⟨_, 1, none⟩) (Or.inl rfl) (.int .i64 (y.run : Int))) (p := ⟨_, 2, none⟩) (Or.inl rfl) (.slice A3 n3 c3)) (p := ⟨_, 3, none⟩) (Or.inl rfl) (.int .i64 (y.rej : Int))), hrs3.own hN3 (nobool4 0 0 0 none 0 0) (only_setCell (only_setCell (only_setCell (only_setCell (only_refl _ (some (_))) (p := ⟨_, 0, none⟩) (Or.inl rfl) (.int .i64 (y.mode : Int))) (p := ⟨_, 1, none⟩) (Or.inl rfl) (.int .i64 (y.run : Int))) (p := ⟨_, 2, none⟩) (Or.inl rfl) (.slice A3 n3 c3)) (p := ⟨_, 3, none⟩) (Or.inl rfl) (.int .i64 (y.rej : Int))), Nat.le_refl _, SB _ (by assumption)⟩
        case rest =>
          obtain ⟨yb, A3, n3, c3, rfl, rfl, hkb, hsl3, hrs3, hb1, hb⟩ := hcut
          obtain ⟨B3, m3, d3, rfl⟩ := hrs3.shape3
          have HB1 := hide hb1
          have HW4 := hide hb
          have K_b := hide hkb
          have HY3 := hide hsl3
          have HR3 := hide hrs3
          clear s0 s1 s2 s3 s4 s5 hkb hsl3 hrs3 hb1
          have K_s4 := K_s
          have K_x4 := K_x
          have HX4 := HX2
          have HL4 := HL2
          have HV4 := HV
          have HB4 := HB
          replace K_s := hide (Blk.below K_s.out hb (Blk.lt K_s.out))
          replace K_x := hide (Blk.below K_x.out hb (Blk.lt K_x.out))
          replace HB := hide (HB.out.trans (hb.mono HB.out.size))
          replace HV := hide (HV.out.below hb)
          replace HV0 := hide (HV0.out.below hb)
          replace HX2 := hide (HX2.out.below hb)
          replace HL2 := hide (HL2.out.below hb)
          clear hb
          have HRI1 := hide (fun (W : World) (h : SlL W (.slice A2 n2 c2) (bcl xc.last)) => (show Calls Tryz.prog 22 #[.agg #[.int .i64 (xc.mode : Int), .int .i64 (xc.run : Int), .slice A2 n2 c2, .int .i64 (xc.rej : Int)]] W (fun e w' => e = .returned (.int .i64 0) ∧ Below W.heap.size W w') from by have hr : RightS xc := (by rw [← HXC.out]; exact HRC.out); have h1 := swright_any W (xc.mode : Int) (xc.run : Int) (xc.rej : Int) _ xc.last h (by have := right_len hr; omega); rw [show rightI (xc.mode : Int) (xc.run : Int) xc.last (xc.rej : Int) = 0 from hr] at h1; exact h1))
          have HRI2 := hide (fun (W : World) (h : SlL W (.slice A3 n3 c3) (bcl y.last)) => (show Calls Tryz.prog 22 #[.agg #[.int .i64 (y.mode : Int), .int .i64 (y.run : Int), .slice A3 n3 c3, .int .i64 (y.rej : Int)]] W (fun e w' => e = .returned (.int .i64 0) ∧ Below W.heap.size W w') from by have hr : RightS y := (by rw [← HZY.out]; exact HRZ.out); have h1 := swright_any W (y.mode : Int) (y.run : Int) (y.rej : Int) _ y.last h (by have := right_len hr; omega); rw [show rightI (y.mode : Int) (y.run : Int) y.last (y.rej : Int) = 0 from hr] at h1; exact h1))
          have x0 := (Blk.cell K_x.out 0).trans (rfl : _ = some (Value.int .i64 (xc.mode : Int)))
          have x1 := (Blk.cell K_x.out 1).trans (rfl : _ = some (Value.int .i64 (xc.run : Int)))
          have x2 := (Blk.cell K_x.out 2).trans (rfl : _ = some (Value.slice A2 n2 c2))
          have x3 := (Blk.cell K_x.out 3).trans (rfl : _ = some (Value.int .i64 (xc.rej : Int)))
          have b0 := (Blk.cell K_b.out 0).trans (rfl : _ = some (Value.int .i64 (y.mode : Int)))
          have b1 := (Blk.cell K_b.out 1).trans (rfl : _ = some (Value.int .i64 (y.run : Int)))
          have b2 := (Blk.cell K_b.out 2).trans (rfl : _ = some (Value.slice A3 n3 c3))
          have b3 := (Blk.cell K_b.out 3).trans (rfl : _ = some (Value.int .i64 (y.rej : Int)))
          go_wp2_with fail
          refine (HRI1.out _ HX2.out).mono ?_
          rintro e w6 ⟨rfl, hb⟩
          clear x0 x1 x2 x3 b0 b1 b2 b3
          replace K_s := hide (Blk.below K_s.out hb (Blk.lt K_s.out))
          replace K_x := hide (Blk.below K_x.out hb (Blk.lt K_x.out))
          replace K_b := hide (Blk.below K_b.out hb (Blk.lt K_b.out))
          replace HB := hide (HB.out.trans (hb.mono HB.out.size))
          replace HV := hide (HV.out.below hb)
          replace HV0 := hide (HV0.out.below hb)
          replace HX2 := hide (HX2.out.below hb)
          replace HL2 := hide (HL2.out.below hb)
          replace HY3 := hide (HY3.out.below hb)
          replace HR3 := hide (HR3.out.below hb)
          replace HW4 := hide (HW4.out.trans (hb.mono HW4.out.size))
          clear hb
          have x0 := (Blk.cell K_x.out 0).trans (rfl : _ = some (Value.int .i64 (xc.mode : Int)))
          have x1 := (Blk.cell K_x.out 1).trans (rfl : _ = some (Value.int .i64 (xc.run : Int)))
          have x2 := (Blk.cell K_x.out 2).trans (rfl : _ = some (Value.slice A2 n2 c2))
          have x3 := (Blk.cell K_x.out 3).trans (rfl : _ = some (Value.int .i64 (xc.rej : Int)))
          have b0 := (Blk.cell K_b.out 0).trans (rfl : _ = some (Value.int .i64 (y.mode : Int)))
          have b1 := (Blk.cell K_b.out 1).trans (rfl : _ = some (Value.int .i64 (y.run : Int)))
          have b2 := (Blk.cell K_b.out 2).trans (rfl : _ = some (Value.slice A3 n3 c3))
          have b3 := (Blk.cell K_b.out 3).trans (rfl : _ = some (Value.int .i64 (y.rej : Int)))
          go_wp2_with fail
          refine (HRI2.out _ HY3.out).mono ?_
          rintro e w7 ⟨rfl, hb⟩
          clear x0 x1 x2 x3 b0 b1 b2 b3
          replace K_s := hide (Blk.below K_s.out hb (Blk.lt K_s.out))
          replace K_x := hide (Blk.below K_x.out hb (Blk.lt K_x.out))
          replace K_b := hide (Blk.below K_b.out hb (Blk.lt K_b.out))
          replace HB := hide (HB.out.trans (hb.mono HB.out.size))
          replace HV := hide (HV.out.below hb)
          replace HV0 := hide (HV0.out.below hb)
          replace HX2 := hide (HX2.out.below hb)
          replace HL2 := hide (HL2.out.below hb)
          replace HY3 := hide (HY3.out.below hb)
          replace HR3 := hide (HR3.out.below hb)
          replace HW4 := hide (HW4.out.trans (hb.mono HW4.out.size))
          clear hb
          have hbw := Blk.lt K_b.out
          have HBK := hide hbw
          clear hbw
          go_wp2_with fail
          refine (cloneB_any _ _ rs0 HR3.out (by rw [← HZR.out]; exact HRZ2.out)).mono ?_
          rintro e w8 ⟨⟨mv, rfl, hown⟩, hb⟩
          have HB78 := hide hb
          replace K_s := hide (Blk.below K_s.out hb (Blk.lt K_s.out))
          replace K_x := hide (Blk.below K_x.out hb (Blk.lt K_x.out))
          replace K_b := hide (Blk.below K_b.out hb (Blk.lt K_b.out))
          replace HB := hide (HB.out.trans (hb.mono HB.out.size))
          replace HV := hide (HV.out.below hb)
          replace HV0 := hide (HV0.out.below hb)
          replace HX2 := hide (HX2.out.below hb)
          replace HL2 := hide (HL2.out.below hb)
          replace HY3 := hide (HY3.out.below hb)
          replace HR3 := hide (HR3.out.below hb)
          replace HW4 := hide (HW4.out.trans (hb.mono HW4.out.size))
          clear hb
          have HOWN := hide hown
          clear hown HRI1 HRI2 HR3
          obtain ⟨A6, hA6⟩ : ∃ A6, (if c = k then A else A.map fun x => x.add k) = A6 := ⟨_, rfl⟩
          have hV6 : SlL w4 (.slice A6 (N - k) (c - k)) (zcl (L.drop k)) := by
            rw [← hA6]
            split
            · rename_i hck
              have h := HV4.out.drop_cap (by have := HKN.out; omega)
              rw [hck] at h
              rw [hck]
              have hd : zcl (L.drop k) = (zcl L).drop k := by unfold zcl; rw [List.map_drop]
              rw [hd]
              exact h
            · have h := HV4.out.drop (k := k) HKN.out
              have hd : zcl (L.drop k) = (zcl L).drop k := by unfold zcl; rw [List.map_drop]
              rw [hd]
              exact h
          have HV6 := hide hV6
          clear hV6
          have HSZ7 := hide (show w7.heap.size ≤ w8.heap.size from HB78.out.size)
          by_cases hck : c = k
          · have hA7 : A = A6 := by rw [← hA6, if_pos hck]
            have HA7 := hide hA7
            clear hA7 hA6
            obtain ⟨K, hK⟩ : ∃ K, N - k = K := ⟨_, rfl⟩
            rw [hK] at HV6
            have HKK := hide hK
            have hKi : (K : Int) = (N : Int) - (k : Int) := by have := HKN.out; omega
            have HKI := hide hKi
            clear hKi hK
            have hc6 : 0 < K → ∃ g o, A6 = some ⟨g, o, none⟩ ∧ ∀ p x, (zcl (L.drop k))[p]? = some x → w4.cell? ⟨g, o + p, none⟩ = some x := fun h0 => by
              obtain ⟨A9, c9, h1, _, h3⟩ := HV6.out
              simp only [Value.slice.injEq] at h1
              obtain ⟨rfl, hl, rfl⟩ := h1
              exact h3 (by omega)
            have HC6 := hide hc6
            clear hc6 HV6
            go_wp2_with fail
            try rw [HA7.out]
            try rw [HKK.out]
            go_loopg [13, 76] K (fun z mv iv wr => ∃ (j : Nat) (x : Sw) (rs : List Bool) (ef : Nat) (A9 : Option Addr) (n9 c9 : Nat), iv = .int .i64 (j : Int) ∧ z + j = K ∧ goC (ruN S) (L.drop (k + j)) (k + j) ⟨x, rs, ef⟩ = .inl cl ∧ RightS x ∧ rs.length ≤ k + j ∧ wr.ownsRow w7.heap.size 4 1 mv rs.length (bcl rs) ∧ Blk wr yb 29 #[.int .i64 (x.mode : Int), .int .i64 (x.run : Int), .slice A9 n9 c9, .int .i64 (x.rej : Int)] ∧ SlL wr (.slice A9 n9 c9) (bcl x.last) ∧ w7.heap.size ≤ wr.heap.size ∧ Below w4.heap.size w4 wr)
            case atStart => exact ⟨0, y, rs0, z0.eff, A3, n3, c3, rfl, rfl, (by rw [Nat.add_zero, ← HZY.out, ← HZR.out]; exact HG1.out), (by rw [← HZY.out]; exact HRZ.out), (by rw [← HZR.out]; exact HRZ3.out), HOWN.out, K_b.out, HY3.out, HSZ7.out, HW4.out⟩
            case round =>
              clear HOWN K_b HY3 HW4 HB K_s K_x HV HV0 HX2 HL2 HG1 HGO HG0
              obtain ⟨j, x, rs, ef, A9, n9, c9, rfl, hq, hgc, hrx, hrl, hown, hkb, hsl, hszw, hbw⟩ := hrel
              obtain ⟨W1, rfl⟩ : ∃ W, W = wr := ⟨_, rfl⟩
              obtain ⟨Am, nm, cm, rfl⟩ := own_slice hown
              have HQ := hide hq
              have HGC := hide hgc
              have HRX := hide hrx
              have HRL := hide hrl
              have HOB := hide hown
              have K_b := hide hkb
              have HSL := hide hsl
              have HSZW := hide hszw
              have HW := hide hbw
              have HB := hide (HB4.out.trans (hbw.mono HB4.out.size))
              have K_s := hide (Blk.below K_s4.out hbw (Blk.lt K_s4.out))
              clear hq hgc hrx hrl hown hkb hsl hszw hbw
              by_cases hlt : j < K
              · have hji : (j : Int) < (K : Int) := by omega
                have hj0 : (0 : Int) ≤ (j : Int) := by omega
                have hK80 : K ≤ 80 := by have := HKK.out; have := HN80.out; omega
                obtain ⟨g, og, rfl, hcell⟩ := HC6.out (by omega)
                obtain ⟨fd, hfd⟩ : ∃ z, (L.drop k)[j]? = some z := ⟨_, List.getElem?_eq_getElem (by rw [List.length_drop, HN.out]; have := HKK.out; omega)⟩
                have hfd2 : L[k + j]? = some fd := by rw [List.getElem?_drop] at hfd; exact hfd
                have hc4 := hcell j _ (zcl_at hfd)
                have lc := (bcell HW.out _ _ (block_lt_of_cell hc4)).trans hc4
                have hgc := HGC.out
                rw [List.drop_eq_getElem_cons (by rw [HN.out]; have := HKK.out; omega), (List.getElem?_eq_some_iff.1 hfd2).2, goC_cons] at hgc
                clear hcell hfd hfd2 hc4
                cases hstep : stepC (ruN S) ⟨x, rs, ef⟩ fd with
                | inr e1 => rw [hstep] at hgc; cases hgc
                | inl d =>
                  rw [hstep] at hgc
                  have HG2 := hide hgc
                  clear hgc
                  have hstep2 := hstep
                  unfold stepC at hstep2
                  by_cases hf1 : fd = -1
                  · rw [if_pos hf1] at hstep2
                    by_cases h3 : x.mode = 3
                    · rw [if_pos h3] at hstep2
                      obtain rfl := Sum.inl.inj hstep2
                      subst hf1
                      have hfe : ((-1 : Int) == -1) = true := rfl
                      have kb : Blk W1 yb 29 #[.int .i64 3, .int .i64 (x.run : Int), .slice A9 n9 c9, .int .i64 (x.rej : Int)] := by have h := K_b.out; rw [h3] at h; exact h
                      replace K_b := hide kb
                      have hr3 : rightI 3 (x.run : Int) x.last (x.rej : Int) = 0 := by have h : rightI (x.mode : Int) (x.run : Int) x.last (x.rej : Int) = 0 := HRX.out; rw [h3] at h; exact h
                      have HRS := hide (fun (W : World) (h : SlL W (.slice A9 n9 c9) (bcl x.last)) => swrst_ok W (x.run : Int) (x.rej : Int) _ x.last h (by have := right_len HRX.out; omega) hr3)
                      clear hstep hstep2 kb hr3 h3
                      have b0 := (Blk.cell K_b.out 0).trans (rfl : _ = some (Value.int .i64 3))
                      have b1 := (Blk.cell K_b.out 1).trans (rfl : _ = some (Value.int .i64 (x.run : Int)))
                      have b2 := (Blk.cell K_b.out 2).trans (rfl : _ = some (Value.slice A9 n9 c9))
                      have b3 := (Blk.cell K_b.out 3).trans (rfl : _ = some (Value.int .i64 (x.rej : Int)))
                      go_wp2_with fail
                      refine (HRS.out _ HSL.out).mono ?_
                      rintro e w11 ⟨rfl, hb⟩
                      clear lc
                      have HOB2 := hide (owns_below HOB.out hb)
                      have HSZ11 := hide (show w7.heap.size ≤ w11.heap.size by have := hb.size; have := HSZW.out; omega)
                      clear b0 b1 b2 b3
                      replace K_s := hide (Blk.below K_s.out hb (Blk.lt K_s.out))
                      replace K_b := hide (Blk.below K_b.out hb (Blk.lt K_b.out))
                      replace HB := hide (HB.out.trans (hb.mono HB.out.size))
                      replace HSL := hide (HSL.out.below hb)
                      replace HW := hide (HW.out.trans (hb.mono HW.out.size))
                      clear hb
                      have b0 := (Blk.cell K_b.out 0).trans (rfl : _ = some (Value.int .i64 3))
                      have bf0 := Blk.frozen K_b.out 0
                      have b1 := (Blk.cell K_b.out 1).trans (rfl : _ = some (Value.int .i64 (x.run : Int)))
                      have bf1 := Blk.frozen K_b.out 1
                      have b2 := (Blk.cell K_b.out 2).trans (rfl : _ = some (Value.slice A9 n9 c9))
                      have bf2 := Blk.frozen K_b.out 2
                      have b3 := (Blk.cell K_b.out 3).trans (rfl : _ = some (Value.int .i64 (x.rej : Int)))
                      have bf3 := Blk.frozen K_b.out 3
                      go_wp2_with fail
                      go_roundg (gk - 1)
                      case measure => have := HQ.out; omega
                      case rel => exact ⟨j + 1, swB 1, rs, ef, none, 0, 0, by go_num, by have := HQ.out; omega, HG2.out, swB_right (by omega), by have := HRL.out; omega, (ownsRow_setCell_below (ownsRow_setCell_below (ownsRow_setCell_below (ownsRow_setCell_below HOB2.out (a := ⟨yb, 0, none⟩) HBK.out (.int .i64 1)) (a := ⟨yb, 1, none⟩) HBK.out (.int .i64 0)) (a := ⟨yb, 2, none⟩) HBK.out (.slice none 0 0)) (a := ⟨yb, 3, none⟩) HBK.out (.int .i64 0)), ((((K_b.out.set_ 0 (.int .i64 1)).set_ 1 (.int .i64 0)).set_ 2 (.slice none 0 0)).set_ 3 (.int .i64 0)), SlL.nil _, by have := HSZ11.out; simpa using this, ((((HW.out.setCell (p := ⟨yb, 0, none⟩) HB1.out (.int .i64 1)).setCell (p := ⟨yb, 1, none⟩) HB1.out (.int .i64 0)).setCell (p := ⟨yb, 2, none⟩) HB1.out (.slice none 0 0)).setCell (p := ⟨yb, 3, none⟩) HB1.out (.int .i64 0))⟩
                    · rw [if_neg h3] at hstep2
                      cases hstep2
                  · rw [if_neg hf1] at hstep2
                    have hfe : (fd == -1) = false := by simpa using hf1
                    by_cases h3 : x.mode = 3
                    · rw [if_pos h3] at hstep2
                      cases hstep2
                    · rw [if_neg h3] at hstep2
                      by_cases hrg : fd < 0 ∨ ((ruN S x.mode).1 : Int) < fd
                      · rw [if_pos hrg] at hstep2
                        cases hstep2
                      · rw [if_neg hrg] at hstep2
                        obtain rfl := Sum.inl.inj hstep2
                        have hm3 : x.mode < 3 := by have := okP_right HRX.out; omega
                        have hra := ruN_at HCK0.out hm3
                        have hnx := fun (W : World) (h : SlL W (.slice A9 n9 c9) (bcl x.last)) => swnext_ok W S x fd (.slice A9 n9 c9) h HCK0.out HRX.out h3 (by omega) (by rw [hra.1]; omega)
                        rw [hra.2] at hnx
                        obtain ⟨ok, hok⟩ : ∃ b, decide (fd ≤ ((ruN S x.mode).2 : Int)) = b := ⟨_, rfl⟩
                        dsimp only at HG2
                        rw [hok] at hnx HG2
                        obtain ⟨u9, hu9⟩ : ∃ u, goesS x ok = u := ⟨_, rfl⟩
                        rw [hu9] at hnx HG2
                        have HRU := hide (show RightS u9 from by rw [← hu9]; exact (goesS_ok HRX.out ok).2)
                        have HNX := hide hnx
                        unfold schV at HNX
                        clear hstep hstep2 hra hnx hok hu9 h3 hrg hm3 hf1
                        have s0 := (Blk.cell K_s.out 0).trans (rfl : _ = some (Value.int .i64 (S 0).1))
                        have s1 := (Blk.cell K_s.out 1).trans (rfl : _ = some (Value.int .i64 (S 0).2))
                        have s2 := (Blk.cell K_s.out 2).trans (rfl : _ = some (Value.int .i64 (S 1).1))
                        have s3 := (Blk.cell K_s.out 3).trans (rfl : _ = some (Value.int .i64 (S 1).2))
                        have s4 := (Blk.cell K_s.out 4).trans (rfl : _ = some (Value.int .i64 (S 2).1))
                        have s5 := (Blk.cell K_s.out 5).trans (rfl : _ = some (Value.int .i64 (S 2).2))
                        have b0 := (Blk.cell K_b.out 0).trans (rfl : _ = some (Value.int .i64 (x.mode : Int)))
                        have b1 := (Blk.cell K_b.out 1).trans (rfl : _ = some (Value.int .i64 (x.run : Int)))
                        have b2 := (Blk.cell K_b.out 2).trans (rfl : _ = some (Value.slice A9 n9 c9))
                        have b3 := (Blk.cell K_b.out 3).trans (rfl : _ = some (Value.int .i64 (x.rej : Int)))
                        go_wp2_with fail
                        refine (HNX.out _ HSL.out).mono ?_
                        rintro e w11 ⟨u, rfl, hst, hb⟩
                        obtain ⟨sl, rfl, hsl, hfr⟩ := hst
                        obtain ⟨A5, n5, c5, rfl⟩ := hsl.shape3
                        have hol := HOB.out.lt
                        have HAP := hide (show ApartV (.slice A5 n5 c5) (.slice Am nm cm) from fun g o n c h e => by have h1 := hfr g o n c h; have h2 := (hol g e).2; omega)
                        have HOB2 := hide (owns_below HOB.out hb)
                        have HSZ11 := hide (show w7.heap.size ≤ w11.heap.size by have := hb.size; have := HSZW.out; omega)
                        clear lc hol
                        clear s0 s1 s2 s3 s4 s5 b0 b1 b2 b3
                        replace K_s := hide (Blk.below K_s.out hb (Blk.lt K_s.out))
                        replace K_b := hide (Blk.below K_b.out hb (Blk.lt K_b.out))
                        replace HB := hide (HB.out.trans (hb.mono HB.out.size))
                        replace HSL := hide (HSL.out.below hb)
                        replace HW := hide (HW.out.trans (hb.mono HW.out.size))
                        clear hb
                        have HS5 := hide hsl
                        clear hsl hfr
                        have HO11 := hide HOB2.out.lt
                        have ho12 := HOB2.out.alloc (.cells #[.int .i64 (u9.mode : Int), .int .i64 (u9.run : Int), .slice A5 n5 c5, .int .i64 (u9.rej : Int)] 29)
                        go_upto_region 19 with (fail)
                        have hbs_t : w.heap.size ≤ w11.heap.size := HB.out.size
                        have lt_t_s : w.heap.size < w11.heap.size := Blk.lt K_s.out
                        have lt_t_b : yb < w11.heap.size := Blk.lt K_b.out
                        replace K_s := K_s.out.alloc (.cells #[.int .i64 (u9.mode : Int), .int .i64 (u9.run : Int), .slice A5 n5 c5, .int .i64 (u9.rej : Int)] 29)
                        replace K_b := K_b.out.alloc (.cells #[.int .i64 (u9.mode : Int), .int .i64 (u9.run : Int), .slice A5 n5 c5, .int .i64 (u9.rej : Int)] 29)
                        replace HB := HB.out.alloc HB.out.size (.cells #[.int .i64 (u9.mode : Int), .int .i64 (u9.run : Int), .slice A5 n5 c5, .int .i64 (u9.rej : Int)] 29)
                        have K_t := Blk.new w11 29 #[.int .i64 (u9.mode : Int), .int .i64 (u9.run : Int), .slice A5 n5 c5, .int .i64 (u9.rej : Int)]
                        replace HS5 := HS5.out.below ((Below.refl w11.heap.size w11).alloc (Nat.le_refl _) (.cells #[.int .i64 (u9.mode : Int), .int .i64 (u9.run : Int), .slice A5 n5 c5, .int .i64 (u9.rej : Int)] 29))
                        replace HW := HW.out.alloc HW.out.size (.cells #[.int .i64 (u9.mode : Int), .int .i64 (u9.run : Int), .slice A5 n5 c5, .int .i64 (u9.rej : Int)] 29)
                        generalize w11.alloc (.cells #[.int .i64 (u9.mode : Int), .int .i64 (u9.run : Int), .slice A5 n5 c5, .int .i64 (u9.rej : Int)] 29) = w12 at *
                        replace K_s := hide K_s
                        replace K_b := hide K_b
                        replace K_t := hide K_t
                        replace HB := hide HB
                        replace HS5 := hide HS5
                        replace HW := hide HW
                        have HOB3 := hide ho12
                        clear ho12
                        have HLT := hide (show yb < w11.heap.size from lt_t_b)
                        have b0 := (Blk.cell K_b.out 0).trans (rfl : _ = some (Value.int .i64 (x.mode : Int)))
                        have bf0 := Blk.frozen K_b.out 0
                        have b1 := (Blk.cell K_b.out 1).trans (rfl : _ = some (Value.int .i64 (x.run : Int)))
                        have bf1 := Blk.frozen K_b.out 1
                        have b2 := (Blk.cell K_b.out 2).trans (rfl : _ = some (Value.slice A9 n9 c9))
                        have bf2 := Blk.frozen K_b.out 2
                        have b3 := (Blk.cell K_b.out 3).trans (rfl : _ = some (Value.int .i64 (x.rej : Int)))
                        have bf3 := Blk.frozen K_b.out 3
                        have t0 := (Blk.cell K_t.out 0).trans (rfl : _ = some (Value.int .i64 (u9.mode : Int)))
                        have t1 := (Blk.cell K_t.out 1).trans (rfl : _ = some (Value.int .i64 (u9.run : Int)))
                        have t2 := (Blk.cell K_t.out 2).trans (rfl : _ = some (Value.slice A5 n5 c5))
                        have t3 := (Blk.cell K_t.out 3).trans (rfl : _ = some (Value.int .i64 (u9.rej : Int)))
                        go_upto_region 21 with (fail)
                        clear b0 bf0 b1 bf1 b2 bf2 b3 bf3 t0 t1 t2 t3
                        have hta := K_t.out.alloc (.cells #[.bool ok] 4)
                        have hba := K_b.out.alloc (.cells #[.bool ok] 4)
                        have td0 := (Blk.cell K_t.out 0).trans (rfl : _ = some (Value.int .i64 (u9.mode : Int)))
                        have ta0 := (Blk.cell hta 0).trans (rfl : _ = some (Value.int .i64 (u9.mode : Int)))
                        have td1 := (Blk.cell K_t.out 1).trans (rfl : _ = some (Value.int .i64 (u9.run : Int)))
                        have ta1 := (Blk.cell hta 1).trans (rfl : _ = some (Value.int .i64 (u9.run : Int)))
                        have td2 := (Blk.cell K_t.out 2).trans (rfl : _ = some (Value.slice A5 n5 c5))
                        have ta2 := (Blk.cell hta 2).trans (rfl : _ = some (Value.slice A5 n5 c5))
                        have td3 := (Blk.cell K_t.out 3).trans (rfl : _ = some (Value.int .i64 (u9.rej : Int)))
                        have ta3 := (Blk.cell hta 3).trans (rfl : _ = some (Value.int .i64 (u9.rej : Int)))
                        have HTA := hide hta
                        have HBAA := hide hba
                        clear hta hba
                        have hbs12 : w7.heap.size ≤ w12.heap.size := by have := HSZ11.out; have := Blk.lt K_t.out; omega
                        have HBS12 := hide hbs12
                        obtain ⟨RL, hRL⟩ : ∃ n, rs.length = n := ⟨_, rfl⟩
                        have hRLb : RL ≤ 160 := by have := HRL.out; have := HKN.out; have := HN80.out; omega
                        rw [hRL] at HOB3
                        have HRLE := hide hRL
                        clear hRL
                        go_region_law (refine step_append_lies _ (by rfl) _ _ 27 (by rfl) w7.heap.size 4 i0 (.bool false) 1 1 Tryz.underlying27 hi hz0 hz1 hz2 rfl (by decide) _ RL _ (by rfl) (HOB3.out.alloc _) ⟨w12.heap.size, 0, none⟩ 1 1 [.bool ok] (by rfl) rfl (World.news_of_block (cs := #[.bool ok]) (heap_alloc_new _ _)) (by intro u hu; simp at hu; subst hu; rfl) (by omega) (by unfold maxLen; omega) (by omega) (by simp; omega) (w12.heap.size + 1) (by simp) ?_; intro g9 cap9 w9 hown9 hgrow9 hat9 hlt9; have ht9 := (Blk.drew HTA.out).grown hgrow9 (fun e => by have := (HO11.out _ e.symm).2; omega); have hb9 := (Blk.drew HBAA.out).grown hgrow9 (fun e => by have := (HO11.out _ e.symm).1; have := HBK.out; omega); have tn0 := (Blk.cell ht9 0).trans (rfl : _ = some (Value.int .i64 (u9.mode : Int))); have tn1 := (Blk.cell ht9 1).trans (rfl : _ = some (Value.int .i64 (u9.run : Int))); have tn2 := (Blk.cell ht9 2).trans (rfl : _ = some (Value.slice A5 n5 c5)); have tn3 := (Blk.cell ht9 3).trans (rfl : _ = some (Value.int .i64 (u9.rej : Int))); have bn0 := (Blk.cell hb9 0).trans (rfl : _ = some (Value.int .i64 (x.mode : Int))); have bf0 := Blk.frozen hb9 0; have bn1 := (Blk.cell hb9 1).trans (rfl : _ = some (Value.int .i64 (x.run : Int))); have bf1 := Blk.frozen hb9 1; have bn2 := (Blk.cell hb9 2).trans (rfl : _ = some (Value.slice A9 n9 c9)); have bf2 := Blk.frozen hb9 2; have bn3 := (Blk.cell hb9 3).trans (rfl : _ = some (Value.int .i64 (x.rej : Int))); have bf3 := Blk.frozen hb9 3; have HT9 := hide ht9; have HB9 := hide hb9; have HG9 := hide hgrow9; have HO9 := hide hown9; have HL9 := hide hlt9; clear ht9 hb9 hgrow9 hown9 hat9 hlt9)
                        all_goals (
                          have kx : Blk _ yb 29 #[.int .i64 (u9.mode : Int), .int .i64 (u9.run : Int), .slice A5 n5 c5, .int .i64 (u9.rej : Int)] := ((((HB9.out.set_ 0 (.int .i64 (u9.mode : Int))).set_ 1 (.int .i64 (u9.run : Int))).set_ 2 (.slice A5 n5 c5)).set_ 3 (.int .i64 (u9.rej : Int)))
                          have hw := (((((((HW.out.alloc HW.out.size (.cells #[.bool ok] 4)).drew).grown HG9.out (by simp; have := HW.out.size; omega) (fun k e => by have := (HO11.out k e).1; have := HBK.out; have := HB1.out; omega)).setCell (p := ⟨yb, 0, none⟩) HB1.out (.int .i64 (u9.mode : Int))).setCell (p := ⟨yb, 1, none⟩) HB1.out (.int .i64 (u9.run : Int))).setCell (p := ⟨yb, 2, none⟩) HB1.out (.slice A5 n5 c5)).setCell (p := ⟨yb, 3, none⟩) HB1.out (.int .i64 (u9.rej : Int)))
                          have ow := (ownsRow_setCell_below (ownsRow_setCell_below (ownsRow_setCell_below (ownsRow_setCell_below HO9.out (a := ⟨yb, 0, none⟩) HBK.out (.int .i64 (u9.mode : Int))) (a := ⟨yb, 1, none⟩) HBK.out (.int .i64 (u9.run : Int))) (a := ⟨yb, 2, none⟩) HBK.out (.slice A5 n5 c5)) (a := ⟨yb, 3, none⟩) HBK.out (.int .i64 (u9.rej : Int)))
                          have sl := ((((HS5.out.below (nalcW w12 (.cells #[.bool ok] 4))).below (Below.refl _ _).drew).grownA HG9.out (fun g o n c h => HAP.out g o n c h)).own HB9.out (nobool4 _ _ _ _ _ _) (only_setCell (only_setCell (only_setCell (only_setCell (only_refl _ (some (yb))) (p := ⟨yb, 0, none⟩) (Or.inl rfl) (.int .i64 (u9.mode : Int))) (p := ⟨yb, 1, none⟩) (Or.inl rfl) (.int .i64 (u9.run : Int))) (p := ⟨yb, 2, none⟩) (Or.inl rfl) (.slice A5 n5 c5)) (p := ⟨yb, 3, none⟩) (Or.inl rfl) (.int .i64 (u9.rej : Int))))
                          rw [bcl_snoc] at ow
                          have KX := hide kx
                          have HWX := hide hw
                          have OWX := hide ow
                          have SLX := hide sl
                          clear kx hw ow sl
                          have hl9 : (rs ++ [ok]).length = RL + 1 := by rw [List.length_append, HRLE.out]; rfl
                          have HL9B := hide hl9
                          clear hl9
                          go_wp2_with fail
                          go_roundg (gk - 1)
                          case measure => have := HQ.out; omega
                          case rel => exact ⟨j + 1, u9, rs ++ [ok], ef + (ruN S x.mode).1, A5, n5, c5, by go_num, by have := HQ.out; omega, HG2.out, HRU.out, by rw [HL9B.out]; have := HRL.out; have := HRLE.out; omega, by rw [HL9B.out]; exact OWX.out, KX.out, SLX.out, by have h1 := HG9.out.size; have h2 := HBS12.out; simp at h1 ⊢; omega, HWX.out⟩
                        )
              · have hji : ¬ (j : Int) < (K : Int) := by omega
                have hjK : k + j = L.length := by rw [HN.out]; have := HQ.out; have := HKK.out; have := HKN.out; omega
                have hgc := HGC.out
                rw [hjK, List.drop_length] at hgc
                have hcl : (⟨x, rs, ef⟩ : Cr) = cl := Sum.inl.inj hgc
                have hxc : x = xc := by rw [← HXC.out, ← hcl]
                have hrc : rs = rsc := by rw [← HRSC.out, ← hcl]
                clear hjK hgc hcl
                subst hxc
                subst hrc
                have K_x := hide (Blk.below K_x4.out HW.out (Blk.lt K_x4.out))
                have HX2 := hide (HX4.out.below HW.out)
                have HL2 := hide (HL4.out.below HW.out)
                have HMR := hide (SlL.of_row (L := bcl rs) HOB.out (by rw [bcl_len]))
                have HXL := hide (show x.last.length ≤ 1000000 by have := right_len HRX.out; omega)
                have HRSL := hide (show rs.length ≤ 1000000 by have := HRL.out; have := HKN.out; have := HN80.out; have := HQ.out; have := HKK.out; omega)
                have HSY := hide (fun W => stateI_any W (x.mode : Int) (x.run : Int) (x.rej : Int) A2 n2 c2)
                have HSZ := hide (fun W => stateI_any W (x.mode : Int) (x.run : Int) (x.rej : Int) A9 n9 c9)
                have HSA := hide (fun (W : World) (h1 : SlL W (.slice A2 n2 c2) (bcl x.last)) (h2 : SlL W (.slice A9 n9 c9) (bcl x.last)) => sameY W A2 A9 n2 n9 c2 c9 x h1 h2 HXL.out)
                have HEQ := hide (fun (W : World) (h1 : SlL W (.slice B2 m2 d2) (bcl rs)) (h2 : SlL W (.slice Am nm cm) (bcl rs)) => eqB_any W _ _ rs h1 h2 HRSL.out)
                have x0 := (Blk.cell K_x.out 0).trans (rfl : _ = some (Value.int .i64 (x.mode : Int)))
                have x1 := (Blk.cell K_x.out 1).trans (rfl : _ = some (Value.int .i64 (x.run : Int)))
                have x2 := (Blk.cell K_x.out 2).trans (rfl : _ = some (Value.slice A2 n2 c2))
                have x3 := (Blk.cell K_x.out 3).trans (rfl : _ = some (Value.int .i64 (x.rej : Int)))
                have b0 := (Blk.cell K_b.out 0).trans (rfl : _ = some (Value.int .i64 (x.mode : Int)))
                have b1 := (Blk.cell K_b.out 1).trans (rfl : _ = some (Value.int .i64 (x.run : Int)))
                have b2 := (Blk.cell K_b.out 2).trans (rfl : _ = some (Value.slice A9 n9 c9))
                have b3 := (Blk.cell K_b.out 3).trans (rfl : _ = some (Value.int .i64 (x.rej : Int)))
                go_upto_region 23 with (fail)
                have SK : ∀ w', Below W1.heap.size W1 w' → Below W1.heap.size W1 w' ∧ w'.cell? ⟨w3.heap.size, 0, none⟩ = some (.int .i64 (x.mode : Int)) ∧ w'.cell? ⟨w3.heap.size, 1, none⟩ = some (.int .i64 (x.run : Int)) ∧ w'.cell? ⟨w3.heap.size, 2, none⟩ = some (.slice A2 n2 c2) ∧ w'.cell? ⟨w3.heap.size, 3, none⟩ = some (.int .i64 (x.rej : Int)) ∧ w'.cell? ⟨yb, 0, none⟩ = some (.int .i64 (x.mode : Int)) ∧ w'.cell? ⟨yb, 1, none⟩ = some (.int .i64 (x.run : Int)) ∧ w'.cell? ⟨yb, 2, none⟩ = some (.slice A9 n9 c9) ∧ w'.cell? ⟨yb, 3, none⟩ = some (.int .i64 (x.rej : Int)) := fun w' h => ⟨h, (bcell h _ _ (block_lt_of_cell x0)).trans x0, (bcell h _ _ (block_lt_of_cell x1)).trans x1, (bcell h _ _ (block_lt_of_cell x2)).trans x2, (bcell h _ _ (block_lt_of_cell x3)).trans x3, (bcell h _ _ (block_lt_of_cell b0)).trans b0, (bcell h _ _ (block_lt_of_cell b1)).trans b1, (bcell h _ _ (block_lt_of_cell b2)).trans b2, (bcell h _ _ (block_lt_of_cell b3)).trans b3⟩
                have SB : ∀ w', (Below W1.heap.size W1 w' ∧ w'.cell? ⟨w3.heap.size, 0, none⟩ = some (.int .i64 (x.mode : Int)) ∧ w'.cell? ⟨w3.heap.size, 1, none⟩ = some (.int .i64 (x.run : Int)) ∧ w'.cell? ⟨w3.heap.size, 2, none⟩ = some (.slice A2 n2 c2) ∧ w'.cell? ⟨w3.heap.size, 3, none⟩ = some (.int .i64 (x.rej : Int)) ∧ w'.cell? ⟨yb, 0, none⟩ = some (.int .i64 (x.mode : Int)) ∧ w'.cell? ⟨yb, 1, none⟩ = some (.int .i64 (x.run : Int)) ∧ w'.cell? ⟨yb, 2, none⟩ = some (.slice A9 n9 c9) ∧ w'.cell? ⟨yb, 3, none⟩ = some (.int .i64 (x.rej : Int))) → Below W1.heap.size W1 w' := fun w' h => h.1
                go_region_held3 (fun w' => Below W1.heap.size W1 w' ∧ w'.cell? ⟨w3.heap.size, 0, none⟩ = some (.int .i64 (x.mode : Int)) ∧ w'.cell? ⟨w3.heap.size, 1, none⟩ = some (.int .i64 (x.run : Int)) ∧ w'.cell? ⟨w3.heap.size, 2, none⟩ = some (.slice A2 n2 c2) ∧ w'.cell? ⟨w3.heap.size, 3, none⟩ = some (.int .i64 (x.rej : Int)) ∧ w'.cell? ⟨yb, 0, none⟩ = some (.int .i64 (x.mode : Int)) ∧ w'.cell? ⟨yb, 1, none⟩ = some (.int .i64 (x.run : Int)) ∧ w'.cell? ⟨yb, 2, none⟩ = some (.slice A9 n9 c9) ∧ w'.cell? ⟨yb, 3, none⟩ = some (.int .i64 (x.rej : Int))) (first | exact SK _ (Below.refl _ _).drew | exact SK _ (Below.refl _ _) | exact SK _ (bel_next (by assumption) (by assumption) (Nat.le_refl _)))
                  (first
                    | (go_at_call 18; refine (HSY.out _).mono ?_; rintro e wx ⟨rfl, hbW⟩)
                    | (go_at_call 18; refine (HSZ.out _).mono ?_; rintro e wx ⟨rfl, hbW⟩)
                    | (go_at_call 24; refine (HSA.out _ (HX2.out.below (SB _ (by assumption))) (HSL.out.below (SB _ (by assumption)))).mono ?_; rintro e wx ⟨rfl, hbW⟩)
                    | (go_at_call 31; refine (HEQ.out _ (HL2.out.below (SB _ (by assumption))) (HMR.out.below (SB _ (by assumption)))).mono ?_; rintro e wx ⟨rfl, hbW⟩)
                    | (go_at_call 15; refine (HAW.out _ (HS.out.below (HB.out.trans ((SB _ (by assumption)).mono HB.out.size)) (Nat.le_refl _))).mono ?_; rintro e wx ⟨rfl, hbW⟩))
                obtain ⟨hbx, _⟩ : Below W1.heap.size W1 _ ∧ _ := by assumption
                have HX := hide (HB.out.trans (hbx.mono HB.out.size))
                clear hbx
                go_wp2_with fail
                go_ret
                exact ⟨rfl, HX.out⟩
          · have hA7 : (A.map fun x => x.add k) = A6 := by rw [← hA6, if_neg hck]
            have HA7 := hide hA7
            clear hA7 hA6
            obtain ⟨K, hK⟩ : ∃ K, N - k = K := ⟨_, rfl⟩
            rw [hK] at HV6
            have HKK := hide hK
            have hKi : (K : Int) = (N : Int) - (k : Int) := by have := HKN.out; omega
            have HKI := hide hKi
            clear hKi hK
            have hc6 : 0 < K → ∃ g o, A6 = some ⟨g, o, none⟩ ∧ ∀ p x, (zcl (L.drop k))[p]? = some x → w4.cell? ⟨g, o + p, none⟩ = some x := fun h0 => by
              obtain ⟨A9, c9, h1, _, h3⟩ := HV6.out
              simp only [Value.slice.injEq] at h1
              obtain ⟨rfl, hl, rfl⟩ := h1
              exact h3 (by omega)
            have HC6 := hide hc6
            clear hc6 HV6
            go_wp2_with fail
            try rw [HA7.out]
            try rw [HKK.out]
            go_loopg [13, 76] K (fun z mv iv wr => ∃ (j : Nat) (x : Sw) (rs : List Bool) (ef : Nat) (A9 : Option Addr) (n9 c9 : Nat), iv = .int .i64 (j : Int) ∧ z + j = K ∧ goC (ruN S) (L.drop (k + j)) (k + j) ⟨x, rs, ef⟩ = .inl cl ∧ RightS x ∧ rs.length ≤ k + j ∧ wr.ownsRow w7.heap.size 4 1 mv rs.length (bcl rs) ∧ Blk wr yb 29 #[.int .i64 (x.mode : Int), .int .i64 (x.run : Int), .slice A9 n9 c9, .int .i64 (x.rej : Int)] ∧ SlL wr (.slice A9 n9 c9) (bcl x.last) ∧ w7.heap.size ≤ wr.heap.size ∧ Below w4.heap.size w4 wr)
            case atStart => exact ⟨0, y, rs0, z0.eff, A3, n3, c3, rfl, rfl, (by rw [Nat.add_zero, ← HZY.out, ← HZR.out]; exact HG1.out), (by rw [← HZY.out]; exact HRZ.out), (by rw [← HZR.out]; exact HRZ3.out), HOWN.out, K_b.out, HY3.out, HSZ7.out, HW4.out⟩
            case round =>
              clear HOWN K_b HY3 HW4 HB K_s K_x HV HV0 HX2 HL2 HG1 HGO HG0
              obtain ⟨j, x, rs, ef, A9, n9, c9, rfl, hq, hgc, hrx, hrl, hown, hkb, hsl, hszw, hbw⟩ := hrel
              obtain ⟨W1, rfl⟩ : ∃ W, W = wr := ⟨_, rfl⟩
              obtain ⟨Am, nm, cm, rfl⟩ := own_slice hown
              have HQ := hide hq
              have HGC := hide hgc
              have HRX := hide hrx
              have HRL := hide hrl
              have HOB := hide hown
              have K_b := hide hkb
              have HSL := hide hsl
              have HSZW := hide hszw
              have HW := hide hbw
              have HB := hide (HB4.out.trans (hbw.mono HB4.out.size))
              have K_s := hide (Blk.below K_s4.out hbw (Blk.lt K_s4.out))
              clear hq hgc hrx hrl hown hkb hsl hszw hbw
              by_cases hlt : j < K
              · have hji : (j : Int) < (K : Int) := by omega
                have hj0 : (0 : Int) ≤ (j : Int) := by omega
                have hK80 : K ≤ 80 := by have := HKK.out; have := HN80.out; omega
                obtain ⟨g, og, rfl, hcell⟩ := HC6.out (by omega)
                obtain ⟨fd, hfd⟩ : ∃ z, (L.drop k)[j]? = some z := ⟨_, List.getElem?_eq_getElem (by rw [List.length_drop, HN.out]; have := HKK.out; omega)⟩
                have hfd2 : L[k + j]? = some fd := by rw [List.getElem?_drop] at hfd; exact hfd
                have hc4 := hcell j _ (zcl_at hfd)
                have lc := (bcell HW.out _ _ (block_lt_of_cell hc4)).trans hc4
                have hgc := HGC.out
                rw [List.drop_eq_getElem_cons (by rw [HN.out]; have := HKK.out; omega), (List.getElem?_eq_some_iff.1 hfd2).2, goC_cons] at hgc
                clear hcell hfd hfd2 hc4
                cases hstep : stepC (ruN S) ⟨x, rs, ef⟩ fd with
                | inr e1 => rw [hstep] at hgc; cases hgc
                | inl d =>
                  rw [hstep] at hgc
                  have HG2 := hide hgc
                  clear hgc
                  have hstep2 := hstep
                  unfold stepC at hstep2
                  by_cases hf1 : fd = -1
                  · rw [if_pos hf1] at hstep2
                    by_cases h3 : x.mode = 3
                    · rw [if_pos h3] at hstep2
                      obtain rfl := Sum.inl.inj hstep2
                      subst hf1
                      have hfe : ((-1 : Int) == -1) = true := rfl
                      have kb : Blk W1 yb 29 #[.int .i64 3, .int .i64 (x.run : Int), .slice A9 n9 c9, .int .i64 (x.rej : Int)] := by have h := K_b.out; rw [h3] at h; exact h
                      replace K_b := hide kb
                      have hr3 : rightI 3 (x.run : Int) x.last (x.rej : Int) = 0 := by have h : rightI (x.mode : Int) (x.run : Int) x.last (x.rej : Int) = 0 := HRX.out; rw [h3] at h; exact h
                      have HRS := hide (fun (W : World) (h : SlL W (.slice A9 n9 c9) (bcl x.last)) => swrst_ok W (x.run : Int) (x.rej : Int) _ x.last h (by have := right_len HRX.out; omega) hr3)
                      clear hstep hstep2 kb hr3 h3
                      have b0 := (Blk.cell K_b.out 0).trans (rfl : _ = some (Value.int .i64 3))
                      have b1 := (Blk.cell K_b.out 1).trans (rfl : _ = some (Value.int .i64 (x.run : Int)))
                      have b2 := (Blk.cell K_b.out 2).trans (rfl : _ = some (Value.slice A9 n9 c9))
                      have b3 := (Blk.cell K_b.out 3).trans (rfl : _ = some (Value.int .i64 (x.rej : Int)))
                      go_wp2_with fail
                      refine (HRS.out _ HSL.out).mono ?_
                      rintro e w11 ⟨rfl, hb⟩
                      clear lc
                      have HOB2 := hide (owns_below HOB.out hb)
                      have HSZ11 := hide (show w7.heap.size ≤ w11.heap.size by have := hb.size; have := HSZW.out; omega)
                      clear b0 b1 b2 b3
                      replace K_s := hide (Blk.below K_s.out hb (Blk.lt K_s.out))
                      replace K_b := hide (Blk.below K_b.out hb (Blk.lt K_b.out))
                      replace HB := hide (HB.out.trans (hb.mono HB.out.size))
                      replace HSL := hide (HSL.out.below hb)
                      replace HW := hide (HW.out.trans (hb.mono HW.out.size))
                      clear hb
                      have b0 := (Blk.cell K_b.out 0).trans (rfl : _ = some (Value.int .i64 3))
                      have bf0 := Blk.frozen K_b.out 0
                      have b1 := (Blk.cell K_b.out 1).trans (rfl : _ = some (Value.int .i64 (x.run : Int)))
                      have bf1 := Blk.frozen K_b.out 1
                      have b2 := (Blk.cell K_b.out 2).trans (rfl : _ = some (Value.slice A9 n9 c9))
                      have bf2 := Blk.frozen K_b.out 2
                      have b3 := (Blk.cell K_b.out 3).trans (rfl : _ = some (Value.int .i64 (x.rej : Int)))
                      have bf3 := Blk.frozen K_b.out 3
                      go_wp2_with fail
                      go_roundg (gk - 1)
                      case measure => have := HQ.out; omega
                      case rel => exact ⟨j + 1, swB 1, rs, ef, none, 0, 0, by go_num, by have := HQ.out; omega, HG2.out, swB_right (by omega), by have := HRL.out; omega, (ownsRow_setCell_below (ownsRow_setCell_below (ownsRow_setCell_below (ownsRow_setCell_below HOB2.out (a := ⟨yb, 0, none⟩) HBK.out (.int .i64 1)) (a := ⟨yb, 1, none⟩) HBK.out (.int .i64 0)) (a := ⟨yb, 2, none⟩) HBK.out (.slice none 0 0)) (a := ⟨yb, 3, none⟩) HBK.out (.int .i64 0)), ((((K_b.out.set_ 0 (.int .i64 1)).set_ 1 (.int .i64 0)).set_ 2 (.slice none 0 0)).set_ 3 (.int .i64 0)), SlL.nil _, by have := HSZ11.out; simpa using this, ((((HW.out.setCell (p := ⟨yb, 0, none⟩) HB1.out (.int .i64 1)).setCell (p := ⟨yb, 1, none⟩) HB1.out (.int .i64 0)).setCell (p := ⟨yb, 2, none⟩) HB1.out (.slice none 0 0)).setCell (p := ⟨yb, 3, none⟩) HB1.out (.int .i64 0))⟩
                    · rw [if_neg h3] at hstep2
                      cases hstep2
                  · rw [if_neg hf1] at hstep2
                    have hfe : (fd == -1) = false := by simpa using hf1
                    by_cases h3 : x.mode = 3
                    · rw [if_pos h3] at hstep2
                      cases hstep2
                    · rw [if_neg h3] at hstep2
                      by_cases hrg : fd < 0 ∨ ((ruN S x.mode).1 : Int) < fd
                      · rw [if_pos hrg] at hstep2
                        cases hstep2
                      · rw [if_neg hrg] at hstep2
                        obtain rfl := Sum.inl.inj hstep2
                        have hm3 : x.mode < 3 := by have := okP_right HRX.out; omega
                        have hra := ruN_at HCK0.out hm3
                        have hnx := fun (W : World) (h : SlL W (.slice A9 n9 c9) (bcl x.last)) => swnext_ok W S x fd (.slice A9 n9 c9) h HCK0.out HRX.out h3 (by omega) (by rw [hra.1]; omega)
                        rw [hra.2] at hnx
                        obtain ⟨ok, hok⟩ : ∃ b, decide (fd ≤ ((ruN S x.mode).2 : Int)) = b := ⟨_, rfl⟩
                        dsimp only at HG2
                        rw [hok] at hnx HG2
                        obtain ⟨u9, hu9⟩ : ∃ u, goesS x ok = u := ⟨_, rfl⟩
                        rw [hu9] at hnx HG2
                        have HRU := hide (show RightS u9 from by rw [← hu9]; exact (goesS_ok HRX.out ok).2)
                        have HNX := hide hnx
                        unfold schV at HNX
                        clear hstep hstep2 hra hnx hok hu9 h3 hrg hm3 hf1
                        have s0 := (Blk.cell K_s.out 0).trans (rfl : _ = some (Value.int .i64 (S 0).1))
                        have s1 := (Blk.cell K_s.out 1).trans (rfl : _ = some (Value.int .i64 (S 0).2))
                        have s2 := (Blk.cell K_s.out 2).trans (rfl : _ = some (Value.int .i64 (S 1).1))
                        have s3 := (Blk.cell K_s.out 3).trans (rfl : _ = some (Value.int .i64 (S 1).2))
                        have s4 := (Blk.cell K_s.out 4).trans (rfl : _ = some (Value.int .i64 (S 2).1))
                        have s5 := (Blk.cell K_s.out 5).trans (rfl : _ = some (Value.int .i64 (S 2).2))
                        have b0 := (Blk.cell K_b.out 0).trans (rfl : _ = some (Value.int .i64 (x.mode : Int)))
                        have b1 := (Blk.cell K_b.out 1).trans (rfl : _ = some (Value.int .i64 (x.run : Int)))
                        have b2 := (Blk.cell K_b.out 2).trans (rfl : _ = some (Value.slice A9 n9 c9))
                        have b3 := (Blk.cell K_b.out 3).trans (rfl : _ = some (Value.int .i64 (x.rej : Int)))
                        go_wp2_with fail
                        refine (HNX.out _ HSL.out).mono ?_
                        rintro e w11 ⟨u, rfl, hst, hb⟩
                        obtain ⟨sl, rfl, hsl, hfr⟩ := hst
                        obtain ⟨A5, n5, c5, rfl⟩ := hsl.shape3
                        have hol := HOB.out.lt
                        have HAP := hide (show ApartV (.slice A5 n5 c5) (.slice Am nm cm) from fun g o n c h e => by have h1 := hfr g o n c h; have h2 := (hol g e).2; omega)
                        have HOB2 := hide (owns_below HOB.out hb)
                        have HSZ11 := hide (show w7.heap.size ≤ w11.heap.size by have := hb.size; have := HSZW.out; omega)
                        clear lc hol
                        clear s0 s1 s2 s3 s4 s5 b0 b1 b2 b3
                        replace K_s := hide (Blk.below K_s.out hb (Blk.lt K_s.out))
                        replace K_b := hide (Blk.below K_b.out hb (Blk.lt K_b.out))
                        replace HB := hide (HB.out.trans (hb.mono HB.out.size))
                        replace HSL := hide (HSL.out.below hb)
                        replace HW := hide (HW.out.trans (hb.mono HW.out.size))
                        clear hb
                        have HS5 := hide hsl
                        clear hsl hfr
                        have HO11 := hide HOB2.out.lt
                        have ho12 := HOB2.out.alloc (.cells #[.int .i64 (u9.mode : Int), .int .i64 (u9.run : Int), .slice A5 n5 c5, .int .i64 (u9.rej : Int)] 29)
                        go_upto_region 19 with (fail)
                        have hbs_t : w.heap.size ≤ w11.heap.size := HB.out.size
                        have lt_t_s : w.heap.size < w11.heap.size := Blk.lt K_s.out
                        have lt_t_b : yb < w11.heap.size := Blk.lt K_b.out
                        replace K_s := K_s.out.alloc (.cells #[.int .i64 (u9.mode : Int), .int .i64 (u9.run : Int), .slice A5 n5 c5, .int .i64 (u9.rej : Int)] 29)
                        replace K_b := K_b.out.alloc (.cells #[.int .i64 (u9.mode : Int), .int .i64 (u9.run : Int), .slice A5 n5 c5, .int .i64 (u9.rej : Int)] 29)
                        replace HB := HB.out.alloc HB.out.size (.cells #[.int .i64 (u9.mode : Int), .int .i64 (u9.run : Int), .slice A5 n5 c5, .int .i64 (u9.rej : Int)] 29)
                        have K_t := Blk.new w11 29 #[.int .i64 (u9.mode : Int), .int .i64 (u9.run : Int), .slice A5 n5 c5, .int .i64 (u9.rej : Int)]
                        replace HS5 := HS5.out.below ((Below.refl w11.heap.size w11).alloc (Nat.le_refl _) (.cells #[.int .i64 (u9.mode : Int), .int .i64 (u9.run : Int), .slice A5 n5 c5, .int .i64 (u9.rej : Int)] 29))
                        replace HW := HW.out.alloc HW.out.size (.cells #[.int .i64 (u9.mode : Int), .int .i64 (u9.run : Int), .slice A5 n5 c5, .int .i64 (u9.rej : Int)] 29)
                        generalize w11.alloc (.cells #[.int .i64 (u9.mode : Int), .int .i64 (u9.run : Int), .slice A5 n5 c5, .int .i64 (u9.rej : Int)] 29) = w12 at *
                        replace K_s := hide K_s
                        replace K_b := hide K_b
                        replace K_t := hide K_t
                        replace HB := hide HB
                        replace HS5 := hide HS5
                        replace HW := hide HW
                        have HOB3 := hide ho12
                        clear ho12
                        have HLT := hide (show yb < w11.heap.size from lt_t_b)
                        have b0 := (Blk.cell K_b.out 0).trans (rfl : _ = some (Value.int .i64 (x.mode : Int)))
                        have bf0 := Blk.frozen K_b.out 0
                        have b1 := (Blk.cell K_b.out 1).trans (rfl : _ = some (Value.int .i64 (x.run : Int)))
                        have bf1 := Blk.frozen K_b.out 1
                        have b2 := (Blk.cell K_b.out 2).trans (rfl : _ = some (Value.slice A9 n9 c9))
                        have bf2 := Blk.frozen K_b.out 2
                        have b3 := (Blk.cell K_b.out 3).trans (rfl : _ = some (Value.int .i64 (x.rej : Int)))
                        have bf3 := Blk.frozen K_b.out 3
                        have t0 := (Blk.cell K_t.out 0).trans (rfl : _ = some (Value.int .i64 (u9.mode : Int)))
                        have t1 := (Blk.cell K_t.out 1).trans (rfl : _ = some (Value.int .i64 (u9.run : Int)))
                        have t2 := (Blk.cell K_t.out 2).trans (rfl : _ = some (Value.slice A5 n5 c5))
                        have t3 := (Blk.cell K_t.out 3).trans (rfl : _ = some (Value.int .i64 (u9.rej : Int)))
                        go_upto_region 21 with (fail)
                        clear b0 bf0 b1 bf1 b2 bf2 b3 bf3 t0 t1 t2 t3
                        have hta := K_t.out.alloc (.cells #[.bool ok] 4)
                        have hba := K_b.out.alloc (.cells #[.bool ok] 4)
                        have td0 := (Blk.cell K_t.out 0).trans (rfl : _ = some (Value.int .i64 (u9.mode : Int)))
                        have ta0 := (Blk.cell hta 0).trans (rfl : _ = some (Value.int .i64 (u9.mode : Int)))
                        have td1 := (Blk.cell K_t.out 1).trans (rfl : _ = some (Value.int .i64 (u9.run : Int)))
                        have ta1 := (Blk.cell hta 1).trans (rfl : _ = some (Value.int .i64 (u9.run : Int)))
                        have td2 := (Blk.cell K_t.out 2).trans (rfl : _ = some (Value.slice A5 n5 c5))
                        have ta2 := (Blk.cell hta 2).trans (rfl : _ = some (Value.slice A5 n5 c5))
                        have td3 := (Blk.cell K_t.out 3).trans (rfl : _ = some (Value.int .i64 (u9.rej : Int)))
                        have ta3 := (Blk.cell hta 3).trans (rfl : _ = some (Value.int .i64 (u9.rej : Int)))
                        have HTA := hide hta
                        have HBAA := hide hba
                        clear hta hba
                        have hbs12 : w7.heap.size ≤ w12.heap.size := by have := HSZ11.out; have := Blk.lt K_t.out; omega
                        have HBS12 := hide hbs12
                        obtain ⟨RL, hRL⟩ : ∃ n, rs.length = n := ⟨_, rfl⟩
                        have hRLb : RL ≤ 160 := by have := HRL.out; have := HKN.out; have := HN80.out; omega
                        rw [hRL] at HOB3
                        have HRLE := hide hRL
                        clear hRL
                        go_region_law (refine step_append_lies _ (by rfl) _ _ 27 (by rfl) w7.heap.size 4 i0 (.bool false) 1 1 Tryz.underlying27 hi hz0 hz1 hz2 rfl (by decide) _ RL _ (by rfl) (HOB3.out.alloc _) ⟨w12.heap.size, 0, none⟩ 1 1 [.bool ok] (by rfl) rfl (World.news_of_block (cs := #[.bool ok]) (heap_alloc_new _ _)) (by intro u hu; simp at hu; subst hu; rfl) (by omega) (by unfold maxLen; omega) (by omega) (by simp; omega) (w12.heap.size + 1) (by simp) ?_; intro g9 cap9 w9 hown9 hgrow9 hat9 hlt9; have ht9 := (Blk.drew HTA.out).grown hgrow9 (fun e => by have := (HO11.out _ e.symm).2; omega); have hb9 := (Blk.drew HBAA.out).grown hgrow9 (fun e => by have := (HO11.out _ e.symm).1; have := HBK.out; omega); have tn0 := (Blk.cell ht9 0).trans (rfl : _ = some (Value.int .i64 (u9.mode : Int))); have tn1 := (Blk.cell ht9 1).trans (rfl : _ = some (Value.int .i64 (u9.run : Int))); have tn2 := (Blk.cell ht9 2).trans (rfl : _ = some (Value.slice A5 n5 c5)); have tn3 := (Blk.cell ht9 3).trans (rfl : _ = some (Value.int .i64 (u9.rej : Int))); have bn0 := (Blk.cell hb9 0).trans (rfl : _ = some (Value.int .i64 (x.mode : Int))); have bf0 := Blk.frozen hb9 0; have bn1 := (Blk.cell hb9 1).trans (rfl : _ = some (Value.int .i64 (x.run : Int))); have bf1 := Blk.frozen hb9 1; have bn2 := (Blk.cell hb9 2).trans (rfl : _ = some (Value.slice A9 n9 c9)); have bf2 := Blk.frozen hb9 2; have bn3 := (Blk.cell hb9 3).trans (rfl : _ = some (Value.int .i64 (x.rej : Int))); have bf3 := Blk.frozen hb9 3; have HT9 := hide ht9; have HB9 := hide hb9; have HG9 := hide hgrow9; have HO9 := hide hown9; have HL9 := hide hlt9; clear ht9 hb9 hgrow9 hown9 hat9 hlt9)
                        all_goals (
                          have kx : Blk _ yb 29 #[.int .i64 (u9.mode : Int), .int .i64 (u9.run : Int), .slice A5 n5 c5, .int .i64 (u9.rej : Int)] := ((((HB9.out.set_ 0 (.int .i64 (u9.mode : Int))).set_ 1 (.int .i64 (u9.run : Int))).set_ 2 (.slice A5 n5 c5)).set_ 3 (.int .i64 (u9.rej : Int)))
                          have hw := (((((((HW.out.alloc HW.out.size (.cells #[.bool ok] 4)).drew).grown HG9.out (by simp; have := HW.out.size; omega) (fun k e => by have := (HO11.out k e).1; have := HBK.out; have := HB1.out; omega)).setCell (p := ⟨yb, 0, none⟩) HB1.out (.int .i64 (u9.mode : Int))).setCell (p := ⟨yb, 1, none⟩) HB1.out (.int .i64 (u9.run : Int))).setCell (p := ⟨yb, 2, none⟩) HB1.out (.slice A5 n5 c5)).setCell (p := ⟨yb, 3, none⟩) HB1.out (.int .i64 (u9.rej : Int)))
                          have ow := (ownsRow_setCell_below (ownsRow_setCell_below (ownsRow_setCell_below (ownsRow_setCell_below HO9.out (a := ⟨yb, 0, none⟩) HBK.out (.int .i64 (u9.mode : Int))) (a := ⟨yb, 1, none⟩) HBK.out (.int .i64 (u9.run : Int))) (a := ⟨yb, 2, none⟩) HBK.out (.slice A5 n5 c5)) (a := ⟨yb, 3, none⟩) HBK.out (.int .i64 (u9.rej : Int)))
                          have sl := ((((HS5.out.below (nalcW w12 (.cells #[.bool ok] 4))).below (Below.refl _ _).drew).grownA HG9.out (fun g o n c h => HAP.out g o n c h)).own HB9.out (nobool4 _ _ _ _ _ _) (only_setCell (only_setCell (only_setCell (only_setCell (only_refl _ (some (yb))) (p := ⟨yb, 0, none⟩) (Or.inl rfl) (.int .i64 (u9.mode : Int))) (p := ⟨yb, 1, none⟩) (Or.inl rfl) (.int .i64 (u9.run : Int))) (p := ⟨yb, 2, none⟩) (Or.inl rfl) (.slice A5 n5 c5)) (p := ⟨yb, 3, none⟩) (Or.inl rfl) (.int .i64 (u9.rej : Int))))
                          rw [bcl_snoc] at ow
                          have KX := hide kx
                          have HWX := hide hw
                          have OWX := hide ow
                          have SLX := hide sl
                          clear kx hw ow sl
                          have hl9 : (rs ++ [ok]).length = RL + 1 := by rw [List.length_append, HRLE.out]; rfl
                          have HL9B := hide hl9
                          clear hl9
                          go_wp2_with fail
                          go_roundg (gk - 1)
                          case measure => have := HQ.out; omega
                          case rel => exact ⟨j + 1, u9, rs ++ [ok], ef + (ruN S x.mode).1, A5, n5, c5, by go_num, by have := HQ.out; omega, HG2.out, HRU.out, by rw [HL9B.out]; have := HRL.out; have := HRLE.out; omega, by rw [HL9B.out]; exact OWX.out, KX.out, SLX.out, by have h1 := HG9.out.size; have h2 := HBS12.out; simp at h1 ⊢; omega, HWX.out⟩
                        )
              · have hji : ¬ (j : Int) < (K : Int) := by omega
                have hjK : k + j = L.length := by rw [HN.out]; have := HQ.out; have := HKK.out; have := HKN.out; omega
                have hgc := HGC.out
                rw [hjK, List.drop_length] at hgc
                have hcl : (⟨x, rs, ef⟩ : Cr) = cl := Sum.inl.inj hgc
                have hxc : x = xc := by rw [← HXC.out, ← hcl]
                have hrc : rs = rsc := by rw [← HRSC.out, ← hcl]
                clear hjK hgc hcl
                subst hxc
                subst hrc
                have K_x := hide (Blk.below K_x4.out HW.out (Blk.lt K_x4.out))
                have HX2 := hide (HX4.out.below HW.out)
                have HL2 := hide (HL4.out.below HW.out)
                have HMR := hide (SlL.of_row (L := bcl rs) HOB.out (by rw [bcl_len]))
                have HXL := hide (show x.last.length ≤ 1000000 by have := right_len HRX.out; omega)
                have HRSL := hide (show rs.length ≤ 1000000 by have := HRL.out; have := HKN.out; have := HN80.out; have := HQ.out; have := HKK.out; omega)
                have HSY := hide (fun W => stateI_any W (x.mode : Int) (x.run : Int) (x.rej : Int) A2 n2 c2)
                have HSZ := hide (fun W => stateI_any W (x.mode : Int) (x.run : Int) (x.rej : Int) A9 n9 c9)
                have HSA := hide (fun (W : World) (h1 : SlL W (.slice A2 n2 c2) (bcl x.last)) (h2 : SlL W (.slice A9 n9 c9) (bcl x.last)) => sameY W A2 A9 n2 n9 c2 c9 x h1 h2 HXL.out)
                have HEQ := hide (fun (W : World) (h1 : SlL W (.slice B2 m2 d2) (bcl rs)) (h2 : SlL W (.slice Am nm cm) (bcl rs)) => eqB_any W _ _ rs h1 h2 HRSL.out)
                have x0 := (Blk.cell K_x.out 0).trans (rfl : _ = some (Value.int .i64 (x.mode : Int)))
                have x1 := (Blk.cell K_x.out 1).trans (rfl : _ = some (Value.int .i64 (x.run : Int)))
                have x2 := (Blk.cell K_x.out 2).trans (rfl : _ = some (Value.slice A2 n2 c2))
                have x3 := (Blk.cell K_x.out 3).trans (rfl : _ = some (Value.int .i64 (x.rej : Int)))
                have b0 := (Blk.cell K_b.out 0).trans (rfl : _ = some (Value.int .i64 (x.mode : Int)))
                have b1 := (Blk.cell K_b.out 1).trans (rfl : _ = some (Value.int .i64 (x.run : Int)))
                have b2 := (Blk.cell K_b.out 2).trans (rfl : _ = some (Value.slice A9 n9 c9))
                have b3 := (Blk.cell K_b.out 3).trans (rfl : _ = some (Value.int .i64 (x.rej : Int)))
                go_upto_region 23 with (fail)
                have SK : ∀ w', Below W1.heap.size W1 w' → Below W1.heap.size W1 w' ∧ w'.cell? ⟨w3.heap.size, 0, none⟩ = some (.int .i64 (x.mode : Int)) ∧ w'.cell? ⟨w3.heap.size, 1, none⟩ = some (.int .i64 (x.run : Int)) ∧ w'.cell? ⟨w3.heap.size, 2, none⟩ = some (.slice A2 n2 c2) ∧ w'.cell? ⟨w3.heap.size, 3, none⟩ = some (.int .i64 (x.rej : Int)) ∧ w'.cell? ⟨yb, 0, none⟩ = some (.int .i64 (x.mode : Int)) ∧ w'.cell? ⟨yb, 1, none⟩ = some (.int .i64 (x.run : Int)) ∧ w'.cell? ⟨yb, 2, none⟩ = some (.slice A9 n9 c9) ∧ w'.cell? ⟨yb, 3, none⟩ = some (.int .i64 (x.rej : Int)) := fun w' h => ⟨h, (bcell h _ _ (block_lt_of_cell x0)).trans x0, (bcell h _ _ (block_lt_of_cell x1)).trans x1, (bcell h _ _ (block_lt_of_cell x2)).trans x2, (bcell h _ _ (block_lt_of_cell x3)).trans x3, (bcell h _ _ (block_lt_of_cell b0)).trans b0, (bcell h _ _ (block_lt_of_cell b1)).trans b1, (bcell h _ _ (block_lt_of_cell b2)).trans b2, (bcell h _ _ (block_lt_of_cell b3)).trans b3⟩
                have SB : ∀ w', (Below W1.heap.size W1 w' ∧ w'.cell? ⟨w3.heap.size, 0, none⟩ = some (.int .i64 (x.mode : Int)) ∧ w'.cell? ⟨w3.heap.size, 1, none⟩ = some (.int .i64 (x.run : Int)) ∧ w'.cell? ⟨w3.heap.size, 2, none⟩ = some (.slice A2 n2 c2) ∧ w'.cell? ⟨w3.heap.size, 3, none⟩ = some (.int .i64 (x.rej : Int)) ∧ w'.cell? ⟨yb, 0, none⟩ = some (.int .i64 (x.mode : Int)) ∧ w'.cell? ⟨yb, 1, none⟩ = some (.int .i64 (x.run : Int)) ∧ w'.cell? ⟨yb, 2, none⟩ = some (.slice A9 n9 c9) ∧ w'.cell? ⟨yb, 3, none⟩ = some (.int .i64 (x.rej : Int))) → Below W1.heap.size W1 w' := fun w' h => h.1
                go_region_held3 (fun w' => Below W1.heap.size W1 w' ∧ w'.cell? ⟨w3.heap.size, 0, none⟩ = some (.int .i64 (x.mode : Int)) ∧ w'.cell? ⟨w3.heap.size, 1, none⟩ = some (.int .i64 (x.run : Int)) ∧ w'.cell? ⟨w3.heap.size, 2, none⟩ = some (.slice A2 n2 c2) ∧ w'.cell? ⟨w3.heap.size, 3, none⟩ = some (.int .i64 (x.rej : Int)) ∧ w'.cell? ⟨yb, 0, none⟩ = some (.int .i64 (x.mode : Int)) ∧ w'.cell? ⟨yb, 1, none⟩ = some (.int .i64 (x.run : Int)) ∧ w'.cell? ⟨yb, 2, none⟩ = some (.slice A9 n9 c9) ∧ w'.cell? ⟨yb, 3, none⟩ = some (.int .i64 (x.rej : Int))) (first | exact SK _ (Below.refl _ _).drew | exact SK _ (Below.refl _ _) | exact SK _ (bel_next (by assumption) (by assumption) (Nat.le_refl _)))
                  (first
                    | (go_at_call 18; refine (HSY.out _).mono ?_; rintro e wx ⟨rfl, hbW⟩)
                    | (go_at_call 18; refine (HSZ.out _).mono ?_; rintro e wx ⟨rfl, hbW⟩)
                    | (go_at_call 24; refine (HSA.out _ (HX2.out.below (SB _ (by assumption))) (HSL.out.below (SB _ (by assumption)))).mono ?_; rintro e wx ⟨rfl, hbW⟩)
                    | (go_at_call 31; refine (HEQ.out _ (HL2.out.below (SB _ (by assumption))) (HMR.out.below (SB _ (by assumption)))).mono ?_; rintro e wx ⟨rfl, hbW⟩)
                    | (go_at_call 15; refine (HAW.out _ (HS.out.below (HB.out.trans ((SB _ (by assumption)).mono HB.out.size)) (Nat.le_refl _))).mono ?_; rintro e wx ⟨rfl, hbW⟩))
                obtain ⟨hbx, _⟩ : Below W1.heap.size W1 _ ∧ _ := by assumption
                have HX := hide (HB.out.trans (hbx.mono HB.out.size))
                clear hbx
                go_wp2_with fail
                go_ret
                exact ⟨rfl, HX.out⟩
  · have i1 : (ck == 0) = false := by simpa using hc0
    have i2 : (ck != 0) = true := by simpa using hc0
    clear hc0
    unfold schV at HOW HRK ⊢
    have HB := allocs_below w [.cells #[.int .i64 (S 0).1, .int .i64 (S 0).2, .int .i64 (S 1).1, .int .i64 (S 1).2, .int .i64 (S 2).1, .int .i64 (S 2).2] 26]
    have K_s : Blk (allocs w [.cells #[.int .i64 (S 0).1, .int .i64 (S 0).2, .int .i64 (S 1).1, .int .i64 (S 1).2, .int .i64 (S 2).1, .int .i64 (S 2).2] 26]) (w.heap.size + 0) 26 #[.int .i64 (S 0).1, .int .i64 (S 0).2, .int .i64 (S 1).1, .int .i64 (S 1).2, .int .i64 (S 2).1, .int .i64 (S 2).2] := allocs_at w [.cells #[.int .i64 (S 0).1, .int .i64 (S 0).2, .int .i64 (S 1).1, .int .i64 (S 1).2, .int .i64 (S 2).1, .int .i64 (S 2).2] 26] 0 rfl
    unfold allocs at HB K_s
    simp only [List.foldl_cons, List.foldl_nil] at HB K_s
    rw [Nat.add_zero] at K_s
    go_enter Tryz.func10, Tryz.ntmps10
    go_upto_region 1 with (fail)
    generalize (w.alloc (.cells #[.int .i64 (S 0).1, .int .i64 (S 0).2, .int .i64 (S 1).1, .int .i64 (S 1).2, .int .i64 (S 2).1, .int .i64 (S 2).2] 26)) = w0 at *
    replace K_s := hide K_s
    replace HB := hide HB
    replace HV := hide (HV.out.below HB.out)
    have s0 := (Blk.cell K_s.out 0).trans (rfl : _ = some (Value.int .i64 (S 0).1))
    have s1 := (Blk.cell K_s.out 1).trans (rfl : _ = some (Value.int .i64 (S 0).2))
    have s2 := (Blk.cell K_s.out 2).trans (rfl : _ = some (Value.int .i64 (S 1).1))
    have s3 := (Blk.cell K_s.out 3).trans (rfl : _ = some (Value.int .i64 (S 1).2))
    have s4 := (Blk.cell K_s.out 4).trans (rfl : _ = some (Value.int .i64 (S 2).1))
    have s5 := (Blk.cell K_s.out 5).trans (rfl : _ = some (Value.int .i64 (S 2).2))
    go_wp2_with fail
    refine (HOW.out _).mono ?_
    rintro e w1 ⟨rfl, hb⟩
    clear s0 s1 s2 s3 s4 s5
    replace K_s := hide (Blk.below K_s.out hb (Blk.lt K_s.out))
    replace HB := hide (HB.out.trans (hb.mono HB.out.size))
    replace HV := hide (HV.out.below hb)
    clear hb
    go_wp2_with fail
    refine (HRK.out _).mono ?_
    rintro e w2 ⟨rfl, hb⟩
    replace K_s := hide (Blk.below K_s.out hb (Blk.lt K_s.out))
    replace HB := hide (HB.out.trans (hb.mono HB.out.size))
    replace HV := hide (HV.out.below hb)
    clear hb
    go_wp2_with fail
    refine (HAW.out _ (HS.out.below HB.out (Nat.le_refl _))).mono ?_
    rintro e w3 ⟨rfl, hb⟩
    replace K_s := hide (Blk.below K_s.out hb (Blk.lt K_s.out))
    replace HB := hide (HB.out.trans (hb.mono HB.out.size))
    replace HV := hide (HV.out.below hb)
    clear hb
    go_wp2_with fail
    go_ret
    exact ⟨rfl, HB.out⟩
end Go.Proofs.YthmmgjieppknkaaGreatDoor
