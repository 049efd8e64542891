/- Contracts and plain laws that the statements of this seat share (part Eoac). -/
import Derived.Test.YthmmgjieppknkaaGreatDoorEoaa
import Derived.Test.YthmmgjieppknkaaGreatDoorEoab
import Derived.Test.YthmmgjieppknkaaGreatDoorEraa
import Derived.Test.YthmmgjieppknkaaGreatDoorErac
import Derived.Test.YthmmgjieppknkaaGreatDoorErad
import Derived.Test.YthmmgjieppknkaaGreatDoorErae
import Derived.Test.YthmmgjieppknkaaGreatDoorKaa
import Derived.Test.YthmmgjieppknkaaGreatDoorKab
import Derived.Test.YthmmgjieppknkaaGreatDoorKac
import Derived.Test.YthmmgjieppknkaaGreatDoorKad
import Derived.Test.YthmmgjieppknkaaGreatDoorKag
import Derived.Test.YthmmgjieppknkaaGreatDoorKai
import Derived.Test.YthmmgjieppknkaaGreatDoorKak
import Derived.Test.YthmmgjieppknkaaGreatDoorKal
import Derived.Test.YthmmgjieppknkaaGreatDoorKam
import Derived.Test.YthmmgjieppknkaaGreatDoorKas
import Derived.Test.YthmmgjieppknkaaGreatDoorKat
import Derived.Test.YthmmgjieppknkaaGreatDoorKau
import Derived.Test.YthmmgjieppknkaaGreatDoorKax
import Derived.Maps.AppendAt
import Derived.Deep.RegionHeld3
import Derived.Laws.ResultCell
import Derived.ChangeKeysEq
import Derived.DeepKeys
import Derived.Test.YthmmgjieppknkaaGreatDoorChecked
import Derived.WalkKit
import Derived.WalkSpells
import Derived.WalkLawsBesides
import Derived.Lib.Hide
import Derived.IntWalk
import Derived.BigQuiet
import Derived.Deep.QuietTactic
import Derived.Deep.LoopGhost
import Derived.Deep.DeepCutAuto
import Derived.Deep.DeepFit
import Derived.Deep.Light
import Derived.Outline
import Derived.Laws.Rows
import Derived.Laws.NewBlocks
import Derived.Laws.CopyOwn
import Derived.Laws.Tables
import Derived.Lib.ItoaNum
import Derived.Lib.ItoaLen
import Derived.Lib.Atoi
import Derived.Lib.AtoiAll
import Derived.Lib.Strings
import Derived.Lib.SlTrimSet
import Derived.Deep.RegionWith
import Derived.Laws.OwnMore
import Derived.Deep.RegionLaw
import Derived.RegionTactic
import Derived.Lib.Builder
import Derived.Lib.AppendStr
import Derived.Laws.Externs
import Derived.WalkSmall
import Derived.Lib.AtoiErrMem
import Derived.Shelf.Strings.SlTrimAscii
import Derived.Shelf.Strings.Builder1
import Derived.Shelf.Strings.Trim
import Derived.Shelf.Small.Utf8
import Derived.Shelf.Small.Strs
import Derived.Shelf.Strings.BuilderF
import Derived.Shelf.Strings.BuilderK
import Derived.Shelf.Strconv.Atoi
import Derived.Shelf.Strconv.Itoa0
import Derived.Shelf.Strconv.Itoa1
import Derived.Shelf.LaysM
import Derived.Shelf.Strconv.Itoa2
import Derived.Shelf.Strconv.Itoa3
import Derived.Shelf.Strings.Search1
import Derived.Shelf.Strings.Search2
import Derived.Shelf.Strings.Cut
import Derived.Shelf.Strings.Shaped
import Derived.Shelf.Strings.Prefix
import Derived.Shelf.Strings.Runes
import Derived.Shelf.Strings.AsciiSet
import Derived.Shelf.Bits.Mul64
import Derived.Shelf.Unicode.DecodeSlow
import Derived.Test.YthmmgjieppknkaaGreatDoorProg
import Derived.Lib.IndexMore
import Derived.Lib.IndexBytes
import Derived.Lib.IndexLaws
import Derived.BigRegion
import Derived.Deep.OwnRows
import Derived.Lib.LazyBuf
import Derived.Laws.BytesArg
import Derived.RangeFuncSeq
import Derived.Shelf.Abstract
import Derived.Maps.OwnOps
import Derived.Deep.RegionHeld
import Derived.RangeFuncNested
import Derived.RangeFuncBox
import Derived.RangeFuncBound
import Derived.RangeFuncCalls
import Derived.RangeFuncLeaves
import Derived.Shelf.RegionOpen
import Derived.OwnWalkIn
import Derived.TacticsInMore
import Derived.LoopNIn
import Derived.LoopIn
import Derived.DeepKeys4
import Derived.Deep.AppendLies
import Derived.OwnWalk
import Derived.Maps.RangeWalk
import Derived.ProofKit
namespace Go.Proofs.YthmmgjieppknkaaGreatDoor
open Go.RowKit Go.Shelf Go.Maps MLab
theorem SlL.take {w : World} {A : Option Addr} {len c k : Nat} {L : List Value} (h : SlL w (.slice A len c) L) (hk : k ≤ len) : SlL w (.slice A k c) (L.take k) := by
  obtain ⟨A2, c2, hv, hcap, hc⟩ := h
  simp only [Value.slice.injEq] at hv
  obtain ⟨rfl, hl, rfl⟩ := hv
  have hlt : (L.take k).length = k := by rw [List.length_take]; omega
  refine ⟨A, c, by rw [hlt], by rw [hlt]; omega, fun h0 => ?_⟩
  rw [hlt] at h0
  obtain ⟨g, o, hA, hcell⟩ := hc (by omega)
  refine ⟨g, o, hA, fun p x hp => hcell p x ?_⟩
  rw [List.getElem?_take] at hp
  split at hp
  · exact hp
  · cases hp
theorem zcl_take (L : List Int) (k : Nat) : (zcl L).take k = zcl (L.take k) := by unfold zcl; rw [List.map_take]
theorem costs_two {S : Nat → Int × Int} {L : List Int} {n : Int} (hn : n ≠ -1) {c : Cr} (h : runG S (L ++ [n]) = .inl c) : ∃ d, runG S L = .inl d ∧ d.st.mode < 3 ∧ (c.eff : Int) = (d.eff : Int) + (S d.st.mode).1 ∧ d.eff ≤ 4294967296 ∧ (S d.st.mode).1 ≤ 1048576 ∧ 0 ≤ (S d.st.mode).1 := by
  obtain ⟨h0, hl, hg, _, _⟩ := runG_ok h
  obtain ⟨d, h1, h2, h3⟩ := goC_last hn hg
  have hlen : L.length ≤ 4096 := by rw [List.length_append] at hl; omega
  have hd : runG S L = .inl d := by unfold runG; rw [if_neg (by simp [h0]), if_neg (by omega)]; exact h1
  obtain ⟨_, _, _, hr, _⟩ := runG_ok hd
  have hm := okP_right hr
  have hm3 : d.st.mode < 3 := by omega
  obtain ⟨_, _, he⟩ := goC_ok (B := 1048576) (fun m => (ruN_le h0 m).1) (x := cr0) (swB_right (by omega)) h1
  have ha := (ruN_at h0 hm3).1
  have hb := (ruN_le h0 d.st.mode).1
  refine ⟨d, hd, hm3, by rw [ha]; omega, ?_, by rw [ha]; omega, by rw [ha]; omega⟩
  have h9 : L.length * 1048576 ≤ 4096 * 1048576 := Nat.mul_le_mul_right _ hlen
  have he2 : d.eff ≤ L.length * 1048576 := by simpa [cr0] using he
  exact Nat.le_trans he2 (Nat.le_trans h9 (by decide))
set_option maxRecDepth 100000 in
set_option maxHeartbeats 8000000 in
theorem costs55_any (w : World) (S : Nat → Int × Int) (v : Value) (L : List Int) (hv : SlL w v (zcl L)) (hs : Std w) :
    Calls Tryz.prog 9 #[schV S, v] w fun e w' => e = .returned (.bool true) ∧ Below w.heap.size w w' := by
  obtain ⟨A, c, rfl⟩ := hv.shape
  obtain ⟨N, hN⟩ : ∃ n, L.length = n := ⟨_, rfl⟩
  rw [zcl_len, hN] at hv ⊢
  have hcap : N ≤ c := by
    obtain ⟨A2, c2, h1, h2, _⟩ := hv
    simp only [Value.slice.injEq] at h1
    rw [zcl_len, hN] at h2
    omega
  have HV := hide hv
  have HS := hide hs
  have HN := hide hN
  have HCAP := hide hcap
  have HAW := hide (fun W hS => awake55_any W hS)
  have HOW := hide (fun W => own_any W S)
  have HRK := hide (fun W => rswck_any W S)
  obtain ⟨ck, hck⟩ : ∃ q, ckS S = q := ⟨_, rfl⟩
  rw [hck] at HRK
  have HCK := hide hck
  clear hv hs hN hcap hck
  by_cases hc0 : ck = 0
  · subst hc0
    by_cases h80 : 80 < N
    · have i1 : (80 : Int) < (N : Int) := by omega
      unfold schV at HOW HRK ⊢
      have HB := allocs_below w [.cells #[.int .i64 (S 0).1, .int .i64 (S 0).2, .int .i64 (S 1).1, .int .i64 (S 1).2, .int .i64 (S 2).1, .int .i64 (S 2).2] 26]
      have K_s : Blk (allocs w [.cells #[.int .i64 (S 0).1, .int .i64 (S 0).2, .int .i64 (S 1).1, .int .i64 (S 1).2, .int .i64 (S 2).1, .int .i64 (S 2).2] 26]) (w.heap.size + 0) 26 #[.int .i64 (S 0).1, .int .i64 (S 0).2, .int .i64 (S 1).1, .int .i64 (S 1).2, .int .i64 (S 2).1, .int .i64 (S 2).2] := allocs_at w [.cells #[.int .i64 (S 0).1, .int .i64 (S 0).2, .int .i64 (S 1).1, .int .i64 (S 1).2, .int .i64 (S 2).1, .int .i64 (S 2).2] 26] 0 rfl
      unfold allocs at HB K_s
      simp only [List.foldl_cons, List.foldl_nil] at HB K_s
      rw [Nat.add_zero] at K_s
      go_enter Tryz.func9, Tryz.ntmps9
      go_upto_region 1 with (fail)
      generalize (w.alloc (.cells #[.int .i64 (S 0).1, .int .i64 (S 0).2, .int .i64 (S 1).1, .int .i64 (S 1).2, .int .i64 (S 2).1, .int .i64 (S 2).2] 26)) = w0 at *
      replace K_s := hide K_s
      replace HB := hide HB
      replace HV := hide (HV.out.below HB.out)
      have s0 := (Blk.cell K_s.out 0).trans (rfl : _ = some (Value.int .i64 (S 0).1))
      have s1 := (Blk.cell K_s.out 1).trans (rfl : _ = some (Value.int .i64 (S 0).2))
      have s2 := (Blk.cell K_s.out 2).trans (rfl : _ = some (Value.int .i64 (S 1).1))
      have s3 := (Blk.cell K_s.out 3).trans (rfl : _ = some (Value.int .i64 (S 1).2))
      have s4 := (Blk.cell K_s.out 4).trans (rfl : _ = some (Value.int .i64 (S 2).1))
      have s5 := (Blk.cell K_s.out 5).trans (rfl : _ = some (Value.int .i64 (S 2).2))
      go_wp2_with fail
      refine (HOW.out _).mono ?_
      rintro e w1 ⟨rfl, hb⟩
      clear s0 s1 s2 s3 s4 s5
      replace K_s := hide (Blk.below K_s.out hb (Blk.lt K_s.out))
      replace HB := hide (HB.out.trans (hb.mono HB.out.size))
      replace HV := hide (HV.out.below hb)
      clear hb
      go_wp2_with fail
      refine (HRK.out _).mono ?_
      rintro e w2 ⟨rfl, hb⟩
      replace K_s := hide (Blk.below K_s.out hb (Blk.lt K_s.out))
      replace HB := hide (HB.out.trans (hb.mono HB.out.size))
      replace HV := hide (HV.out.below hb)
      clear hb
      go_wp2_with fail
      refine (HAW.out _ (HS.out.below HB.out (Nat.le_refl _))).mono ?_
      rintro e w3 ⟨rfl, hb⟩
      replace K_s := hide (Blk.below K_s.out hb (Blk.lt K_s.out))
      replace HB := hide (HB.out.trans (hb.mono HB.out.size))
      replace HV := hide (HV.out.below hb)
      clear hb
      go_wp2_with fail
      go_ret
      exact ⟨rfl, HB.out⟩
    · have i1 : ¬ (80 : Int) < (N : Int) := by omega
      by_cases h0 : N = 0
      · subst h0
        unfold schV at HOW HRK ⊢
        have HB := allocs_below w [.cells #[.int .i64 (S 0).1, .int .i64 (S 0).2, .int .i64 (S 1).1, .int .i64 (S 1).2, .int .i64 (S 2).1, .int .i64 (S 2).2] 26]
        have K_s : Blk (allocs w [.cells #[.int .i64 (S 0).1, .int .i64 (S 0).2, .int .i64 (S 1).1, .int .i64 (S 1).2, .int .i64 (S 2).1, .int .i64 (S 2).2] 26]) (w.heap.size + 0) 26 #[.int .i64 (S 0).1, .int .i64 (S 0).2, .int .i64 (S 1).1, .int .i64 (S 1).2, .int .i64 (S 2).1, .int .i64 (S 2).2] := allocs_at w [.cells #[.int .i64 (S 0).1, .int .i64 (S 0).2, .int .i64 (S 1).1, .int .i64 (S 1).2, .int .i64 (S 2).1, .int .i64 (S 2).2] 26] 0 rfl
        unfold allocs at HB K_s
        simp only [List.foldl_cons, List.foldl_nil] at HB K_s
        rw [Nat.add_zero] at K_s
        go_enter Tryz.func9, Tryz.ntmps9
        go_upto_region 1 with (fail)
        generalize (w.alloc (.cells #[.int .i64 (S 0).1, .int .i64 (S 0).2, .int .i64 (S 1).1, .int .i64 (S 1).2, .int .i64 (S 2).1, .int .i64 (S 2).2] 26)) = w0 at *
        replace K_s := hide K_s
        replace HB := hide HB
        replace HV := hide (HV.out.below HB.out)
        have s0 := (Blk.cell K_s.out 0).trans (rfl : _ = some (Value.int .i64 (S 0).1))
        have s1 := (Blk.cell K_s.out 1).trans (rfl : _ = some (Value.int .i64 (S 0).2))
        have s2 := (Blk.cell K_s.out 2).trans (rfl : _ = some (Value.int .i64 (S 1).1))
        have s3 := (Blk.cell K_s.out 3).trans (rfl : _ = some (Value.int .i64 (S 1).2))
        have s4 := (Blk.cell K_s.out 4).trans (rfl : _ = some (Value.int .i64 (S 2).1))
        have s5 := (Blk.cell K_s.out 5).trans (rfl : _ = some (Value.int .i64 (S 2).2))
        go_wp2_with fail
        refine (HOW.out _).mono ?_
        rintro e w1 ⟨rfl, hb⟩
        clear s0 s1 s2 s3 s4 s5
        replace K_s := hide (Blk.below K_s.out hb (Blk.lt K_s.out))
        replace HB := hide (HB.out.trans (hb.mono HB.out.size))
        replace HV := hide (HV.out.below hb)
        clear hb
        go_wp2_with fail
        refine (HRK.out _).mono ?_
        rintro e w2 ⟨rfl, hb⟩
        replace K_s := hide (Blk.below K_s.out hb (Blk.lt K_s.out))
        replace HB := hide (HB.out.trans (hb.mono HB.out.size))
        replace HV := hide (HV.out.below hb)
        clear hb
        go_wp2_with fail
        refine (HAW.out _ (HS.out.below HB.out (Nat.le_refl _))).mono ?_
        rintro e w3 ⟨rfl, hb⟩
        replace K_s := hide (Blk.below K_s.out hb (Blk.lt K_s.out))
        replace HB := hide (HB.out.trans (hb.mono HB.out.size))
        replace HV := hide (HV.out.below hb)
        clear hb
        go_wp2_with fail
        go_ret
        exact ⟨rfl, HB.out⟩
      · have i2 : ((N : Int) == 0) = false := by rw [beq_eq_false_iff_ne]; omega
        obtain ⟨M, hM⟩ : ∃ M, N = M + 1 := ⟨N - 1, by omega⟩
        have hsub : IntKind.i64.wrap ((N : Int) - 1) = (M : Int) := (IntWalk.i64_in _ (by omega)).trans (by omega)
        obtain ⟨g, og, rfl, hcell⟩ := (show ∃ g o, A = some ⟨g, o, none⟩ ∧ ∀ p x, (zcl L)[p]? = some x → w.cell? ⟨g, o + p, none⟩ = some x from by
  obtain ⟨A2, c2, h1, h2, h3⟩ := HV.out
  simp only [Value.slice.injEq] at h1
  obtain ⟨rfl, _, rfl⟩ := h1
  exact h3 (by rw [zcl_len, HN.out]; omega))
        obtain ⟨n, hn⟩ : ∃ n, L[M]? = some n := ⟨_, List.getElem?_eq_getElem (by rw [HN.out]; omega)⟩
        have hlc := hcell M _ (zcl_at hn)
        have HLC := hide (fun (W : World) (hb : Below w.heap.size w W) => (bcell hb _ _ (block_lt_of_cell hlc)).trans hlc)
        have hLe : L = L.take M ++ [n] := by have h := List.take_append_drop M L; rw [List.drop_eq_getElem_cons (by rw [HN.out]; omega), List.drop_eq_nil_of_le (by rw [HN.out]; omega)] at h; have h2 := (List.getElem?_eq_some_iff.1 hn).2; rw [h2] at h; exact h.symm
        have hV0 := (HV.out.take (k := M) (by omega))
        rw [zcl_take] at hV0
        have HV0 := hide hV0
        have HLE := hide hLe
        have hM0 : (0 : Int) ≤ (M : Int) := by omega
        have hMN : (M : Int) < (N : Int) := by omega
        have hMc : (M : Int) ≤ (c : Int) := by have := HCAP.out; omega
        have HMM1 := hide hM
        clear hcell hn hlc hLe hV0 hM
        by_cases hn1 : n = -1
        · have i3 : (n == -1) = true := by rw [hn1]; rfl
          clear hn1
          unfold schV at HOW HRK ⊢
          have HB := allocs_below w [.cells #[.int .i64 (S 0).1, .int .i64 (S 0).2, .int .i64 (S 1).1, .int .i64 (S 1).2, .int .i64 (S 2).1, .int .i64 (S 2).2] 26]
          have K_s : Blk (allocs w [.cells #[.int .i64 (S 0).1, .int .i64 (S 0).2, .int .i64 (S 1).1, .int .i64 (S 1).2, .int .i64 (S 2).1, .int .i64 (S 2).2] 26]) (w.heap.size + 0) 26 #[.int .i64 (S 0).1, .int .i64 (S 0).2, .int .i64 (S 1).1, .int .i64 (S 1).2, .int .i64 (S 2).1, .int .i64 (S 2).2] := allocs_at w [.cells #[.int .i64 (S 0).1, .int .i64 (S 0).2, .int .i64 (S 1).1, .int .i64 (S 1).2, .int .i64 (S 2).1, .int .i64 (S 2).2] 26] 0 rfl
          unfold allocs at HB K_s
          simp only [List.foldl_cons, List.foldl_nil] at HB K_s
          rw [Nat.add_zero] at K_s
          go_enter Tryz.func9, Tryz.ntmps9
          go_upto_region 1 with (fail)
          generalize (w.alloc (.cells #[.int .i64 (S 0).1, .int .i64 (S 0).2, .int .i64 (S 1).1, .int .i64 (S 1).2, .int .i64 (S 2).1, .int .i64 (S 2).2] 26)) = w0 at *
          replace K_s := hide K_s
          replace HB := hide HB
          replace HV := hide (HV.out.below HB.out)
          have s0 := (Blk.cell K_s.out 0).trans (rfl : _ = some (Value.int .i64 (S 0).1))
          have s1 := (Blk.cell K_s.out 1).trans (rfl : _ = some (Value.int .i64 (S 0).2))
          have s2 := (Blk.cell K_s.out 2).trans (rfl : _ = some (Value.int .i64 (S 1).1))
          have s3 := (Blk.cell K_s.out 3).trans (rfl : _ = some (Value.int .i64 (S 1).2))
          have s4 := (Blk.cell K_s.out 4).trans (rfl : _ = some (Value.int .i64 (S 2).1))
          have s5 := (Blk.cell K_s.out 5).trans (rfl : _ = some (Value.int .i64 (S 2).2))
          go_wp2_with fail
          refine (HOW.out _).mono ?_
          rintro e w1 ⟨rfl, hb⟩
          clear s0 s1 s2 s3 s4 s5
          replace K_s := hide (Blk.below K_s.out hb (Blk.lt K_s.out))
          replace HB := hide (HB.out.trans (hb.mono HB.out.size))
          replace HV := hide (HV.out.below hb)
          clear hb
          go_wp2_with fail
          refine (HRK.out _).mono ?_
          rintro e w2 ⟨rfl, hb⟩
          replace K_s := hide (Blk.below K_s.out hb (Blk.lt K_s.out))
          replace HB := hide (HB.out.trans (hb.mono HB.out.size))
          replace HV := hide (HV.out.below hb)
          clear hb
          have lc := HLC.out _ HB.out
          go_wp2_with fail
          refine (HAW.out _ (HS.out.below HB.out (Nat.le_refl _))).mono ?_
          rintro e w3 ⟨rfl, hb⟩
          replace K_s := hide (Blk.below K_s.out hb (Blk.lt K_s.out))
          replace HB := hide (HB.out.trans (hb.mono HB.out.size))
          replace HV := hide (HV.out.below hb)
          clear hb
          go_wp2_with fail
          go_ret
          exact ⟨rfl, HB.out⟩
        · have i3 : (n == -1) = false := by simpa using hn1
          cases hq : runG S L with
          | inl cl0 =>
            obtain ⟨cl, hq⟩ : ∃ c, runG S L = .inl c := ⟨_, hq⟩
            have hq2 := hq
            rw [HLE.out] at hq2
            obtain ⟨d, hd, hm3, hee, hde, hs1, hs2⟩ := costs_two hn1 hq2
            clear hq2
            have H1 := hide (fun (W : World) (h : SlL W (.slice (some ⟨g, og, none⟩) M c) (zcl (L.take M))) => swrun_ok W S _ _ d h hd)
            have H3 := hide (fun (W : World) (h : SlL W (.slice (some ⟨g, og, none⟩) M c) (zcl (L.take M))) => sweffort_ok W S _ _ d h hd)
            have H0 := hide (fun (W : World) (h : SlL W (.slice (some ⟨g, og, none⟩) N c) (zcl L)) => sweffort_ok W S _ _ cl h hq)
            obtain ⟨mo, hmo⟩ : ∃ m, d.st.mode = m := ⟨_, rfl⟩
            obtain ⟨sz, hsz⟩ : ∃ z, (S d.st.mode).1 = z := ⟨_, rfl⟩
            rw [hsz] at hee hs1 hs2
            have HSZ := hide hsz
            have HM3 := hide hm3
            obtain ⟨ef, hef⟩ : ∃ z, d.eff = z := ⟨_, rfl⟩
            obtain ⟨ea, hea⟩ : ∃ z, cl.eff = z := ⟨_, rfl⟩
            rw [hef] at hee hde H3
            rw [hea] at hee H0
            have hadd : IntKind.i64.wrap ((ef : Int) + sz) = (ea : Int) := (IntWalk.i64_in _ (by omega)).trans hee.symm
            have heq : ((ea : Int) == (ea : Int)) = true := beq_self_eq_true _
            clear hq hd hm3 hee hde hs1 hs2 hef hea hsz hn1 hmo
            obtain ⟨y, hy⟩ : ∃ y, d.st = y := ⟨_, rfl⟩
            obtain ⟨rs, hrs⟩ : ∃ y, d.res = y := ⟨_, rfl⟩
            rw [hy] at H1 HSZ HM3
            rw [hrs] at H1
            clear hy hrs
            unfold schV at HOW HRK H0 H1 H3 ⊢
            have HRU := hide (fun (W : World) (K : Blk W w.heap.size 26 #[.int .i64 (S 0).1, .int .i64 (S 0).2, .int .i64 (S 1).1, .int .i64 (S 1).2, .int .i64 (S 2).1, .int .i64 (S 2).2]) (m : Nat) (hm : m < 3) => (show W.cell? ⟨w.heap.size, m * 2, none⟩ = some (.int .i64 (S m).1) from by rcases (by omega : m = 0 ∨ m = 1 ∨ m = 2) with rfl | rfl | rfl <;> exact (Blk.cell K _).trans rfl))
            have HB := allocs_below w [.cells #[.int .i64 (S 0).1, .int .i64 (S 0).2, .int .i64 (S 1).1, .int .i64 (S 1).2, .int .i64 (S 2).1, .int .i64 (S 2).2] 26]
            have K_s : Blk (allocs w [.cells #[.int .i64 (S 0).1, .int .i64 (S 0).2, .int .i64 (S 1).1, .int .i64 (S 1).2, .int .i64 (S 2).1, .int .i64 (S 2).2] 26]) (w.heap.size + 0) 26 #[.int .i64 (S 0).1, .int .i64 (S 0).2, .int .i64 (S 1).1, .int .i64 (S 1).2, .int .i64 (S 2).1, .int .i64 (S 2).2] := allocs_at w [.cells #[.int .i64 (S 0).1, .int .i64 (S 0).2, .int .i64 (S 1).1, .int .i64 (S 1).2, .int .i64 (S 2).1, .int .i64 (S 2).2] 26] 0 rfl
            unfold allocs at HB K_s
            simp only [List.foldl_cons, List.foldl_nil] at HB K_s
            rw [Nat.add_zero] at K_s
            go_enter Tryz.func9, Tryz.ntmps9
            go_upto_region 1 with (fail)
            generalize (w.alloc (.cells #[.int .i64 (S 0).1, .int .i64 (S 0).2, .int .i64 (S 1).1, .int .i64 (S 1).2, .int .i64 (S 2).1, .int .i64 (S 2).2] 26)) = w0 at *
            replace K_s := hide K_s
            replace HB := hide HB
            replace HV := hide (HV.out.below HB.out)
            replace HV0 := hide (HV0.out.below HB.out)
            have s0 := (Blk.cell K_s.out 0).trans (rfl : _ = some (Value.int .i64 (S 0).1))
            have s1 := (Blk.cell K_s.out 1).trans (rfl : _ = some (Value.int .i64 (S 0).2))
            have s2 := (Blk.cell K_s.out 2).trans (rfl : _ = some (Value.int .i64 (S 1).1))
            have s3 := (Blk.cell K_s.out 3).trans (rfl : _ = some (Value.int .i64 (S 1).2))
            have s4 := (Blk.cell K_s.out 4).trans (rfl : _ = some (Value.int .i64 (S 2).1))
            have s5 := (Blk.cell K_s.out 5).trans (rfl : _ = some (Value.int .i64 (S 2).2))
            go_wp2_with fail
            refine (HOW.out _).mono ?_
            rintro e w1 ⟨rfl, hb⟩
            clear s0 s1 s2 s3 s4 s5
            replace K_s := hide (Blk.below K_s.out hb (Blk.lt K_s.out))
            replace HB := hide (HB.out.trans (hb.mono HB.out.size))
            replace HV := hide (HV.out.below hb)
            replace HV0 := hide (HV0.out.below hb)
            clear hb
            go_wp2_with fail
            refine (HRK.out _).mono ?_
            rintro e w2 ⟨rfl, hb⟩
            replace K_s := hide (Blk.below K_s.out hb (Blk.lt K_s.out))
            replace HB := hide (HB.out.trans (hb.mono HB.out.size))
            replace HV := hide (HV.out.below hb)
            replace HV0 := hide (HV0.out.below hb)
            clear hb
            have lc := HLC.out _ HB.out
            have s0 := (Blk.cell K_s.out 0).trans (rfl : _ = some (Value.int .i64 (S 0).1))
            have s1 := (Blk.cell K_s.out 1).trans (rfl : _ = some (Value.int .i64 (S 0).2))
            have s2 := (Blk.cell K_s.out 2).trans (rfl : _ = some (Value.int .i64 (S 1).1))
            have s3 := (Blk.cell K_s.out 3).trans (rfl : _ = some (Value.int .i64 (S 1).2))
            have s4 := (Blk.cell K_s.out 4).trans (rfl : _ = some (Value.int .i64 (S 2).1))
            have s5 := (Blk.cell K_s.out 5).trans (rfl : _ = some (Value.int .i64 (S 2).2))
            go_wp2_with fail
            refine (H0.out _ HV.out).mono ?_
            rintro e w3 ⟨rfl, hb⟩
            clear lc
            clear s0 s1 s2 s3 s4 s5
            replace K_s := hide (Blk.below K_s.out hb (Blk.lt K_s.out))
            replace HB := hide (HB.out.trans (hb.mono HB.out.size))
            replace HV := hide (HV.out.below hb)
            replace HV0 := hide (HV0.out.below hb)
            clear hb
            have s0 := (Blk.cell K_s.out 0).trans (rfl : _ = some (Value.int .i64 (S 0).1))
            have s1 := (Blk.cell K_s.out 1).trans (rfl : _ = some (Value.int .i64 (S 0).2))
            have s2 := (Blk.cell K_s.out 2).trans (rfl : _ = some (Value.int .i64 (S 1).1))
            have s3 := (Blk.cell K_s.out 3).trans (rfl : _ = some (Value.int .i64 (S 1).2))
            have s4 := (Blk.cell K_s.out 4).trans (rfl : _ = some (Value.int .i64 (S 2).1))
            have s5 := (Blk.cell K_s.out 5).trans (rfl : _ = some (Value.int .i64 (S 2).2))
            go_upto_region 4 with (fail)
            go_cut [7, 8, 10] (fun v1 v2 v4 wc => ∃ (b1 : Nat) (A3 : Option Addr) (n3 c3 : Nat), v1 = .pointer (some ⟨b1, 0, none⟩) ∧ v4 = .int .i64 0 ∧ Blk wc b1 29 #[.int .i64 (y.mode : Int), .int .i64 (y.run : Int), .slice A3 n3 c3, .int .i64 (y.rej : Int)] ∧ SlL wc (.slice A3 n3 c3) (bcl y.last) ∧ SlL wc v2 (bcl rs) ∧ Below w3.heap.size w3 wc)
            case first =>
              have SK : ∀ w', Below w3.heap.size w3 w' → Below w3.heap.size w3 w' ∧ w'.cell? ⟨w.heap.size, 0, none⟩ = some (.int .i64 (S 0).1) ∧ w'.cell? ⟨w.heap.size, 1, none⟩ = some (.int .i64 (S 0).2) ∧ w'.cell? ⟨w.heap.size, 2, none⟩ = some (.int .i64 (S 1).1) ∧ w'.cell? ⟨w.heap.size, 3, none⟩ = some (.int .i64 (S 1).2) ∧ w'.cell? ⟨w.heap.size, 4, none⟩ = some (.int .i64 (S 2).1) ∧ w'.cell? ⟨w.heap.size, 5, none⟩ = some (.int .i64 (S 2).2) := fun w' h => ⟨h, (bcell h _ _ (block_lt_of_cell s0)).trans s0, (bcell h _ _ (block_lt_of_cell s1)).trans s1, (bcell h _ _ (block_lt_of_cell s2)).trans s2, (bcell h _ _ (block_lt_of_cell s3)).trans s3, (bcell h _ _ (block_lt_of_cell s4)).trans s4, (bcell h _ _ (block_lt_of_cell s5)).trans s5⟩
              have SB : ∀ w', (Below w3.heap.size w3 w' ∧ w'.cell? ⟨w.heap.size, 0, none⟩ = some (.int .i64 (S 0).1) ∧ w'.cell? ⟨w.heap.size, 1, none⟩ = some (.int .i64 (S 0).2) ∧ w'.cell? ⟨w.heap.size, 2, none⟩ = some (.int .i64 (S 1).1) ∧ w'.cell? ⟨w.heap.size, 3, none⟩ = some (.int .i64 (S 1).2) ∧ w'.cell? ⟨w.heap.size, 4, none⟩ = some (.int .i64 (S 2).1) ∧ w'.cell? ⟨w.heap.size, 5, none⟩ = some (.int .i64 (S 2).2)) → Below w3.heap.size w3 w' := fun w' h => h.1
              go_region_held3 (fun w' => Below w3.heap.size w3 w' ∧ w'.cell? ⟨w.heap.size, 0, none⟩ = some (.int .i64 (S 0).1) ∧ w'.cell? ⟨w.heap.size, 1, none⟩ = some (.int .i64 (S 0).2) ∧ w'.cell? ⟨w.heap.size, 2, none⟩ = some (.int .i64 (S 1).1) ∧ w'.cell? ⟨w.heap.size, 3, none⟩ = some (.int .i64 (S 1).2) ∧ w'.cell? ⟨w.heap.size, 4, none⟩ = some (.int .i64 (S 2).1) ∧ w'.cell? ⟨w.heap.size, 5, none⟩ = some (.int .i64 (S 2).2)) (first | exact SK _ (Below.refl _ _).drew | exact SK _ (Below.refl _ _) | exact SK _ (bel_next (by assumption) (by assumption) (Nat.le_refl _)) | exact SK _ (nalcW w3 _).drew | exact SK _ (bel_alW2 hB3 _) | exact SK _ (bel_set4W hB3 _ (Nat.le_refl _) _ _ _ _))
                (first
                  | (go_at_call 27; refine (H1.out _ (HV0.out.below (SB _ (by assumption)))).mono ?_; rintro e wn ⟨⟨u3, r3, rfl, hst3, hrs3⟩, hbN⟩; have hB3 := bel_next (B := w3.heap.size) (w0 := w3) (by assumption) hbN (Nat.le_refl _); obtain ⟨sl3, rfl, hsl3⟩ := hst3; obtain ⟨A3, n3, c3, rfl⟩ := hsl3.shape3; obtain ⟨B3, m3, d3, rfl⟩ := hrs3.shape3; (first | (have hN3 := Blk.below (g := w3.heap.size) (Blk.new w3.drew 29 #[.int .i64 0, .int .i64 0, .slice none 0 0, .int .i64 0]) hbN (by simp)) | skip); (try have z0 := (Blk.cell hN3 0).trans (rfl : _ = some (Value.int .i64 0))); (try have zf0 := Blk.frozen hN3 0); (try have z1 := (Blk.cell hN3 1).trans (rfl : _ = some (Value.int .i64 0))); (try have zf1 := Blk.frozen hN3 1); (try have z2 := (Blk.cell hN3 2).trans (rfl : _ = some (Value.slice none 0 0))); (try have zf2 := Blk.frozen hN3 2); (try have z3 := (Blk.cell hN3 3).trans (rfl : _ = some (Value.int .i64 0))); (try have zf3 := Blk.frozen hN3 3)))
              all_goals
                go_wp2_with fail
                go_meet
                case rel =>
                  first
                    | exact ⟨_, A3, n3, c3, rfl, rfl, Blk.new wn _ _, hsl3.below (nalcW wn _), hrs3.below (nalcW wn _), SB _ (by assumption)⟩
                    | exact ⟨_, A3, n3, c3, rfl, rfl, ((((hN3.set_ 0 (.int .i64 (y.mode : Int))).set_ 1 (.int .i64 (y.run : Int))).set_ 2 (.slice A3 n3 c3)).set_ 3 (.int .i64 (y.rej : Int))), hsl3.own hN3 (nobool4 0 0 0 none 0 0) (only_setCell (only_setCell (only_setCell (only_setCell (only_refl _ (some (_))) (p := ⟨_, 0, none⟩) (Or.inl rfl) (.int .i64 (y.mode : Int))) (p := ⟨_, 1, none⟩) (Or.inl rfl) (.int .i64 (y.run : Int))) (p := ⟨_, 2, none⟩) (Or.inl rfl) (.slice A3 n3 c3)) (p := ⟨_, 3, none⟩) (Or.inl rfl) (.int .i64 (y.rej : Int))), hrs3.own hN3 (nobool4 0 0 0 none 0 0) (only_setCell (only_setCell (only_setCell (only_setCell (only_refl _ (some (_))) (p := ⟨_, 0, none⟩) (Or.inl rfl) (.int .i64 (y.mode : Int))) (p := ⟨_, 1, none⟩) (Or.inl rfl) (.int .i64 (y.run : Int))) (p := ⟨_, 2, none⟩) (Or.inl rfl) (.slice A3 n3 c3)) (p := ⟨_, 3, none⟩) (Or.inl rfl) (.int .i64 (y.rej : Int))), SB _ (by assumption)⟩
            case rest =>
              obtain ⟨b1, A3, n3, c3, rfl, rfl, hkb, -, -, hb⟩ := hcut
              clear s0 s1 s2 s3 s4 s5
              replace K_s := hide (Blk.below K_s.out hb (Blk.lt K_s.out))
              replace HB := hide (HB.out.trans (hb.mono HB.out.size))
              replace HV := hide (HV.out.below hb)
              replace HV0 := hide (HV0.out.below hb)
              clear hb
              have K_b := hide hkb
              clear hkb
              have s0 := (Blk.cell K_s.out 0).trans (rfl : _ = some (Value.int .i64 (S 0).1))
              have s1 := (Blk.cell K_s.out 1).trans (rfl : _ = some (Value.int .i64 (S 0).2))
              have s2 := (Blk.cell K_s.out 2).trans (rfl : _ = some (Value.int .i64 (S 1).1))
              have s3 := (Blk.cell K_s.out 3).trans (rfl : _ = some (Value.int .i64 (S 1).2))
              have s4 := (Blk.cell K_s.out 4).trans (rfl : _ = some (Value.int .i64 (S 2).1))
              have s5 := (Blk.cell K_s.out 5).trans (rfl : _ = some (Value.int .i64 (S 2).2))
              go_upto_region 7 with (fail)
              have SK : ∀ w', Below wc.heap.size wc w' → Below wc.heap.size wc w' ∧ w'.cell? ⟨w.heap.size, 0, none⟩ = some (.int .i64 (S 0).1) ∧ w'.cell? ⟨w.heap.size, 1, none⟩ = some (.int .i64 (S 0).2) ∧ w'.cell? ⟨w.heap.size, 2, none⟩ = some (.int .i64 (S 1).1) ∧ w'.cell? ⟨w.heap.size, 3, none⟩ = some (.int .i64 (S 1).2) ∧ w'.cell? ⟨w.heap.size, 4, none⟩ = some (.int .i64 (S 2).1) ∧ w'.cell? ⟨w.heap.size, 5, none⟩ = some (.int .i64 (S 2).2) := fun w' h => ⟨h, (bcell h _ _ (block_lt_of_cell s0)).trans s0, (bcell h _ _ (block_lt_of_cell s1)).trans s1, (bcell h _ _ (block_lt_of_cell s2)).trans s2, (bcell h _ _ (block_lt_of_cell s3)).trans s3, (bcell h _ _ (block_lt_of_cell s4)).trans s4, (bcell h _ _ (block_lt_of_cell s5)).trans s5⟩
              have SB : ∀ w', (Below wc.heap.size wc w' ∧ w'.cell? ⟨w.heap.size, 0, none⟩ = some (.int .i64 (S 0).1) ∧ w'.cell? ⟨w.heap.size, 1, none⟩ = some (.int .i64 (S 0).2) ∧ w'.cell? ⟨w.heap.size, 2, none⟩ = some (.int .i64 (S 1).1) ∧ w'.cell? ⟨w.heap.size, 3, none⟩ = some (.int .i64 (S 1).2) ∧ w'.cell? ⟨w.heap.size, 4, none⟩ = some (.int .i64 (S 2).1) ∧ w'.cell? ⟨w.heap.size, 5, none⟩ = some (.int .i64 (S 2).2)) → Below wc.heap.size wc w' := fun w' h => h.1
              go_region_held3 (fun w' => Below wc.heap.size wc w' ∧ w'.cell? ⟨w.heap.size, 0, none⟩ = some (.int .i64 (S 0).1) ∧ w'.cell? ⟨w.heap.size, 1, none⟩ = some (.int .i64 (S 0).2) ∧ w'.cell? ⟨w.heap.size, 2, none⟩ = some (.int .i64 (S 1).1) ∧ w'.cell? ⟨w.heap.size, 3, none⟩ = some (.int .i64 (S 1).2) ∧ w'.cell? ⟨w.heap.size, 4, none⟩ = some (.int .i64 (S 2).1) ∧ w'.cell? ⟨w.heap.size, 5, none⟩ = some (.int .i64 (S 2).2)) (first | exact SK _ (Below.refl _ _).drew | exact SK _ (Below.refl _ _) | exact SK _ (bel_next (by assumption) (by assumption) (Nat.le_refl _)))
                (first
                  | (go_at_call 29; refine (H3.out _ (HV0.out.below (SB _ (by assumption)))).mono ?_; rintro e we ⟨rfl, hbW⟩))
              have hb9 : Below wc.heap.size wc we := SB _ (by assumption)
              clear s0 s1 s2 s3 s4 s5
              replace K_s := hide (Blk.below K_s.out hb9 (Blk.lt K_s.out))
              replace K_b := hide (Blk.below K_b.out hb9 (Blk.lt K_b.out))
              replace HB := hide (HB.out.trans (hb9.mono HB.out.size))
              replace HV := hide (HV.out.below hb9)
              replace HV0 := hide (HV0.out.below hb9)
              clear hb9
              clear SB SK
              have hmd := HRU.out _ K_s.out y.mode HM3.out
              rw [HSZ.out] at hmd
              have hy0 : ¬ (y.mode : Int) < 0 := by omega
              have hy2 : ¬ (2 : Int) < (y.mode : Int) := by have := HM3.out; omega
              have hy1 : (0 : Int) ≤ (y.mode : Int) := by omega
              have hy3 : (y.mode : Int) < 3 := by have := HM3.out; omega
              have b0 := (Blk.cell K_b.out 0).trans (rfl : _ = some (Value.int .i64 (y.mode : Int)))
              have b1 := (Blk.cell K_b.out 1).trans (rfl : _ = some (Value.int .i64 (y.run : Int)))
              have b2 := (Blk.cell K_b.out 2).trans (rfl : _ = some (Value.slice A3 n3 c3))
              have b3 := (Blk.cell K_b.out 3).trans (rfl : _ = some (Value.int .i64 (y.rej : Int)))
              go_wp2_with fail
              refine (HAW.out _ (HS.out.below HB.out (Nat.le_refl _))).mono ?_
              rintro e w5 ⟨rfl, hb⟩
              clear hmd
              clear b0 b1 b2 b3
              replace K_s := hide (Blk.below K_s.out hb (Blk.lt K_s.out))
              replace K_b := hide (Blk.below K_b.out hb (Blk.lt K_b.out))
              replace HB := hide (HB.out.trans (hb.mono HB.out.size))
              replace HV := hide (HV.out.below hb)
              replace HV0 := hide (HV0.out.below hb)
              clear hb
              go_wp2_with fail
              go_ret
              exact ⟨rfl, HB.out⟩
          | inr e0 =>
            obtain ⟨i0, z⟩ := e0
            have hz0 : z ≠ 0 := runG_ne hq
            have hz1 : (z == 0) = false := by simpa using hz0
            have hz2 : (z != 0) = true := by simpa using hz0
            obtain ⟨y, rs, at_, z0, n0, hyl, hrl, h1, -, h3, -⟩ := run_both S (.slice (some ⟨g, og, none⟩) M c) (L.take M)
            have H1 := hide h1
            unfold RuP at H1
            have H0 := hide (fun (W : World) (h : SlL W (.slice (some ⟨g, og, none⟩) N c) (zcl L)) => sweffort_err W S _ _ i0 z h hq hz0)
            clear h1 h3 hq hz0 hyl hrl hn1
            unfold schV at HOW HRK H0 H1 ⊢
            have HB := allocs_below w [.cells #[.int .i64 (S 0).1, .int .i64 (S 0).2, .int .i64 (S 1).1, .int .i64 (S 1).2, .int .i64 (S 2).1, .int .i64 (S 2).2] 26]
            have K_s : Blk (allocs w [.cells #[.int .i64 (S 0).1, .int .i64 (S 0).2, .int .i64 (S 1).1, .int .i64 (S 1).2, .int .i64 (S 2).1, .int .i64 (S 2).2] 26]) (w.heap.size + 0) 26 #[.int .i64 (S 0).1, .int .i64 (S 0).2, .int .i64 (S 1).1, .int .i64 (S 1).2, .int .i64 (S 2).1, .int .i64 (S 2).2] := allocs_at w [.cells #[.int .i64 (S 0).1, .int .i64 (S 0).2, .int .i64 (S 1).1, .int .i64 (S 1).2, .int .i64 (S 2).1, .int .i64 (S 2).2] 26] 0 rfl
            unfold allocs at HB K_s
            simp only [List.foldl_cons, List.foldl_nil] at HB K_s
            rw [Nat.add_zero] at K_s
            go_enter Tryz.func9, Tryz.ntmps9
            go_upto_region 1 with (fail)
            generalize (w.alloc (.cells #[.int .i64 (S 0).1, .int .i64 (S 0).2, .int .i64 (S 1).1, .int .i64 (S 1).2, .int .i64 (S 2).1, .int .i64 (S 2).2] 26)) = w0 at *
            replace K_s := hide K_s
            replace HB := hide HB
            replace HV := hide (HV.out.below HB.out)
            replace HV0 := hide (HV0.out.below HB.out)
            have s0 := (Blk.cell K_s.out 0).trans (rfl : _ = some (Value.int .i64 (S 0).1))
            have s1 := (Blk.cell K_s.out 1).trans (rfl : _ = some (Value.int .i64 (S 0).2))
            have s2 := (Blk.cell K_s.out 2).trans (rfl : _ = some (Value.int .i64 (S 1).1))
            have s3 := (Blk.cell K_s.out 3).trans (rfl : _ = some (Value.int .i64 (S 1).2))
            have s4 := (Blk.cell K_s.out 4).trans (rfl : _ = some (Value.int .i64 (S 2).1))
            have s5 := (Blk.cell K_s.out 5).trans (rfl : _ = some (Value.int .i64 (S 2).2))
            go_wp2_with fail
            refine (HOW.out _).mono ?_
            rintro e w1 ⟨rfl, hb⟩
            clear s0 s1 s2 s3 s4 s5
            replace K_s := hide (Blk.below K_s.out hb (Blk.lt K_s.out))
            replace HB := hide (HB.out.trans (hb.mono HB.out.size))
            replace HV := hide (HV.out.below hb)
            replace HV0 := hide (HV0.out.below hb)
            clear hb
            go_wp2_with fail
            refine (HRK.out _).mono ?_
            rintro e w2 ⟨rfl, hb⟩
            replace K_s := hide (Blk.below K_s.out hb (Blk.lt K_s.out))
            replace HB := hide (HB.out.trans (hb.mono HB.out.size))
            replace HV := hide (HV.out.below hb)
            replace HV0 := hide (HV0.out.below hb)
            clear hb
            have lc := HLC.out _ HB.out
            have s0 := (Blk.cell K_s.out 0).trans (rfl : _ = some (Value.int .i64 (S 0).1))
            have s1 := (Blk.cell K_s.out 1).trans (rfl : _ = some (Value.int .i64 (S 0).2))
            have s2 := (Blk.cell K_s.out 2).trans (rfl : _ = some (Value.int .i64 (S 1).1))
            have s3 := (Blk.cell K_s.out 3).trans (rfl : _ = some (Value.int .i64 (S 1).2))
            have s4 := (Blk.cell K_s.out 4).trans (rfl : _ = some (Value.int .i64 (S 2).1))
            have s5 := (Blk.cell K_s.out 5).trans (rfl : _ = some (Value.int .i64 (S 2).2))
            go_wp2_with fail
            refine (H0.out _ HV.out).mono ?_
            rintro e w3 ⟨rfl, hb⟩
            clear lc
            clear s0 s1 s2 s3 s4 s5
            replace K_s := hide (Blk.below K_s.out hb (Blk.lt K_s.out))
            replace HB := hide (HB.out.trans (hb.mono HB.out.size))
            replace HV := hide (HV.out.below hb)
            replace HV0 := hide (HV0.out.below hb)
            clear hb
            have s0 := (Blk.cell K_s.out 0).trans (rfl : _ = some (Value.int .i64 (S 0).1))
            have s1 := (Blk.cell K_s.out 1).trans (rfl : _ = some (Value.int .i64 (S 0).2))
            have s2 := (Blk.cell K_s.out 2).trans (rfl : _ = some (Value.int .i64 (S 1).1))
            have s3 := (Blk.cell K_s.out 3).trans (rfl : _ = some (Value.int .i64 (S 1).2))
            have s4 := (Blk.cell K_s.out 4).trans (rfl : _ = some (Value.int .i64 (S 2).1))
            have s5 := (Blk.cell K_s.out 5).trans (rfl : _ = some (Value.int .i64 (S 2).2))
            go_upto_region 4 with (fail)
            go_cut [7, 8, 10] (fun v1 v2 v4 wc => ∃ (b1 : Nat) (A3 : Option Addr) (n3 c3 : Nat), v1 = .pointer (some ⟨b1, 0, none⟩) ∧ v4 = .int .i64 z0 ∧ Blk wc b1 29 #[.int .i64 (y.mode : Int), .int .i64 (y.run : Int), .slice A3 n3 c3, .int .i64 (y.rej : Int)] ∧ SlL wc (.slice A3 n3 c3) (bcl y.last) ∧ SlL wc v2 (bcl rs) ∧ Below w3.heap.size w3 wc)
            case first =>
              have SK : ∀ w', Below w3.heap.size w3 w' → Below w3.heap.size w3 w' ∧ w'.cell? ⟨w.heap.size, 0, none⟩ = some (.int .i64 (S 0).1) ∧ w'.cell? ⟨w.heap.size, 1, none⟩ = some (.int .i64 (S 0).2) ∧ w'.cell? ⟨w.heap.size, 2, none⟩ = some (.int .i64 (S 1).1) ∧ w'.cell? ⟨w.heap.size, 3, none⟩ = some (.int .i64 (S 1).2) ∧ w'.cell? ⟨w.heap.size, 4, none⟩ = some (.int .i64 (S 2).1) ∧ w'.cell? ⟨w.heap.size, 5, none⟩ = some (.int .i64 (S 2).2) := fun w' h => ⟨h, (bcell h _ _ (block_lt_of_cell s0)).trans s0, (bcell h _ _ (block_lt_of_cell s1)).trans s1, (bcell h _ _ (block_lt_of_cell s2)).trans s2, (bcell h _ _ (block_lt_of_cell s3)).trans s3, (bcell h _ _ (block_lt_of_cell s4)).trans s4, (bcell h _ _ (block_lt_of_cell s5)).trans s5⟩
              have SB : ∀ w', (Below w3.heap.size w3 w' ∧ w'.cell? ⟨w.heap.size, 0, none⟩ = some (.int .i64 (S 0).1) ∧ w'.cell? ⟨w.heap.size, 1, none⟩ = some (.int .i64 (S 0).2) ∧ w'.cell? ⟨w.heap.size, 2, none⟩ = some (.int .i64 (S 1).1) ∧ w'.cell? ⟨w.heap.size, 3, none⟩ = some (.int .i64 (S 1).2) ∧ w'.cell? ⟨w.heap.size, 4, none⟩ = some (.int .i64 (S 2).1) ∧ w'.cell? ⟨w.heap.size, 5, none⟩ = some (.int .i64 (S 2).2)) → Below w3.heap.size w3 w' := fun w' h => h.1
              go_region_held3 (fun w' => Below w3.heap.size w3 w' ∧ w'.cell? ⟨w.heap.size, 0, none⟩ = some (.int .i64 (S 0).1) ∧ w'.cell? ⟨w.heap.size, 1, none⟩ = some (.int .i64 (S 0).2) ∧ w'.cell? ⟨w.heap.size, 2, none⟩ = some (.int .i64 (S 1).1) ∧ w'.cell? ⟨w.heap.size, 3, none⟩ = some (.int .i64 (S 1).2) ∧ w'.cell? ⟨w.heap.size, 4, none⟩ = some (.int .i64 (S 2).1) ∧ w'.cell? ⟨w.heap.size, 5, none⟩ = some (.int .i64 (S 2).2)) (first | exact SK _ (Below.refl _ _).drew | exact SK _ (Below.refl _ _) | exact SK _ (bel_next (by assumption) (by assumption) (Nat.le_refl _)) | exact SK _ (nalcW w3 _).drew | exact SK _ (bel_alW2 hB3 _) | exact SK _ (bel_set4W hB3 _ (Nat.le_refl _) _ _ _ _))
                (first
                  | (go_at_call 27; refine (H1.out _ (HV0.out.below (SB _ (by assumption)))).mono ?_; rintro e wn ⟨⟨u3, r3, rfl, hst3, hrs3⟩, hbN⟩; have hB3 := bel_next (B := w3.heap.size) (w0 := w3) (by assumption) hbN (Nat.le_refl _); obtain ⟨sl3, rfl, hsl3⟩ := hst3; obtain ⟨A3, n3, c3, rfl⟩ := hsl3.shape3; obtain ⟨B3, m3, d3, rfl⟩ := hrs3.shape3; (first | (have hN3 := Blk.below (g := w3.heap.size) (Blk.new w3.drew 29 #[.int .i64 0, .int .i64 0, .slice none 0 0, .int .i64 0]) hbN (by simp)) | skip); (try have z0 := (Blk.cell hN3 0).trans (rfl : _ = some (Value.int .i64 0))); (try have zf0 := Blk.frozen hN3 0); (try have z1 := (Blk.cell hN3 1).trans (rfl : _ = some (Value.int .i64 0))); (try have zf1 := Blk.frozen hN3 1); (try have z2 := (Blk.cell hN3 2).trans (rfl : _ = some (Value.slice none 0 0))); (try have zf2 := Blk.frozen hN3 2); (try have z3 := (Blk.cell hN3 3).trans (rfl : _ = some (Value.int .i64 0))); (try have zf3 := Blk.frozen hN3 3)))
              all_goals
                go_wp2_with fail
                go_meet
                case rel =>
                  first
                    | exact ⟨_, A3, n3, c3, rfl, rfl, Blk.new wn _ _, hsl3.below (nalcW wn _), hrs3.below (nalcW wn _), SB _ (by assumption)⟩
                    | exact ⟨_, A3, n3, c3, rfl, rfl, ((((hN3.set_ 0 (.int .i64 (y.mode : Int))).set_ 1 (.int .i64 (y.run : Int))).set_ 2 (.slice A3 n3 c3)).set_ 3 (.int .i64 (y.rej : Int))), hsl3.own hN3 (nobool4 0 0 0 none 0 0) (only_setCell (only_setCell (only_setCell (only_setCell (only_refl _ (some (_))) (p := ⟨_, 0, none⟩) (Or.inl rfl) (.int .i64 (y.mode : Int))) (p := ⟨_, 1, none⟩) (Or.inl rfl) (.int .i64 (y.run : Int))) (p := ⟨_, 2, none⟩) (Or.inl rfl) (.slice A3 n3 c3)) (p := ⟨_, 3, none⟩) (Or.inl rfl) (.int .i64 (y.rej : Int))), hrs3.own hN3 (nobool4 0 0 0 none 0 0) (only_setCell (only_setCell (only_setCell (only_setCell (only_refl _ (some (_))) (p := ⟨_, 0, none⟩) (Or.inl rfl) (.int .i64 (y.mode : Int))) (p := ⟨_, 1, none⟩) (Or.inl rfl) (.int .i64 (y.run : Int))) (p := ⟨_, 2, none⟩) (Or.inl rfl) (.slice A3 n3 c3)) (p := ⟨_, 3, none⟩) (Or.inl rfl) (.int .i64 (y.rej : Int))), SB _ (by assumption)⟩
            case rest =>
              obtain ⟨b1, A3, n3, c3, rfl, rfl, hkb, -, -, hb⟩ := hcut
              clear s0 s1 s2 s3 s4 s5
              replace K_s := hide (Blk.below K_s.out hb (Blk.lt K_s.out))
              replace HB := hide (HB.out.trans (hb.mono HB.out.size))
              replace HV := hide (HV.out.below hb)
              replace HV0 := hide (HV0.out.below hb)
              clear hb
              have K_b := hide hkb
              clear hkb
              go_wp2_with fail
              refine (HAW.out _ (HS.out.below HB.out (Nat.le_refl _))).mono ?_
              rintro e w5 ⟨rfl, hb⟩
              replace K_s := hide (Blk.below K_s.out hb (Blk.lt K_s.out))
              replace K_b := hide (Blk.below K_b.out hb (Blk.lt K_b.out))
              replace HB := hide (HB.out.trans (hb.mono HB.out.size))
              replace HV := hide (HV.out.below hb)
              replace HV0 := hide (HV0.out.below hb)
              clear hb
              go_wp2_with fail
              go_ret
              exact ⟨rfl, HB.out⟩
  · have i1 : (ck == 0) = false := by simpa using hc0
    have i2 : (ck != 0) = true := by simpa using hc0
    clear hc0
    unfold schV at HOW HRK ⊢
    have HB := allocs_below w [.cells #[.int .i64 (S 0).1, .int .i64 (S 0).2, .int .i64 (S 1).1, .int .i64 (S 1).2, .int .i64 (S 2).1, .int .i64 (S 2).2] 26]
    have K_s : Blk (allocs w [.cells #[.int .i64 (S 0).1, .int .i64 (S 0).2, .int .i64 (S 1).1, .int .i64 (S 1).2, .int .i64 (S 2).1, .int .i64 (S 2).2] 26]) (w.heap.size + 0) 26 #[.int .i64 (S 0).1, .int .i64 (S 0).2, .int .i64 (S 1).1, .int .i64 (S 1).2, .int .i64 (S 2).1, .int .i64 (S 2).2] := allocs_at w [.cells #[.int .i64 (S 0).1, .int .i64 (S 0).2, .int .i64 (S 1).1, .int .i64 (S 1).2, .int .i64 (S 2).1, .int .i64 (S 2).2] 26] 0 rfl
    unfold allocs at HB K_s
    simp only [List.foldl_cons, List.foldl_nil] at HB K_s
    rw [Nat.add_zero] at K_s
    go_enter Tryz.func9, Tryz.ntmps9
    go_upto_region 1 with (fail)
    generalize (w.alloc (.cells #[.int .i64 (S 0).1, .int .i64 (S 0).2, .int .i64 (S 1).1, .int .i64 (S 1).2, .int .i64 (S 2).1, .int .i64 (S 2).2] 26)) = w0 at *
    replace K_s := hide K_s
    replace HB := hide HB
    replace HV := hide (HV.out.below HB.out)
    have s0 := (Blk.cell K_s.out 0).trans (rfl : _ = some (Value.int .i64 (S 0).1))
    have s1 := (Blk.cell K_s.out 1).trans (rfl : _ = some (Value.int .i64 (S 0).2))
    have s2 := (Blk.cell K_s.out 2).trans (rfl : _ = some (Value.int .i64 (S 1).1))
    have s3 := (Blk.cell K_s.out 3).trans (rfl : _ = some (Value.int .i64 (S 1).2))
    have s4 := (Blk.cell K_s.out 4).trans (rfl : _ = some (Value.int .i64 (S 2).1))
    have s5 := (Blk.cell K_s.out 5).trans (rfl : _ = some (Value.int .i64 (S 2).2))
    go_wp2_with fail
    refine (HOW.out _).mono ?_
    rintro e w1 ⟨rfl, hb⟩
    clear s0 s1 s2 s3 s4 s5
    replace K_s := hide (Blk.below K_s.out hb (Blk.lt K_s.out))
    replace HB := hide (HB.out.trans (hb.mono HB.out.size))
    replace HV := hide (HV.out.below hb)
    clear hb
    go_wp2_with fail
    refine (HRK.out _).mono ?_
    rintro e w2 ⟨rfl, hb⟩
    replace K_s := hide (Blk.below K_s.out hb (Blk.lt K_s.out))
    replace HB := hide (HB.out.trans (hb.mono HB.out.size))
    replace HV := hide (HV.out.below hb)
    clear hb
    go_wp2_with fail
    refine (HAW.out _ (HS.out.below HB.out (Nat.le_refl _))).mono ?_
    rintro e w3 ⟨rfl, hb⟩
    replace K_s := hide (Blk.below K_s.out hb (Blk.lt K_s.out))
    replace HB := hide (HB.out.trans (hb.mono HB.out.size))
    replace HV := hide (HV.out.below hb)
    clear hb
    go_wp2_with fail
    go_ret
    exact ⟨rfl, HB.out⟩
end Go.Proofs.YthmmgjieppknkaaGreatDoor
