/- Contracts and plain laws that the statements of this seat share (part Emad). -/
import Derived.Test.YthmmgjieppknkaaGreatDoorEmaa
import Derived.Test.YthmmgjieppknkaaGreatDoorEmab
import Derived.Test.YthmmgjieppknkaaGreatDoorEmac
import Derived.Test.YthmmgjieppknkaaGreatDoorKaa
import Derived.Test.YthmmgjieppknkaaGreatDoorKab
import Derived.Test.YthmmgjieppknkaaGreatDoorKac
import Derived.Test.YthmmgjieppknkaaGreatDoorKad
import Derived.Test.YthmmgjieppknkaaGreatDoorKag
import Derived.Test.YthmmgjieppknkaaGreatDoorKai
import Derived.Test.YthmmgjieppknkaaGreatDoorKak
import Derived.Test.YthmmgjieppknkaaGreatDoorKal
import Derived.Test.YthmmgjieppknkaaGreatDoorKam
import Derived.Test.YthmmgjieppknkaaGreatDoorKas
import Derived.Test.YthmmgjieppknkaaGreatDoorKat
import Derived.Test.YthmmgjieppknkaaGreatDoorKau
import Derived.Test.YthmmgjieppknkaaGreatDoorKax
import Derived.Laws.CopyOwn
import Derived.Maps.AppendAt
import Derived.Deep.RegionHeld3
import Derived.Laws.ResultCell
import Derived.ChangeKeysEq
import Derived.DeepKeys
import Derived.Test.YthmmgjieppknkaaGreatDoorChecked
import Derived.WalkKit
import Derived.WalkSpells
import Derived.WalkLawsBesides
import Derived.Lib.Hide
import Derived.IntWalk
import Derived.BigQuiet
import Derived.Deep.QuietTactic
import Derived.Deep.LoopGhost
import Derived.Deep.DeepCutAuto
import Derived.Deep.DeepFit
import Derived.Deep.Light
import Derived.Outline
import Derived.Laws.Rows
import Derived.Laws.NewBlocks
import Derived.Laws.Tables
import Derived.Lib.ItoaNum
import Derived.Lib.ItoaLen
import Derived.Lib.Atoi
import Derived.Lib.AtoiAll
import Derived.Lib.Strings
import Derived.Lib.SlTrimSet
import Derived.Lib.IndexMore
import Derived.Lib.IndexBytes
import Derived.Lib.IndexLaws
import Derived.Deep.RegionWith
import Derived.Deep.RegionLaw
import Derived.RegionTactic
import Derived.Lib.Builder
import Derived.Lib.AppendStr
import Derived.Laws.Externs
import Derived.WalkSmall
import Derived.Lib.AtoiErrMem
import Derived.Shelf.Strings.SlTrimAscii
import Derived.Shelf.Strings.Builder1
import Derived.Shelf.Strings.Trim
import Derived.Shelf.Small.Utf8
import Derived.Shelf.Small.Strs
import Derived.Shelf.Strings.BuilderF
import Derived.Shelf.Strings.BuilderK
import Derived.Shelf.Strconv.Atoi
import Derived.Shelf.Strconv.Itoa0
import Derived.Shelf.Strconv.Itoa1
import Derived.Shelf.LaysM
import Derived.Shelf.Strconv.Itoa2
import Derived.Shelf.Strconv.Itoa3
import Derived.Shelf.Strings.Search1
import Derived.Shelf.Strings.Search2
import Derived.Shelf.Strings.Cut
import Derived.Shelf.Strings.Shaped
import Derived.Shelf.Strings.Prefix
import Derived.Shelf.Strings.Runes
import Derived.Shelf.Strings.AsciiSet
import Derived.Shelf.Bits.Mul64
import Derived.Shelf.Unicode.DecodeSlow
import Derived.Test.YthmmgjieppknkaaGreatDoorProg
import Derived.ProofKit
import Derived.Laws.OwnMore
import Derived.BigRegion
import Derived.Deep.OwnRows
import Derived.Lib.LazyBuf
import Derived.Laws.BytesArg
import Derived.RangeFuncSeq
import Derived.Shelf.Abstract
import Derived.Maps.OwnOps
import Derived.Deep.RegionHeld
import Derived.RangeFuncNested
import Derived.RangeFuncBox
import Derived.RangeFuncBound
import Derived.RangeFuncCalls
import Derived.RangeFuncLeaves
import Derived.Shelf.RegionOpen
import Derived.OwnWalkIn
import Derived.TacticsInMore
import Derived.LoopNIn
import Derived.LoopIn
import Derived.DeepKeys4
import Derived.Deep.AppendLies
import Derived.Maps.RangeWalk
namespace Go.Proofs.YthmmgjieppknkaaGreatDoor
open Go.RowKit Go.Shelf Go.Maps MLab
set_option maxRecDepth 100000 in
set_option maxHeartbeats 4000000 in
theorem mul64_small (w : World) (n : Nat) (hn : n ≤ 10) : Calls Tryz.prog 120 #[.int .u64 1, .int .u64 (n : Int)] w fun e w' => e = .returned (.tuple #[.int .u64 0, .int .u64 (n : Int)]) ∧ w' = w := by
  rcases (by omega : n = 0 ∨ n = 1 ∨ n = 2 ∨ n = 3 ∨ n = 4 ∨ n = 5 ∨ n = 6 ∨ n = 7 ∨ n = 8 ∨ n = 9 ∨ n = 10) with rfl | rfl | rfl | rfl | rfl | rfl | rfl | rfl | rfl | rfl | rfl
  all_goals
    go_enter Tryz.func120, Tryz.ntmps120
    go_wp2_with fail
    go_ret2
    exact ⟨rfl, rfl⟩
set_option maxRecDepth 100000 in
set_option maxHeartbeats 4000000 in
theorem mul_small (w : World) (n : Nat) (hn : n ≤ 10) : Calls Tryz.prog 76 #[.int .u64 1, .int .u64 (n : Int)] w fun e w' => e = .returned (.tuple #[.int .u64 0, .int .u64 (n : Int)]) ∧ w' = w := by
  have HM := hide (mul64_small w n hn)
  have hw1 : IntKind.u64.wrap (n : Int) = (n : Int) := by
    rcases (by omega : n = 0 ∨ n = 1 ∨ n = 2 ∨ n = 3 ∨ n = 4 ∨ n = 5 ∨ n = 6 ∨ n = 7 ∨ n = 8 ∨ n = 9 ∨ n = 10) with rfl | rfl | rfl | rfl | rfl | rfl | rfl | rfl | rfl | rfl | rfl <;> rfl
  clear hn
  go_enter Tryz.func76, Tryz.ntmps76
  go_wp2_with fail
  refine HM.out.mono ?_
  rintro e w1 ⟨rfl, rfl⟩
  go_wp2_with fail
  go_ret2
  exact ⟨rfl, rfl⟩
def rwc (n m : Nat) (a : Int) : List Value := List.replicate m (.int .i64 a) ++ List.replicate (n - m) (.int .i64 0)
theorem rwc_len {n m : Nat} {a : Int} (h : m ≤ n) : (rwc n m a).length = n := by unfold rwc; rw [List.length_append, List.length_replicate, List.length_replicate]; omega
theorem rwc_splice {n m t : Nat} {a : Int} (h : m + t ≤ n) : splice (rwc n m a) m (List.replicate t (.int .i64 a)) = rwc n (m + t) a := by
  unfold splice rwc
  rw [List.length_replicate, List.take_left' (by rw [List.length_replicate]), List.drop_append, List.drop_eq_nil_of_le (by rw [List.length_replicate]; omega), List.nil_append, List.length_replicate, List.drop_replicate, ← List.append_assoc, List.replicate_append_replicate]
  congr 2
  omega
theorem rwc_full {n : Nat} {a : Int} : rwc n n a = zcl (List.replicate n a) := by unfold rwc zcl; rw [Nat.sub_self, List.replicate_zero, List.append_nil, List.map_replicate]
theorem rwc_at {n m j : Nat} {a : Int} (h : j < m) : (rwc n m a)[j]? = some (.int .i64 a) := by
  unfold rwc
  rw [List.getElem?_append_left (by rw [List.length_replicate]; exact h), List.getElem?_replicate, if_pos h]
theorem made_ints (n : Nat) : madeCells #[Value.int .i64 0] n = (rwc n 0 0).toArray := by
  apply Array.ext'
  rw [toList_madeCells_one]
  unfold rwc
  simp
set_option maxRecDepth 100000 in
set_option maxHeartbeats 4000000 in
theorem repeat_any (w : World) (g0 : Nat) (a : Int) (n : Nat) (hn : n ≤ 10) (hx : w.cell? ⟨g0, 0, none⟩ = some (.int .i64 a)) :
    Calls Tryz.prog 41 #[.slice (some ⟨g0, 0, none⟩) 1 1, .int .i64 (n : Int)] w fun e w' => (∃ u, e = .returned u ∧ w'.ownsRow w.heap.size 3 1 u n (zcl (List.replicate n a))) ∧ Below w.heap.size w w' := by
  have hmk := run_make_row' (P := Tryz.prog) 54 3 (.int .i64 0) 8 Tryz.underlying54 info_int rfl .i64 .i64 n (by omega) (by omega)
  rw [made_ints] at hmk
  obtain ⟨i0, hi, hz0, hz1, hz2⟩ := info_parts info_int
  have hinf : (Tryz.prog.info? 3).map (·.size) = some 1 := by rw [hi]; show some i0.size = some 1; rw [hz1]
  have HMU := hide (mul_small w n hn)
  have hw1 : IntKind.u64.wrap (n : Int) = (n : Int) := by
    rcases (by omega : n = 0 ∨ n = 1 ∨ n = 2 ∨ n = 3 ∨ n = 4 ∨ n = 5 ∨ n = 6 ∨ n = 7 ∨ n = 8 ∨ n = 9 ∨ n = 10) with rfl | rfl | rfl | rfl | rfl | rfl | rfl | rfl | rfl | rfl | rfl <;> rfl
  have hw2 : IntKind.i64.wrap (n : Int) = (n : Int) := IntWalk.i64_in _ (by omega)
  have hn0 : ¬ (n : Int) < 0 := by omega
  have hnm : ¬ (9223372036854775807 : Int) < (n : Int) := by omega
  have HX := hide hx
  have hgl := block_lt_of_cell hx
  have HGL := hide hgl
  have HN := hide hn
  clear hx hgl hn
  go_enter Tryz.func41, Tryz.ntmps41
  go_wp2_with fail
  refine HMU.out.mono ?_
  rintro e w1 ⟨rfl, rfl⟩
  have hb0 := (Below.refl w1.heap.size w1).alloc (Nat.le_refl _) (.cells (rwc n 0 0).toArray 3)
  have hc0 : (w1.alloc (.cells (rwc n 0 0).toArray 3)).heap[w1.heap.size]? = some (.cells (rwc n 0 0).toArray 3 (0, 0)) := heap_alloc_new _ _
  go_upto_region 7 with (fail)
  have hx1 : (w1.alloc (.cells (rwc n 0 0).toArray 3)).cell? ⟨g0, 0, none⟩ = some (.int .i64 a) := (bcell hb0 _ _ HGL.out).trans HX.out
  generalize w1.alloc (.cells (rwc n 0 0).toArray 3) = w2 at hb0 hc0 hx1 ⊢
  have HB0 := hide hb0
  have HC0 := hide hc0
  have HX1 := hide hx1
  clear hb0 hc0 hx1
  have hr0 : rwc n 0 0 = rwc n 0 a := rfl
  have hsrc : ∀ j v, (List.replicate (min 1 n) (.int .i64 a))[j]? = some v → w2.cell? ((⟨g0, 0, none⟩ : Addr).add j) = some v := fun j v hj => by
    obtain ⟨h1, h2⟩ := List.getElem?_eq_some_iff.1 hj
    rw [List.length_replicate] at h1
    rw [List.getElem_replicate] at h2
    obtain rfl : j = 0 := by omega
    rw [← h2, show (⟨g0, 0, none⟩ : Addr).add 0 = ⟨g0, 0, none⟩ from by unfold Addr.add; split <;> simp_all]
    exact HX1.out
  have HSRC := hide hsrc
  clear hsrc
  go_wp2_with (refine wpList_copy_splice rfl _ _ 54 54 rfl 3 Tryz.underlying54 hinf (some ⟨w1.heap.size, 0, none⟩) (some ⟨g0, 0, none⟩) n n 1 1 rfl rfl w1.heap.size 0 (rwc n 0 0) 3 HC0.out (List.replicate (min 1 n) (.int .i64 a)) List.length_replicate (fun _ => ⟨rfl, _, rfl, HSRC.out⟩) (by rw [rwc_len (Nat.zero_le _), List.length_replicate]; omega) (by intro u hu; rw [(List.mem_replicate.1 hu).2]; rfl) w1.heap.size w1 HB0.out (Nat.le_refl _) ?_; intro w3 hc3 hb3)
  (try go_frame)
  have hc4 := hc3.out
  rw [hr0, rwc_splice (by omega), Nat.zero_add] at hc4
  have HC3 := hide hc4
  have HB3 := hide hb3
  clear hr0 hc3 hc4 hb3
  try rw [List.length_replicate]
  go_wp2_with fail
  go_loopg [8] (n - min 1 n) (fun z iv wr => ∃ m : Nat, iv = .int .i64 (m : Int) ∧ z = n - m ∧ m ≤ n ∧ min 1 n ≤ m ∧ wr.heap[w1.heap.size]? = some (.cells (rwc n m a).toArray 3 (0, 0)) ∧ Below w1.heap.size w1 wr)
  case atStart => exact ⟨min 1 n, rfl, rfl, by omega, Nat.le_refl _, HC3.out, HB3.out⟩
  case round =>
    clear HC3 HB3
    obtain ⟨m, rfl, hq, hmn, hm1, hc, hb⟩ := hrel
    obtain ⟨W1, rfl⟩ : ∃ W, W = wr := ⟨_, rfl⟩
    have HQ := hide hq
    have HMN := hide hmn
    have HM1 := hide hm1
    have HC := hide hc
    have HB := hide hb
    clear hq hmn hm1 hc hb
    by_cases hlt : m < n
    · have hmi : (m : Int) < (n : Int) := by omega
      have hm0 : (0 : Int) ≤ (m : Int) := by omega
      have hml : (m : Int) ≤ (n : Int) := by omega
      have hne : ¬ n = m := by omega
      obtain ⟨t, ht⟩ : ∃ t, min m (n - m) = t := ⟨_, rfl⟩
      have HT := hide ht
      have ht1 : 1 ≤ t := by have := HM1.out; omega
      have htn : m + t ≤ n := by omega
      have HT1 := hide ht1
      have HTN := hide htn
      have hwm : IntKind.i64.wrap ((m : Int) + (t : Int)) = ((m + t : Nat) : Int) := (IntWalk.i64_in _ (by have := HN.out; omega)).trans (by omega)
      obtain ⟨mt, hmt⟩ : ∃ x, m + t = x := ⟨_, rfl⟩
      rw [hmt] at hwm
      have HMT := hide hmt
      have hsrc : ∀ j v, (List.replicate t (Value.int .i64 a))[j]? = some v → W1.cell? ((⟨w1.heap.size, 0, none⟩ : Addr).add j) = some v := fun j v hj => by
        obtain ⟨h1, h2⟩ := List.getElem?_eq_some_iff.1 hj
        rw [List.length_replicate] at h1
        rw [List.getElem_replicate] at h2
        rw [← h2, show (⟨w1.heap.size, 0, none⟩ : Addr).add j = ⟨w1.heap.size, j, none⟩ from by unfold Addr.add; split <;> simp_all, cell_of_row W1 _ j _ _ _ HC.out]
        rw [← Array.getElem?_toList]
        exact rwc_at (by omega)
      have HSRC2 := hide hsrc
      clear hsrc ht ht1 htn hmt
      go_upto_region 9 with (fail)
      go_region_law (refine step_copy_splice rfl (.tmp 41) (.tmp 44) 54 54 rfl 3 Tryz.underlying54 hinf (some ⟨w1.heap.size, m, none⟩) (some ⟨w1.heap.size, 0, none⟩) (n - m) (n - m) m n (by simp [Act.eval, Act.put]) (by simp [Act.eval, Act.put]) w1.heap.size m (rwc n m a) 3 HC.out (List.replicate t (.int .i64 a)) (List.length_replicate.trans HT.out.symm) (fun _ => ⟨rfl, _, rfl, HSRC2.out⟩) (by rw [rwc_len HMN.out, List.length_replicate]; exact HTN.out) (by intro u hu; rw [(List.mem_replicate.1 hu).2]; rfl) w1.heap.size w1 (HB.out.drew) (Nat.le_refl _) ?_; intro w9 hx9 hb9; rw [List.length_replicate])
      all_goals (
        have hc9 := hx9.out
        rw [rwc_splice HTN.out, HMT.out] at hc9
        have HC9 := hide hc9
        have HB9 := hide hb9
        clear hx9 hc9 hb9
        go_wp2_with fail
        go_roundg (n - mt)
        case measure => have := HQ.out; have := HMT.out; have := HT1.out; omega
        case rel => exact ⟨mt, by go_num, rfl, by have := HMT.out; have := HTN.out; omega, by have := HMT.out; have := HM1.out; omega, HC9.out, HB9.out⟩
      )
    · have hmi : ¬ (m : Int) < (n : Int) := by omega
      have hmn : m = n := by have := HMN.out; omega
      subst hmn
      go_wp2_with fail
      go_ret
      exact ⟨⟨_, rfl, by rw [← rwc_full, rwc_len (Nat.le_refl _), Nat.mul_one], .inr ⟨_, m, _, rfl, Nat.le_refl _, HC.out, Nat.le_refl _, by have := HN.out; unfold maxLen; omega, by simp [rwc_len (Nat.le_refl m)], by rw [Nat.mul_one, ← rwc_full]; show (rwc m m a).take m = rwc m m a; exact List.take_of_length_le (by rw [rwc_len (Nat.le_refl _)]; exact Nat.le_refl _)⟩⟩, HB.out⟩
end Go.Proofs.YthmmgjieppknkaaGreatDoor

namespace Go.Proofs.YthmmgjieppknkaaGreatDoor
open Go.RowKit Go.Shelf Go.Maps MLab
theorem zcl_one (l : List Int) : ∀ x ∈ zcl l, x.oneCell' = true := fun x hx => by
  obtain ⟨b, _, rfl⟩ := List.mem_map.1 hx; rfl
set_option maxRecDepth 100000 in
set_option maxHeartbeats 2000000 in
theorem cloneI_any (w : World) (v : Value) (l : List Int) (hv : SlL w v (zcl l)) (hl : l.length ≤ 1000000) :
    Calls Tryz.prog 42 #[v] w fun e w' => (∃ u, e = .returned u ∧ w'.ownsRow w.heap.size 3 1 u l.length (zcl l)) ∧ Below w.heap.size w w' := by
  have q22 : ∀ (w : World) (a : Option Addr) (n c n' c' : Nat), (binOp .eql 54 (.slice a n c) (.slice none n' c')).run Tryz.prog w = .ok (.bool a.isNone) w := fun w a n c n' c' => Lib.run_eql_slice_nil w _ _ a n c n' c' Tryz.underlying54
  obtain ⟨i0, hi, hz0, hz1, hz2⟩ := info_parts info_int
  have HV := hide hv
  obtain ⟨A, c, rfl⟩ := hv.shape
  rw [zcl_len] at hv ⊢
  cases A with
  | none =>
    have h0 : l.length = 0 := by
      obtain ⟨A2, c2, h1, _, h3⟩ := hv
      simp only [Value.slice.injEq] at h1
      obtain ⟨rfl, _, _⟩ := h1
      rcases Nat.eq_zero_or_pos l.length with h | h
      · exact h
      · obtain ⟨g, o, h4, _⟩ := h3 (by rw [zcl_len]; exact h)
        cases h4
    have hl0 : l = [] := List.eq_nil_of_length_eq_zero h0
    subst hl0
    clear hv h0 HV hl
    go_enter Tryz.func42, Tryz.ntmps42
    go_wp2_with fail
    go_ret
    exact ⟨⟨_, rfl, World.ownsRow_nil _ _ _ _⟩, Below.refl _ _⟩
  | some a =>
    obtain ⟨N, hN⟩ : ∃ N, l.length = N := ⟨_, rfl⟩
    have HN := hide hN
    rw [hN] at hl ⊢
    have HVS := hide (show SlL w (.slice (some a) N c) (zcl l) from by rw [← hN]; exact hv)
    clear hv hN HV
    go_enter Tryz.func42, Tryz.ntmps42
    go_wp2_with (at_builtin; refine wpList_append_sl _ rfl _ _ 54 rfl w.heap.size 3 i0 (.int .i64 0) 8 Tryz.underlying54 hi hz0 hz1 hz2 rfl _ 0 [] rfl (own_empty w _) _ (zcl l) rfl (HVS.out.below ((Below.refl _ _).alloc (Nat.le_refl _) _)) (zcl_one l) ?la1 ?la2 ?la3 ?_)
    try (case la1 => (rw [zcl_len, HN.out]; simp [maxLen]; omega))
    try (case la2 => (rw [zcl_len, HN.out]; omega))
    try (case la3 => (simp))
    intro v6 w6 ho6 hg6
    rw [zcl_len, HN.out] at ho6
    try rw [List.nil_append] at ho6
    try rw [Nat.zero_add] at ho6
    have hb6 : Below w.heap.size w w6 := ((Below.refl _ _).alloc (Nat.le_refl _) _).grown hg6 (by simp) (fun k e => ((own_empty w 3).lt k e).1)
    have HB6 := hide hb6
    have HO6 := hide ho6
    clear hg6 hb6 ho6
    go_wp2_with fail
    go_ret
    exact ⟨⟨_, rfl, HO6.out⟩, HB6.out⟩
theorem own_le {w : World} {a b : Nat} {e : TypeId} {size n : Nat} {v : Value} {xs : List Value} (h : w.ownsRow b e size v n xs) (hab : a ≤ b) : w.ownsRow a e size v n xs := by
  refine ⟨h.1, ?_⟩
  rcases h.2 with h | ⟨g, cap, cur, x, y, d⟩
  · exact .inl h
  · exact .inr ⟨g, cap, cur, x, Nat.le_trans hab y, d⟩
set_option maxRecDepth 100000 in
set_option maxHeartbeats 4000000 in
theorem mode_any (w : World) (sb : Nat) (S : Nat → Int × Int) (v : Value) (L : List Int) (c : Cr) (m : Nat) (hg : runG S L = .inl c) (hm : c.st.mode = m) (hv : SlL w v (zcl L)) (hk : Blk w sb 26 #[.int .i64 (S 0).1, .int .i64 (S 0).2, .int .i64 (S 1).1, .int .i64 (S 1).2, .int .i64 (S 2).1, .int .i64 (S 2).2]) :
    Calls Tryz.prog 40 #[v, .pointer (some ⟨sb, 0, none⟩)] w fun e w' => e = .returned (.int .i64 (m : Int)) ∧ Below w.heap.size w w' := by
  have HR := hide (fun (W : World) (h : SlL W v (zcl L)) => swrun_ok W S v L c h hg)
  unfold schV at HR
  obtain ⟨x, hx⟩ : ∃ x, c.st = x := ⟨_, rfl⟩
  obtain ⟨rs, hrs⟩ : ∃ x, c.res = x := ⟨_, rfl⟩
  rw [hx, hrs] at HR
  rw [hx] at hm
  have HM := hide hm
  have HV := hide hv
  have K_s := hide hk
  have HB := hide (Below.refl w.heap.size w)
  clear hg hm hv hk hx hrs
  go_enter Tryz.func40, Tryz.ntmps40
  have s0 := (Blk.cell K_s.out 0).trans (rfl : _ = some (Value.int .i64 (S 0).1))
  have s1 := (Blk.cell K_s.out 1).trans (rfl : _ = some (Value.int .i64 (S 0).2))
  have s2 := (Blk.cell K_s.out 2).trans (rfl : _ = some (Value.int .i64 (S 1).1))
  have s3 := (Blk.cell K_s.out 3).trans (rfl : _ = some (Value.int .i64 (S 1).2))
  have s4 := (Blk.cell K_s.out 4).trans (rfl : _ = some (Value.int .i64 (S 2).1))
  have s5 := (Blk.cell K_s.out 5).trans (rfl : _ = some (Value.int .i64 (S 2).2))
  go_wp2_with fail
  refine (HR.out _ HV.out).mono ?_
  rintro e w1 ⟨⟨u, v8, rfl, hst, hrs⟩, hb⟩
  obtain ⟨sl, rfl, hsl⟩ := hst
  obtain ⟨A2, n2, c2, rfl⟩ := hsl.shape3
  obtain ⟨B2, m2, d2, rfl⟩ := hrs.shape3
  clear s0 s1 s2 s3 s4 s5
  replace K_s := hide (Blk.below K_s.out hb (Blk.lt K_s.out))
  replace HB := hide (HB.out.trans (hb.mono HB.out.size))
  replace HV := hide (HV.out.below hb)
  clear hb
  clear hsl hrs
  go_upto_region 2 with (fail)
  have hbs_x : w.heap.size ≤ w1.heap.size := HB.out.size
  have lt_x_s : sb < w1.heap.size := Blk.lt K_s.out
  replace K_s := K_s.out.alloc (.cells #[.int .i64 (x.mode : Int), .int .i64 (x.run : Int), .slice A2 n2 c2, .int .i64 (x.rej : Int)] 29)
  replace HB := HB.out.alloc HB.out.size (.cells #[.int .i64 (x.mode : Int), .int .i64 (x.run : Int), .slice A2 n2 c2, .int .i64 (x.rej : Int)] 29)
  have K_x := Blk.new w1 29 #[.int .i64 (x.mode : Int), .int .i64 (x.run : Int), .slice A2 n2 c2, .int .i64 (x.rej : Int)]
  replace HV := HV.out.below ((Below.refl w1.heap.size w1).alloc (Nat.le_refl _) (.cells #[.int .i64 (x.mode : Int), .int .i64 (x.run : Int), .slice A2 n2 c2, .int .i64 (x.rej : Int)] 29))
  generalize w1.alloc (.cells #[.int .i64 (x.mode : Int), .int .i64 (x.run : Int), .slice A2 n2 c2, .int .i64 (x.rej : Int)] 29) = w2 at *
  replace K_s := hide K_s
  replace K_x := hide K_x
  replace HB := hide HB
  replace HV := hide HV
  have x0 := (Blk.cell K_x.out 0).trans (rfl : _ = some (Value.int .i64 (x.mode : Int)))
  have x1 := (Blk.cell K_x.out 1).trans (rfl : _ = some (Value.int .i64 (x.run : Int)))
  have x2 := (Blk.cell K_x.out 2).trans (rfl : _ = some (Value.slice A2 n2 c2))
  have x3 := (Blk.cell K_x.out 3).trans (rfl : _ = some (Value.int .i64 (x.rej : Int)))
  go_wp2_with fail
  go_ret
  exact ⟨by rw [← HM.out]; rfl, HB.out⟩
theorem modes_run {S : Nat → Int × Int} (h : ckS S = 0) {Ls : List Lt} {m : Nat} {L : List Int} (hL : L = Ls.map (Lt.val (ruN S))) (ha : (absL Ls (swB 0)).map (·.mode) = some m) (hn : Ls.length ≤ 4096) : ∃ c, runG S L = .inl c ∧ c.st.mode = m := by
  obtain ⟨c, h1, h2⟩ := goC_mode (R := ruN S) (fun m => (ruN_le h m).2) ha
  refine ⟨c, ?_, h2⟩
  unfold runG
  rw [if_neg (by simp [h]), if_neg (by rw [hL, List.length_map]; omega), hL]
  exact h1
theorem zcl_app (L M : List Int) : zcl L ++ zcl M = zcl (L ++ M) := by unfold zcl; rw [List.map_append]
theorem SlL.two (W : World) (t : TypeId) (x y : Value) : SlL (W.alloc (.cells #[x, y] t)) (.slice (some ⟨W.heap.size, 0, none⟩) 2 2) [x, y] :=
  ⟨_, 2, rfl, Nat.le_refl _, fun _ => ⟨W.heap.size, 0, rfl, fun p z hp => by
    have hlt : p < 2 := (List.getElem?_eq_some_iff.1 hp).1
    refine (Blk.cell (Blk.new W t #[x, y]) (0 + p)).trans ?_
    rw [Nat.zero_add, ← hp]
    simp⟩⟩
set_option maxRecDepth 100000 in
set_option maxHeartbeats 16000000 in
theorem modes55_any (w : World) (S : Nat → Int × Int) (gap : Int) (hgap : 0 ≤ gap ∧ gap < 256) (hs : Std w) :
    Calls Tryz.prog 11 #[schV S, .int .u8 gap] w fun e w' => e = .returned (.bool true) ∧ Below w.heap.size w w' := by
  obtain ⟨i0, hi, hz0, hz1, hz2⟩ := info_parts info_int
  have HS := hide hs
  have HAW := hide (fun W hS => awake55_any W hS)
  have HOW := hide (fun W => own_any W S)
  have HRK := hide (fun W => rswck_any W S)
  obtain ⟨ck, hck⟩ : ∃ q, ckS S = q := ⟨_, rfl⟩
  rw [hck] at HRK
  have HCK := hide hck
  have hw1 : IntKind.i64.wrap gap = gap := IntWalk.i64_in _ (by omega)
  obtain ⟨k, hk⟩ : ∃ k : Nat, gap.tmod 9 = (k : Int) := ⟨(gap.tmod 9).toNat, by have := Int.tmod_nonneg (a := gap) 9 hgap.1; omega⟩
  have hk9 : k < 9 := by have := Int.tmod_lt_of_pos gap (show (0 : Int) < 9 by omega); omega
  have HK9 := hide hk9
  clear hs hck hgap hk9
  by_cases hc0 : ck = 0
  · subst hc0
    have h0 := HCK.out
    have c0 := ckS_zero h0 0 (by omega)
    have c1 := ckS_zero h0 1 (by omega)
    have r0 := (ruN_at h0 (show 0 < 3 by omega)).2
    have r1 := (ruN_at h0 (show 1 < 3 by omega)).2
    obtain ⟨bd, hbd⟩ : ∃ b, (S 0).2 + 1 = b := ⟨_, rfl⟩
    obtain ⟨wo, hwo⟩ : ∃ b, (S 1).2 + 1 = b := ⟨_, rfl⟩
    have hwb : IntKind.i64.wrap ((S 0).2 + 1) = bd := (IntWalk.i64_in _ (by omega)).trans hbd
    have hww : IntKind.i64.wrap ((S 1).2 + 1) = wo := (IntWalk.i64_in _ (by omega)).trans hwo
    have vb : Lt.val (ruN S) Lt.bad = bd := by show ((ruN S 0).2 : Int) + 1 = bd; omega
    have vw : Lt.val (ruN S) Lt.worse = wo := by show ((ruN S 1).2 : Int) + 1 = wo; omega
    have vg : Lt.val (ruN S) Lt.good = 0 := rfl
    have va : Lt.val (ruN S) Lt.again = -1 := rfl
    obtain ⟨c_ten, g_ten, m_ten⟩ := modes_run h0 (L := (List.replicate 10 (0 : Int))) (Ls := (List.replicate 10 Lt.good)) (m := 2) (by (try unfold twoL); (try simp only [List.map_append]); (try simp only [List.map_cons]); (try simp only [List.map_nil]); (try simp only [List.map_replicate]); (try simp only [vb]); (try simp only [vw]); (try simp only [vg]); (try simp only [va]); (try rfl)) (by rw [abs_ten]; rfl) (by have hk9 := HK9.out; (try unfold twoL); simp; try omega)
    have M_ten := hide (fun (W : World) (v : Value) (hv : SlL W v (zcl (List.replicate 10 (0 : Int)))) (K : Blk W w.heap.size 26 #[.int .i64 (S 0).1, .int .i64 (S 0).2, .int .i64 (S 1).1, .int .i64 (S 1).2, .int .i64 (S 2).1, .int .i64 (S 2).2]) => mode_any W w.heap.size S v (List.replicate 10 (0 : Int)) c_ten 2 g_ten m_ten hv K)
    obtain ⟨c_nin, g_nin, m_nin⟩ := modes_run h0 (L := (List.replicate 9 (0 : Int))) (Ls := (List.replicate 9 Lt.good)) (m := 0) (by (try unfold twoL); (try simp only [List.map_append]); (try simp only [List.map_cons]); (try simp only [List.map_nil]); (try simp only [List.map_replicate]); (try simp only [vb]); (try simp only [vw]); (try simp only [vg]); (try simp only [va]); (try rfl)) (abs_nine) (by have hk9 := HK9.out; (try unfold twoL); simp; try omega)
    have M_nin := hide (fun (W : World) (v : Value) (hv : SlL W v (zcl (List.replicate 9 (0 : Int)))) (K : Blk W w.heap.size 26 #[.int .i64 (S 0).1, .int .i64 (S 0).2, .int .i64 (S 1).1, .int .i64 (S 1).2, .int .i64 (S 2).1, .int .i64 (S 2).2]) => mode_any W w.heap.size S v (List.replicate 9 (0 : Int)) c_nin 0 g_nin m_nin hv K)
    obtain ⟨c_two, g_two, m_two⟩ := modes_run h0 (L := (List.replicate k (0 : Int) ++ [bd] ++ List.replicate k 0 ++ [bd])) (Ls := (twoL k)) (m := (if k ≤ 3 then 1 else 0)) (by (try unfold twoL); (try simp only [List.map_append]); (try simp only [List.map_cons]); (try simp only [List.map_nil]); (try simp only [List.map_replicate]); (try simp only [vb]); (try simp only [vw]); (try simp only [vg]); (try simp only [va]); (try rfl)) (abs_two k HK9.out) (by have hk9 := HK9.out; (try unfold twoL); simp; try omega)
    have M_two := hide (fun (W : World) (v : Value) (hv : SlL W v (zcl (List.replicate k (0 : Int) ++ [bd] ++ List.replicate k 0 ++ [bd]))) (K : Blk W w.heap.size 26 #[.int .i64 (S 0).1, .int .i64 (S 0).2, .int .i64 (S 1).1, .int .i64 (S 1).2, .int .i64 (S 2).1, .int .i64 (S 2).2]) => mode_any W w.heap.size S v (List.replicate k (0 : Int) ++ [bd] ++ List.replicate k 0 ++ [bd]) c_two (if k ≤ 3 then 1 else 0) g_two m_two hv K)
    obtain ⟨c_tig, g_tig, m_tig⟩ := modes_run h0 (L := [bd, bd]) (Ls := [Lt.bad, Lt.bad]) (m := 1) (by (try unfold twoL); (try simp only [List.map_append]); (try simp only [List.map_cons]); (try simp only [List.map_nil]); (try simp only [List.map_replicate]); (try simp only [vb]); (try simp only [vw]); (try simp only [vg]); (try simp only [va]); (try rfl)) (by rw [abs_tight]; rfl) (by have hk9 := HK9.out; (try unfold twoL); simp; try omega)
    have M_tig := hide (fun (W : World) (v : Value) (hv : SlL W v (zcl [bd, bd])) (K : Blk W w.heap.size 26 #[.int .i64 (S 0).1, .int .i64 (S 0).2, .int .i64 (S 1).1, .int .i64 (S 1).2, .int .i64 (S 2).1, .int .i64 (S 2).2]) => mode_any W w.heap.size S v [bd, bd] c_tig 1 g_tig m_tig hv K)
    obtain ⟨c_bac, g_bac, m_bac⟩ := modes_run h0 (L := ([bd, bd] ++ List.replicate 5 (0 : Int))) (Ls := ([Lt.bad, Lt.bad] ++ List.replicate 5 Lt.good)) (m := 0) (by (try unfold twoL); (try simp only [List.map_append]); (try simp only [List.map_cons]); (try simp only [List.map_nil]); (try simp only [List.map_replicate]); (try simp only [vb]); (try simp only [vw]); (try simp only [vg]); (try simp only [va]); (try rfl)) (by rw [abs_back]; rfl) (by have hk9 := HK9.out; (try unfold twoL); simp; try omega)
    have M_bac := hide (fun (W : World) (v : Value) (hv : SlL W v (zcl ([bd, bd] ++ List.replicate 5 (0 : Int)))) (K : Blk W w.heap.size 26 #[.int .i64 (S 0).1, .int .i64 (S 0).2, .int .i64 (S 1).1, .int .i64 (S 1).2, .int .i64 (S 2).1, .int .i64 (S 2).2]) => mode_any W w.heap.size S v ([bd, bd] ++ List.replicate 5 (0 : Int)) c_bac 0 g_bac m_bac hv K)
    obtain ⟨c_sto, g_sto, m_sto⟩ := modes_run h0 (L := ([bd, bd] ++ List.replicate 5 wo)) (Ls := ([Lt.bad, Lt.bad] ++ List.replicate 5 Lt.worse)) (m := 3) (by (try unfold twoL); (try simp only [List.map_append]); (try simp only [List.map_cons]); (try simp only [List.map_nil]); (try simp only [List.map_replicate]); (try simp only [vb]); (try simp only [vw]); (try simp only [vg]); (try simp only [va]); (try rfl)) (by rw [abs_stop]; rfl) (by have hk9 := HK9.out; (try unfold twoL); simp; try omega)
    have M_sto := hide (fun (W : World) (v : Value) (hv : SlL W v (zcl ([bd, bd] ++ List.replicate 5 wo))) (K : Blk W w.heap.size 26 #[.int .i64 (S 0).1, .int .i64 (S 0).2, .int .i64 (S 1).1, .int .i64 (S 1).2, .int .i64 (S 2).1, .int .i64 (S 2).2]) => mode_any W w.heap.size S v ([bd, bd] ++ List.replicate 5 wo) c_sto 3 g_sto m_sto hv K)
    obtain ⟨c_aga, g_aga, m_aga⟩ := modes_run h0 (L := ([bd, bd] ++ List.replicate 5 wo ++ [(-1 : Int)])) (Ls := ([Lt.bad, Lt.bad] ++ List.replicate 5 Lt.worse ++ [Lt.again])) (m := 1) (by (try unfold twoL); (try simp only [List.map_append]); (try simp only [List.map_cons]); (try simp only [List.map_nil]); (try simp only [List.map_replicate]); (try simp only [vb]); (try simp only [vw]); (try simp only [vg]); (try simp only [va]); (try rfl)) (by rw [abs_again]; rfl) (by have hk9 := HK9.out; (try unfold twoL); simp; try omega)
    have M_aga := hide (fun (W : World) (v : Value) (hv : SlL W v (zcl ([bd, bd] ++ List.replicate 5 wo ++ [(-1 : Int)]))) (K : Blk W w.heap.size 26 #[.int .i64 (S 0).1, .int .i64 (S 0).2, .int .i64 (S 1).1, .int .i64 (S 1).2, .int .i64 (S 2).1, .int .i64 (S 2).2]) => mode_any W w.heap.size S v ([bd, bd] ++ List.replicate 5 wo ++ [(-1 : Int)]) c_aga 1 g_aga m_aga hv K)
    clear h0 c0 c1 r0 r1 vb vw vg va hbd hwo g_ten m_ten g_nin m_nin g_two m_two g_tig m_tig g_bac m_bac g_sto m_sto g_aga m_aga
    unfold schV at HOW HRK ⊢
    have HB := allocs_below w [.cells #[.int .i64 (S 0).1, .int .i64 (S 0).2, .int .i64 (S 1).1, .int .i64 (S 1).2, .int .i64 (S 2).1, .int .i64 (S 2).2] 26]
    have K_s : Blk (allocs w [.cells #[.int .i64 (S 0).1, .int .i64 (S 0).2, .int .i64 (S 1).1, .int .i64 (S 1).2, .int .i64 (S 2).1, .int .i64 (S 2).2] 26]) (w.heap.size + 0) 26 #[.int .i64 (S 0).1, .int .i64 (S 0).2, .int .i64 (S 1).1, .int .i64 (S 1).2, .int .i64 (S 2).1, .int .i64 (S 2).2] := allocs_at w [.cells #[.int .i64 (S 0).1, .int .i64 (S 0).2, .int .i64 (S 1).1, .int .i64 (S 1).2, .int .i64 (S 2).1, .int .i64 (S 2).2] 26] 0 rfl
    unfold allocs at HB K_s
    simp only [List.foldl_cons, List.foldl_nil] at HB K_s
    rw [Nat.add_zero] at K_s
    go_enter Tryz.func11, Tryz.ntmps11
    go_upto_region 1 with (fail)
    generalize (w.alloc (.cells #[.int .i64 (S 0).1, .int .i64 (S 0).2, .int .i64 (S 1).1, .int .i64 (S 1).2, .int .i64 (S 2).1, .int .i64 (S 2).2] 26)) = w0 at *
    replace K_s := hide K_s
    replace HB := hide HB
    have s0 := (Blk.cell K_s.out 0).trans (rfl : _ = some (Value.int .i64 (S 0).1))
    have s1 := (Blk.cell K_s.out 1).trans (rfl : _ = some (Value.int .i64 (S 0).2))
    have s2 := (Blk.cell K_s.out 2).trans (rfl : _ = some (Value.int .i64 (S 1).1))
    have s3 := (Blk.cell K_s.out 3).trans (rfl : _ = some (Value.int .i64 (S 1).2))
    have s4 := (Blk.cell K_s.out 4).trans (rfl : _ = some (Value.int .i64 (S 2).1))
    have s5 := (Blk.cell K_s.out 5).trans (rfl : _ = some (Value.int .i64 (S 2).2))
    go_wp2_with fail
    refine (HOW.out _).mono ?_
    rintro e w1 ⟨rfl, hb⟩
    clear s0 s1 s2 s3 s4 s5
    replace K_s := hide (Blk.below K_s.out hb (Blk.lt K_s.out))
    replace HB := hide (HB.out.trans (hb.mono HB.out.size))
    clear hb
    go_wp2_with fail
    refine (HRK.out _).mono ?_
    rintro e w2 ⟨rfl, hb⟩
    replace K_s := hide (Blk.below K_s.out hb (Blk.lt K_s.out))
    replace HB := hide (HB.out.trans (hb.mono HB.out.size))
    clear hb
    have s0 := (Blk.cell K_s.out 0).trans (rfl : _ = some (Value.int .i64 (S 0).1))
    have s1 := (Blk.cell K_s.out 1).trans (rfl : _ = some (Value.int .i64 (S 0).2))
    have s2 := (Blk.cell K_s.out 2).trans (rfl : _ = some (Value.int .i64 (S 1).1))
    have s3 := (Blk.cell K_s.out 3).trans (rfl : _ = some (Value.int .i64 (S 1).2))
    have s4 := (Blk.cell K_s.out 4).trans (rfl : _ = some (Value.int .i64 (S 2).1))
    have s5 := (Blk.cell K_s.out 5).trans (rfl : _ = some (Value.int .i64 (S 2).2))
    go_upto_region 3 with (fail)
    go_region
    clear s0 s1 s2 s3 s4 s5
    replace K_s := K_s.out.drew
    replace HB := HB.out.drew
    generalize w2.drew = w3 at *
    replace K_s := hide K_s
    replace HB := hide HB
    have HBR := hide (Below.refl w3.heap.size w3)
    go_wp2_with fail
    refine (repeat_any _ _ 0 k (by have := HK9.out; omega) (Blk.cell (Blk.new w3 3 #[.int .i64 0]) 0)).mono ?_
    rintro e w4 ⟨⟨u, rfl, hown⟩, hb9⟩
    have hb : Below w3.heap.size w3 w4 := (nalcW w3 (.cells #[.int .i64 0] 3)).trans (hb9.mono (by simp))
    have hbs : w3.heap.size ≤ w3.heap.size := HBR.out.size
    obtain ⟨A_za, m_za, c_za, rfl⟩ := own_slice hown
    have hown2 := own_le hown (show w3.heap.size ≤ (w3.alloc (.cells #[.int .i64 0] 3)).heap.size from Nat.le_trans hbs (by simp))
    have Hza := hide hown2
    replace HBR := hide (HBR.out.trans (hb.mono hbs))
    clear hown hown2 hb9 hb hbs
    have hbs : w3.heap.size ≤ w4.heap.size := HBR.out.size
    have hk9 := HK9.out
    go_wp2_with (at_builtin; refine wpList_append_sl _ rfl _ _ 54 rfl w3.heap.size 3 i0 (.int .i64 0) 8 Tryz.underlying54 hi hz0 hz1 hz2 rfl _ k _ rfl (Hza.out.alloc (.cells #[.int .i64 bd] 3)) _ [.int .i64 bd] rfl (SlL.one _ _ _) (by intro u hu; simp at hu; subst hu; rfl) ?la1 ?la2 ?la3 ?_)
    try (case la1 => (try rw [zcl_len]); simp [maxLen]; try omega)
    try (case la2 => (try rw [zcl_len]); simp; try omega)
    try (case la3 => simp; omega)
    try (case la3 => exact hbs)
    intro v9 w5 hown9 hgrow9
    have hb : Below w3.heap.size w4 w5 := ((nalcW w4 (.cells #[.int .i64 bd] 3)).mono hbs).grown hgrow9 (Nat.le_trans hbs (by simp)) (fun k e => ((Hza.out.alloc (.cells #[.int .i64 bd] 3)).lt k e).1)
    obtain ⟨A_zb, m_zb, c_zb, rfl⟩ := own_slice hown9
    have hown3 : w5.ownsRow w3.heap.size 3 1 (.slice A_zb m_zb c_zb) (k + 1) (zcl ((List.replicate k (0 : Int)) ++ [(bd : Int)])) := by
      rw [← zcl_app]
      (try rw [zcl_len] at hown9)
      (try rw [List.length_replicate] at hown9)
      first | exact hown9 | (simp only [List.append_assoc, List.cons_append, List.nil_append] at hown9 ⊢; exact hown9)
    replace HBR := hide (HBR.out.trans hb)
    clear Hza
    have Hzb := hide hown3
    clear hown9 hown3 hgrow9 hb hbs hk9
    go_wp2_with fail
    refine (repeat_any _ _ 0 k (by have := HK9.out; omega) (Blk.cell (Blk.new w5 3 #[.int .i64 0]) 0)).mono ?_
    rintro e w6 ⟨⟨u, rfl, hown⟩, hb9⟩
    have hb : Below w5.heap.size w5 w6 := (nalcW w5 (.cells #[.int .i64 0] 3)).trans (hb9.mono (by simp))
    have hbs : w3.heap.size ≤ w5.heap.size := HBR.out.size
    obtain ⟨A_zc, m_zc, c_zc, rfl⟩ := own_slice hown
    have hown2 := own_le hown (show w3.heap.size ≤ (w5.alloc (.cells #[.int .i64 0] 3)).heap.size from Nat.le_trans hbs (by simp))
    replace Hzb := hide (owns_below Hzb.out hb)
    have Hzc := hide hown2
    replace HBR := hide (HBR.out.trans (hb.mono hbs))
    clear hown hown2 hb9 hb hbs
    have hbs : w3.heap.size ≤ w6.heap.size := HBR.out.size
    have hk9 := HK9.out
    have h9 := hide (show (k) = (zcl (List.replicate k (0 : Int))).length from by rw [zcl_len]; simp)
    go_wp2_with (at_builtin; refine wpList_append_sl _ rfl _ _ 54 rfl w3.heap.size 3 i0 (.int .i64 0) 8 Tryz.underlying54 hi hz0 hz1 hz2 rfl _ ((k + 1)) _ rfl Hzb.out _ (zcl (List.replicate k (0 : Int))) rfl (SlL.of_row Hzc.out h9.out) (zcl_one _) ?la1 ?la2 ?la3 ?_)
    try (case la1 => (try rw [zcl_len]); simp [maxLen]; try omega)
    try (case la2 => (try rw [zcl_len]); simp; try omega)
    try (case la3 => simp; omega)
    try (case la3 => exact hbs)
    intro v9 w7 hown9 hgrow9
    have hb : Below w3.heap.size w6 w7 := ((Below.refl w6.heap.size w6).mono hbs).grown hgrow9 hbs (fun k e => (Hzb.out.lt k e).1)
    obtain ⟨A_zd, m_zd, c_zd, rfl⟩ := own_slice hown9
    have hown3 : w7.ownsRow w3.heap.size 3 1 (.slice A_zd m_zd c_zd) ((k + 1) + k) (zcl (((List.replicate k (0 : Int)) ++ [(bd : Int)]) ++ (List.replicate k (0 : Int)))) := by
      rw [← zcl_app]
      (try rw [zcl_len] at hown9)
      (try rw [List.length_replicate] at hown9)
      first | exact hown9 | (simp only [List.append_assoc, List.cons_append, List.nil_append] at hown9 ⊢; exact hown9)
    replace HBR := hide (HBR.out.trans hb)
    clear Hzb
    have Hzd := hide hown3
    clear hown9 hown3 hgrow9 hb hbs hk9
    clear h9 Hzc
    have hbs : w3.heap.size ≤ w7.heap.size := HBR.out.size
    have hk9 := HK9.out
    go_wp2_with (at_builtin; refine wpList_append_sl _ rfl _ _ 54 rfl w3.heap.size 3 i0 (.int .i64 0) 8 Tryz.underlying54 hi hz0 hz1 hz2 rfl _ ((k + 1) + k) _ rfl (Hzd.out.alloc (.cells #[.int .i64 bd] 3)) _ [.int .i64 bd] rfl (SlL.one _ _ _) (by intro u hu; simp at hu; subst hu; rfl) ?la1 ?la2 ?la3 ?_)
    try (case la1 => (try rw [zcl_len]); simp [maxLen]; try omega)
    try (case la2 => (try rw [zcl_len]); simp; try omega)
    try (case la3 => simp; omega)
    try (case la3 => exact hbs)
    intro v9 w8 hown9 hgrow9
    have hb : Below w3.heap.size w7 w8 := ((nalcW w7 (.cells #[.int .i64 bd] 3)).mono hbs).grown hgrow9 (Nat.le_trans hbs (by simp)) (fun k e => ((Hzd.out.alloc (.cells #[.int .i64 bd] 3)).lt k e).1)
    obtain ⟨A_ze, m_ze, c_ze, rfl⟩ := own_slice hown9
    have hown3 : w8.ownsRow w3.heap.size 3 1 (.slice A_ze m_ze c_ze) (((k + 1) + k) + 1) (zcl ((((List.replicate k (0 : Int)) ++ [(bd : Int)]) ++ (List.replicate k (0 : Int))) ++ [(bd : Int)])) := by
      rw [← zcl_app]
      (try rw [zcl_len] at hown9)
      (try rw [List.length_replicate] at hown9)
      first | exact hown9 | (simp only [List.append_assoc, List.cons_append, List.nil_append] at hown9 ⊢; exact hown9)
    replace HBR := hide (HBR.out.trans hb)
    clear Hzd
    have Hze := hide hown3
    clear hown9 hown3 hgrow9 hb hbs hk9
    have hk9 := HK9.out
    have HV_ze := hide (show SlL w8 (.slice A_ze m_ze c_ze) (zcl (List.replicate k (0 : Int) ++ [bd] ++ List.replicate k 0 ++ [bd])) from SlL.of_row Hze.out (by rw [zcl_len]; simp; try omega))
    have hb := HBR.out
    clear HBR Hze hk9
    replace K_s := hide (Blk.below K_s.out hb (Blk.lt K_s.out))
    replace HB := hide (HB.out.trans (hb.mono HB.out.size))
    clear hb
    by_cases hk3 : k ≤ 3
    · have i3 : (k : Int) ≤ 3 := by omega
      have MTW := M_two.out
      rw [if_pos hk3] at MTW
      replace M_two := hide MTW
      clear MTW hk3
      have HBR := hide (Below.refl w8.heap.size w8)
      go_wp2_with fail
      refine (repeat_any _ _ 0 10 (by decide) (Blk.cell (Blk.new w8 3 #[.int .i64 0]) 0)).mono ?_
      rintro e w9 ⟨⟨u, rfl, hown⟩, hb9⟩
      have hb : Below w8.heap.size w8 w9 := (nalcW w8 (.cells #[.int .i64 0] 3)).trans (hb9.mono (by simp))
      have hbs : w8.heap.size ≤ w8.heap.size := HBR.out.size
      obtain ⟨A_zf, m_zf, c_zf, rfl⟩ := own_slice hown
      have hown2 := own_le hown (show w8.heap.size ≤ (w8.alloc (.cells #[.int .i64 0] 3)).heap.size from Nat.le_trans hbs (by simp))
      have Hzf := hide hown2
      replace HBR := hide (HBR.out.trans (hb.mono hbs))
      clear hown hown2 hb9 hb hbs
      have hk9 := HK9.out
      have HV_zf := hide (show SlL w9 (.slice A_zf m_zf c_zf) (zcl (List.replicate 10 (0 : Int))) from SlL.of_row Hzf.out (by rw [zcl_len]; simp; try omega))
      have hb := HBR.out
      clear HBR Hzf hk9
      replace K_s := hide (Blk.below K_s.out hb (Blk.lt K_s.out))
      replace HB := hide (HB.out.trans (hb.mono HB.out.size))
      replace HV_ze := hide (HV_ze.out.below hb)
      clear hb
      go_wp2_with fail
      refine (M_ten.out _ _ HV_zf.out K_s.out).mono ?_
      rintro e w10 ⟨rfl, hb⟩
      replace K_s := hide (Blk.below K_s.out hb (Blk.lt K_s.out))
      replace HB := hide (HB.out.trans (hb.mono HB.out.size))
      replace HV_ze := hide (HV_ze.out.below hb)
      replace HV_zf := hide (HV_zf.out.below hb)
      clear hb
      clear HV_zf
      have HBR := hide (Below.refl w10.heap.size w10)
      go_wp2_with fail
      refine (repeat_any _ _ 0 9 (by decide) (Blk.cell (Blk.new w10 3 #[.int .i64 0]) 0)).mono ?_
      rintro e w11 ⟨⟨u, rfl, hown⟩, hb9⟩
      have hb : Below w10.heap.size w10 w11 := (nalcW w10 (.cells #[.int .i64 0] 3)).trans (hb9.mono (by simp))
      have hbs : w10.heap.size ≤ w10.heap.size := HBR.out.size
      obtain ⟨A_zf, m_zf, c_zf, rfl⟩ := own_slice hown
      have hown2 := own_le hown (show w10.heap.size ≤ (w10.alloc (.cells #[.int .i64 0] 3)).heap.size from Nat.le_trans hbs (by simp))
      have Hzf := hide hown2
      replace HBR := hide (HBR.out.trans (hb.mono hbs))
      clear hown hown2 hb9 hb hbs
      have hk9 := HK9.out
      have HV_zf := hide (show SlL w11 (.slice A_zf m_zf c_zf) (zcl (List.replicate 9 (0 : Int))) from SlL.of_row Hzf.out (by rw [zcl_len]; simp; try omega))
      have hb := HBR.out
      clear HBR Hzf hk9
      replace K_s := hide (Blk.below K_s.out hb (Blk.lt K_s.out))
      replace HB := hide (HB.out.trans (hb.mono HB.out.size))
      replace HV_ze := hide (HV_ze.out.below hb)
      clear hb
      go_wp2_with fail
      refine (M_nin.out _ _ HV_zf.out K_s.out).mono ?_
      rintro e w12 ⟨rfl, hb⟩
      replace K_s := hide (Blk.below K_s.out hb (Blk.lt K_s.out))
      replace HB := hide (HB.out.trans (hb.mono HB.out.size))
      replace HV_ze := hide (HV_ze.out.below hb)
      replace HV_zf := hide (HV_zf.out.below hb)
      clear hb
      clear HV_zf
      go_wp2_with fail
      refine (M_two.out _ _ HV_ze.out K_s.out).mono ?_
      rintro e w13 ⟨rfl, hb⟩
      replace K_s := hide (Blk.below K_s.out hb (Blk.lt K_s.out))
      replace HB := hide (HB.out.trans (hb.mono HB.out.size))
      replace HV_ze := hide (HV_ze.out.below hb)
      clear hb
      clear HV_ze i3
      have hv9 : SlL (w13.alloc (.cells #[.int .i64 bd, .int .i64 bd] 3)) (.slice (some ⟨w13.heap.size, 0, none⟩) 2 2) (zcl [bd, bd]) := SlL.two w13 3 (.int .i64 bd) (.int .i64 bd)
      have HV_t := hide hv9
      clear hv9
      go_upto_region 15 with (fail)
      replace K_s := K_s.out.alloc (.cells #[.int .i64 bd, .int .i64 bd] 3)
      replace HB := HB.out.alloc HB.out.size (.cells #[.int .i64 bd, .int .i64 bd] 3)
      generalize w13.alloc (.cells #[.int .i64 bd, .int .i64 bd] 3) = w14 at *
      replace K_s := hide K_s
      replace HB := hide HB
      have HBR := hide (Below.refl w14.heap.size w14)
      go_wp2_with fail
      refine (cloneI_any _ _ [bd, bd] HV_t.out (by simp)).mono ?_
      rintro e w15 ⟨⟨u, rfl, hown⟩, hb⟩
      have hbs : w14.heap.size ≤ w14.heap.size := HBR.out.size
      obtain ⟨A_zg, m_zg, c_zg, rfl⟩ := own_slice hown
      have Hzg := hide (own_le hown hbs)
      replace HBR := hide (HBR.out.trans (hb.mono hbs))
      clear hown hb hbs
      go_wp2_with fail
      refine (repeat_any _ _ 0 5 (by decide) (Blk.cell (Blk.new w15 3 #[.int .i64 0]) 0)).mono ?_
      rintro e w16 ⟨⟨u, rfl, hown⟩, hb9⟩
      have hb : Below w15.heap.size w15 w16 := (nalcW w15 (.cells #[.int .i64 0] 3)).trans (hb9.mono (by simp))
      have hbs : w14.heap.size ≤ w15.heap.size := HBR.out.size
      obtain ⟨A_zh, m_zh, c_zh, rfl⟩ := own_slice hown
      have hown2 := own_le hown (show w14.heap.size ≤ (w15.alloc (.cells #[.int .i64 0] 3)).heap.size from Nat.le_trans hbs (by simp))
      replace Hzg := hide (owns_below Hzg.out hb)
      have Hzh := hide hown2
      replace HBR := hide (HBR.out.trans (hb.mono hbs))
      clear hown hown2 hb9 hb hbs
      have hbs : w14.heap.size ≤ w16.heap.size := HBR.out.size
      have hk9 := HK9.out
      have h9 := hide (show (5) = (zcl (List.replicate 5 (0 : Int))).length from by rw [zcl_len]; simp)
      go_wp2_with (at_builtin; refine wpList_append_sl _ rfl _ _ 54 rfl w14.heap.size 3 i0 (.int .i64 0) 8 Tryz.underlying54 hi hz0 hz1 hz2 rfl _ ([bd, bd].length) _ rfl Hzg.out _ (zcl (List.replicate 5 (0 : Int))) rfl (SlL.of_row Hzh.out h9.out) (zcl_one _) ?la1 ?la2 ?la3 ?_)
      try (case la1 => (try rw [zcl_len]); simp [maxLen]; try omega)
      try (case la2 => (try rw [zcl_len]); simp; try omega)
      try (case la3 => simp; omega)
      try (case la3 => exact hbs)
      intro v9 w17 hown9 hgrow9
      have hb : Below w14.heap.size w16 w17 := ((Below.refl w16.heap.size w16).mono hbs).grown hgrow9 hbs (fun k e => (Hzg.out.lt k e).1)
      obtain ⟨A_zi, m_zi, c_zi, rfl⟩ := own_slice hown9
      have hown3 : w17.ownsRow w14.heap.size 3 1 (.slice A_zi m_zi c_zi) ([bd, bd].length + 5) (zcl ([bd, bd] ++ (List.replicate 5 (0 : Int)))) := by
        rw [← zcl_app]
        (try rw [zcl_len] at hown9)
        (try rw [List.length_replicate] at hown9)
        first | exact hown9 | (simp only [List.append_assoc, List.cons_append, List.nil_append] at hown9 ⊢; exact hown9)
      replace HBR := hide (HBR.out.trans hb)
      clear Hzg
      have Hzi := hide hown3
      clear hown9 hown3 hgrow9 hb hbs hk9
      clear h9 Hzh
      have hk9 := HK9.out
      have HV_zi := hide (show SlL w17 (.slice A_zi m_zi c_zi) (zcl ([bd, bd] ++ List.replicate 5 (0 : Int))) from SlL.of_row Hzi.out (by rw [zcl_len]; simp; try omega))
      have hb := HBR.out
      clear HBR Hzi hk9
      replace K_s := hide (Blk.below K_s.out hb (Blk.lt K_s.out))
      replace HB := hide (HB.out.trans (hb.mono HB.out.size))
      replace HV_t := hide (HV_t.out.below hb)
      clear hb
      have HBR := hide (Below.refl w17.heap.size w17)
      go_wp2_with fail
      refine (cloneI_any _ _ [bd, bd] HV_t.out (by simp)).mono ?_
      rintro e w18 ⟨⟨u, rfl, hown⟩, hb⟩
      have hbs : w17.heap.size ≤ w17.heap.size := HBR.out.size
      obtain ⟨A_zj, m_zj, c_zj, rfl⟩ := own_slice hown
      have Hzj := hide (own_le hown hbs)
      replace HBR := hide (HBR.out.trans (hb.mono hbs))
      clear hown hb hbs
      go_wp2_with fail
      refine (repeat_any _ _ wo 5 (by decide) (Blk.cell (Blk.new w18 3 #[.int .i64 wo]) 0)).mono ?_
      rintro e w19 ⟨⟨u, rfl, hown⟩, hb9⟩
      have hb : Below w18.heap.size w18 w19 := (nalcW w18 (.cells #[.int .i64 wo] 3)).trans (hb9.mono (by simp))
      have hbs : w17.heap.size ≤ w18.heap.size := HBR.out.size
      obtain ⟨A_zk, m_zk, c_zk, rfl⟩ := own_slice hown
      have hown2 := own_le hown (show w17.heap.size ≤ (w18.alloc (.cells #[.int .i64 wo] 3)).heap.size from Nat.le_trans hbs (by simp))
      replace Hzj := hide (owns_below Hzj.out hb)
      have Hzk := hide hown2
      replace HBR := hide (HBR.out.trans (hb.mono hbs))
      clear hown hown2 hb9 hb hbs
      have hbs : w17.heap.size ≤ w19.heap.size := HBR.out.size
      have hk9 := HK9.out
      have h9 := hide (show (5) = (zcl (List.replicate 5 (wo : Int))).length from by rw [zcl_len]; simp)
      go_wp2_with (at_builtin; refine wpList_append_sl _ rfl _ _ 54 rfl w17.heap.size 3 i0 (.int .i64 0) 8 Tryz.underlying54 hi hz0 hz1 hz2 rfl _ ([bd, bd].length) _ rfl Hzj.out _ (zcl (List.replicate 5 (wo : Int))) rfl (SlL.of_row Hzk.out h9.out) (zcl_one _) ?la1 ?la2 ?la3 ?_)
      try (case la1 => (try rw [zcl_len]); simp [maxLen]; try omega)
      try (case la2 => (try rw [zcl_len]); simp; try omega)
      try (case la3 => simp; omega)
      try (case la3 => exact hbs)
      intro v9 w20 hown9 hgrow9
      have hb : Below w17.heap.size w19 w20 := ((Below.refl w19.heap.size w19).mono hbs).grown hgrow9 hbs (fun k e => (Hzj.out.lt k e).1)
      obtain ⟨A_zl, m_zl, c_zl, rfl⟩ := own_slice hown9
      have hown3 : w20.ownsRow w17.heap.size 3 1 (.slice A_zl m_zl c_zl) ([bd, bd].length + 5) (zcl ([bd, bd] ++ (List.replicate 5 (wo : Int)))) := by
        rw [← zcl_app]
        (try rw [zcl_len] at hown9)
        (try rw [List.length_replicate] at hown9)
        first | exact hown9 | (simp only [List.append_assoc, List.cons_append, List.nil_append] at hown9 ⊢; exact hown9)
      replace HBR := hide (HBR.out.trans hb)
      clear Hzj
      have Hzl := hide hown3
      clear hown9 hown3 hgrow9 hb hbs hk9
      clear h9 Hzk
      have hk9 := HK9.out
      have HV_zl := hide (show SlL w20 (.slice A_zl m_zl c_zl) (zcl ([bd, bd] ++ List.replicate 5 wo)) from SlL.of_row Hzl.out (by rw [zcl_len]; simp; try omega))
      have hb := HBR.out
      clear HBR Hzl hk9
      replace K_s := hide (Blk.below K_s.out hb (Blk.lt K_s.out))
      replace HB := hide (HB.out.trans (hb.mono HB.out.size))
      replace HV_t := hide (HV_t.out.below hb)
      replace HV_zi := hide (HV_zi.out.below hb)
      clear hb
      have HBR := hide (Below.refl w20.heap.size w20)
      go_wp2_with fail
      refine (cloneI_any _ _ ([bd, bd] ++ List.replicate 5 wo) HV_zl.out (by simp)).mono ?_
      rintro e w21 ⟨⟨u, rfl, hown⟩, hb⟩
      have hbs : w20.heap.size ≤ w20.heap.size := HBR.out.size
      obtain ⟨A_zm, m_zm, c_zm, rfl⟩ := own_slice hown
      have Hzm := hide (own_le hown hbs)
      replace HBR := hide (HBR.out.trans (hb.mono hbs))
      clear hown hb hbs
      have hbs : w20.heap.size ≤ w21.heap.size := HBR.out.size
      have hk9 := HK9.out
      go_wp2_with (at_builtin; refine wpList_append_sl _ rfl _ _ 54 rfl w20.heap.size 3 i0 (.int .i64 0) 8 Tryz.underlying54 hi hz0 hz1 hz2 rfl _ ([bd, bd] ++ List.replicate 5 wo).length _ rfl (Hzm.out.alloc (.cells #[.int .i64 (-1)] 3)) _ [.int .i64 (-1)] rfl (SlL.one _ _ _) (by intro u hu; simp at hu; subst hu; rfl) ?la1 ?la2 ?la3 ?_)
      try (case la1 => (try rw [zcl_len]); simp [maxLen]; try omega)
      try (case la2 => (try rw [zcl_len]); simp; try omega)
      try (case la3 => simp; omega)
      try (case la3 => exact hbs)
      intro v9 w22 hown9 hgrow9
      have hb : Below w20.heap.size w21 w22 := ((nalcW w21 (.cells #[.int .i64 (-1)] 3)).mono hbs).grown hgrow9 (Nat.le_trans hbs (by simp)) (fun k e => ((Hzm.out.alloc (.cells #[.int .i64 (-1)] 3)).lt k e).1)
      obtain ⟨A_zn, m_zn, c_zn, rfl⟩ := own_slice hown9
      have hown3 : w22.ownsRow w20.heap.size 3 1 (.slice A_zn m_zn c_zn) (([bd, bd] ++ List.replicate 5 wo).length + 1) (zcl (([bd, bd] ++ List.replicate 5 wo) ++ [((-1) : Int)])) := by
        rw [← zcl_app]
        (try rw [zcl_len] at hown9)
        (try rw [List.length_replicate] at hown9)
        first | exact hown9 | (simp only [List.append_assoc, List.cons_append, List.nil_append] at hown9 ⊢; exact hown9)
      replace HBR := hide (HBR.out.trans hb)
      clear Hzm
      have Hzn := hide hown3
      clear hown9 hown3 hgrow9 hb hbs hk9
      have hk9 := HK9.out
      have HV_zn := hide (show SlL w22 (.slice A_zn m_zn c_zn) (zcl ([bd, bd] ++ List.replicate 5 wo ++ [(-1 : Int)])) from SlL.of_row Hzn.out (by rw [zcl_len]; simp; try omega))
      have hb := HBR.out
      clear HBR Hzn hk9
      replace K_s := hide (Blk.below K_s.out hb (Blk.lt K_s.out))
      replace HB := hide (HB.out.trans (hb.mono HB.out.size))
      replace HV_t := hide (HV_t.out.below hb)
      replace HV_zi := hide (HV_zi.out.below hb)
      replace HV_zl := hide (HV_zl.out.below hb)
      clear hb
      go_wp2_with fail
      refine (M_tig.out _ _ HV_t.out K_s.out).mono ?_
      rintro e w23 ⟨rfl, hb⟩
      replace K_s := hide (Blk.below K_s.out hb (Blk.lt K_s.out))
      replace HB := hide (HB.out.trans (hb.mono HB.out.size))
      replace HV_t := hide (HV_t.out.below hb)
      replace HV_zi := hide (HV_zi.out.below hb)
      replace HV_zl := hide (HV_zl.out.below hb)
      replace HV_zn := hide (HV_zn.out.below hb)
      clear hb
      go_wp2_with fail
      refine (M_bac.out _ _ HV_zi.out K_s.out).mono ?_
      rintro e w24 ⟨rfl, hb⟩
      replace K_s := hide (Blk.below K_s.out hb (Blk.lt K_s.out))
      replace HB := hide (HB.out.trans (hb.mono HB.out.size))
      replace HV_t := hide (HV_t.out.below hb)
      replace HV_zi := hide (HV_zi.out.below hb)
      replace HV_zl := hide (HV_zl.out.below hb)
      replace HV_zn := hide (HV_zn.out.below hb)
      clear hb
      go_wp2_with fail
      refine (M_sto.out _ _ HV_zl.out K_s.out).mono ?_
      rintro e w25 ⟨rfl, hb⟩
      replace K_s := hide (Blk.below K_s.out hb (Blk.lt K_s.out))
      replace HB := hide (HB.out.trans (hb.mono HB.out.size))
      replace HV_t := hide (HV_t.out.below hb)
      replace HV_zi := hide (HV_zi.out.below hb)
      replace HV_zl := hide (HV_zl.out.below hb)
      replace HV_zn := hide (HV_zn.out.below hb)
      clear hb
      go_wp2_with fail
      refine (M_aga.out _ _ HV_zn.out K_s.out).mono ?_
      rintro e w26 ⟨rfl, hb⟩
      replace K_s := hide (Blk.below K_s.out hb (Blk.lt K_s.out))
      replace HB := hide (HB.out.trans (hb.mono HB.out.size))
      replace HV_t := hide (HV_t.out.below hb)
      replace HV_zi := hide (HV_zi.out.below hb)
      replace HV_zl := hide (HV_zl.out.below hb)
      replace HV_zn := hide (HV_zn.out.below hb)
      clear hb
      go_wp2_with fail
      refine (HAW.out _ (HS.out.below HB.out (Nat.le_refl _))).mono ?_
      rintro e w27 ⟨rfl, hb⟩
      replace K_s := hide (Blk.below K_s.out hb (Blk.lt K_s.out))
      replace HB := hide (HB.out.trans (hb.mono HB.out.size))
      replace HV_t := hide (HV_t.out.below hb)
      replace HV_zi := hide (HV_zi.out.below hb)
      replace HV_zl := hide (HV_zl.out.below hb)
      replace HV_zn := hide (HV_zn.out.below hb)
      clear hb
      go_wp2_with fail
      go_ret
      exact ⟨rfl, HB.out⟩
    · have i3 : ¬ (k : Int) ≤ 3 := by omega
      have MTW := M_two.out
      rw [if_neg hk3] at MTW
      replace M_two := hide MTW
      clear MTW hk3
      have HBR := hide (Below.refl w8.heap.size w8)
      go_wp2_with fail
      refine (repeat_any _ _ 0 10 (by decide) (Blk.cell (Blk.new w8 3 #[.int .i64 0]) 0)).mono ?_
      rintro e w9 ⟨⟨u, rfl, hown⟩, hb9⟩
      have hb : Below w8.heap.size w8 w9 := (nalcW w8 (.cells #[.int .i64 0] 3)).trans (hb9.mono (by simp))
      have hbs : w8.heap.size ≤ w8.heap.size := HBR.out.size
      obtain ⟨A_zf, m_zf, c_zf, rfl⟩ := own_slice hown
      have hown2 := own_le hown (show w8.heap.size ≤ (w8.alloc (.cells #[.int .i64 0] 3)).heap.size from Nat.le_trans hbs (by simp))
      have Hzf := hide hown2
      replace HBR := hide (HBR.out.trans (hb.mono hbs))
      clear hown hown2 hb9 hb hbs
      have hk9 := HK9.out
      have HV_zf := hide (show SlL w9 (.slice A_zf m_zf c_zf) (zcl (List.replicate 10 (0 : Int))) from SlL.of_row Hzf.out (by rw [zcl_len]; simp; try omega))
      have hb := HBR.out
      clear HBR Hzf hk9
      replace K_s := hide (Blk.below K_s.out hb (Blk.lt K_s.out))
      replace HB := hide (HB.out.trans (hb.mono HB.out.size))
      replace HV_ze := hide (HV_ze.out.below hb)
      clear hb
      go_wp2_with fail
      refine (M_ten.out _ _ HV_zf.out K_s.out).mono ?_
      rintro e w10 ⟨rfl, hb⟩
      replace K_s := hide (Blk.below K_s.out hb (Blk.lt K_s.out))
      replace HB := hide (HB.out.trans (hb.mono HB.out.size))
      replace HV_ze := hide (HV_ze.out.below hb)
      replace HV_zf := hide (HV_zf.out.below hb)
      clear hb
      clear HV_zf
      have HBR := hide (Below.refl w10.heap.size w10)
      go_wp2_with fail
      refine (repeat_any _ _ 0 9 (by decide) (Blk.cell (Blk.new w10 3 #[.int .i64 0]) 0)).mono ?_
      rintro e w11 ⟨⟨u, rfl, hown⟩, hb9⟩
      have hb : Below w10.heap.size w10 w11 := (nalcW w10 (.cells #[.int .i64 0] 3)).trans (hb9.mono (by simp))
      have hbs : w10.heap.size ≤ w10.heap.size := HBR.out.size
      obtain ⟨A_zf, m_zf, c_zf, rfl⟩ := own_slice hown
      have hown2 := own_le hown (show w10.heap.size ≤ (w10.alloc (.cells #[.int .i64 0] 3)).heap.size from Nat.le_trans hbs (by simp))
      have Hzf := hide hown2
      replace HBR := hide (HBR.out.trans (hb.mono hbs))
      clear hown hown2 hb9 hb hbs
      have hk9 := HK9.out
      have HV_zf := hide (show SlL w11 (.slice A_zf m_zf c_zf) (zcl (List.replicate 9 (0 : Int))) from SlL.of_row Hzf.out (by rw [zcl_len]; simp; try omega))
      have hb := HBR.out
      clear HBR Hzf hk9
      replace K_s := hide (Blk.below K_s.out hb (Blk.lt K_s.out))
      replace HB := hide (HB.out.trans (hb.mono HB.out.size))
      replace HV_ze := hide (HV_ze.out.below hb)
      clear hb
      go_wp2_with fail
      refine (M_nin.out _ _ HV_zf.out K_s.out).mono ?_
      rintro e w12 ⟨rfl, hb⟩
      replace K_s := hide (Blk.below K_s.out hb (Blk.lt K_s.out))
      replace HB := hide (HB.out.trans (hb.mono HB.out.size))
      replace HV_ze := hide (HV_ze.out.below hb)
      replace HV_zf := hide (HV_zf.out.below hb)
      clear hb
      clear HV_zf
      go_wp2_with fail
      refine (M_two.out _ _ HV_ze.out K_s.out).mono ?_
      rintro e w13 ⟨rfl, hb⟩
      replace K_s := hide (Blk.below K_s.out hb (Blk.lt K_s.out))
      replace HB := hide (HB.out.trans (hb.mono HB.out.size))
      replace HV_ze := hide (HV_ze.out.below hb)
      clear hb
      clear HV_ze i3
      have hv9 : SlL (w13.alloc (.cells #[.int .i64 bd, .int .i64 bd] 3)) (.slice (some ⟨w13.heap.size, 0, none⟩) 2 2) (zcl [bd, bd]) := SlL.two w13 3 (.int .i64 bd) (.int .i64 bd)
      have HV_t := hide hv9
      clear hv9
      go_upto_region 15 with (fail)
      replace K_s := K_s.out.alloc (.cells #[.int .i64 bd, .int .i64 bd] 3)
      replace HB := HB.out.alloc HB.out.size (.cells #[.int .i64 bd, .int .i64 bd] 3)
      generalize w13.alloc (.cells #[.int .i64 bd, .int .i64 bd] 3) = w14 at *
      replace K_s := hide K_s
      replace HB := hide HB
      have HBR := hide (Below.refl w14.heap.size w14)
      go_wp2_with fail
      refine (cloneI_any _ _ [bd, bd] HV_t.out (by simp)).mono ?_
      rintro e w15 ⟨⟨u, rfl, hown⟩, hb⟩
      have hbs : w14.heap.size ≤ w14.heap.size := HBR.out.size
      obtain ⟨A_zg, m_zg, c_zg, rfl⟩ := own_slice hown
      have Hzg := hide (own_le hown hbs)
      replace HBR := hide (HBR.out.trans (hb.mono hbs))
      clear hown hb hbs
      go_wp2_with fail
      refine (repeat_any _ _ 0 5 (by decide) (Blk.cell (Blk.new w15 3 #[.int .i64 0]) 0)).mono ?_
      rintro e w16 ⟨⟨u, rfl, hown⟩, hb9⟩
      have hb : Below w15.heap.size w15 w16 := (nalcW w15 (.cells #[.int .i64 0] 3)).trans (hb9.mono (by simp))
      have hbs : w14.heap.size ≤ w15.heap.size := HBR.out.size
      obtain ⟨A_zh, m_zh, c_zh, rfl⟩ := own_slice hown
      have hown2 := own_le hown (show w14.heap.size ≤ (w15.alloc (.cells #[.int .i64 0] 3)).heap.size from Nat.le_trans hbs (by simp))
      replace Hzg := hide (owns_below Hzg.out hb)
      have Hzh := hide hown2
      replace HBR := hide (HBR.out.trans (hb.mono hbs))
      clear hown hown2 hb9 hb hbs
      have hbs : w14.heap.size ≤ w16.heap.size := HBR.out.size
      have hk9 := HK9.out
      have h9 := hide (show (5) = (zcl (List.replicate 5 (0 : Int))).length from by rw [zcl_len]; simp)
      go_wp2_with (at_builtin; refine wpList_append_sl _ rfl _ _ 54 rfl w14.heap.size 3 i0 (.int .i64 0) 8 Tryz.underlying54 hi hz0 hz1 hz2 rfl _ ([bd, bd].length) _ rfl Hzg.out _ (zcl (List.replicate 5 (0 : Int))) rfl (SlL.of_row Hzh.out h9.out) (zcl_one _) ?la1 ?la2 ?la3 ?_)
      try (case la1 => (try rw [zcl_len]); simp [maxLen]; try omega)
      try (case la2 => (try rw [zcl_len]); simp; try omega)
      try (case la3 => simp; omega)
      try (case la3 => exact hbs)
      intro v9 w17 hown9 hgrow9
      have hb : Below w14.heap.size w16 w17 := ((Below.refl w16.heap.size w16).mono hbs).grown hgrow9 hbs (fun k e => (Hzg.out.lt k e).1)
      obtain ⟨A_zi, m_zi, c_zi, rfl⟩ := own_slice hown9
      have hown3 : w17.ownsRow w14.heap.size 3 1 (.slice A_zi m_zi c_zi) ([bd, bd].length + 5) (zcl ([bd, bd] ++ (List.replicate 5 (0 : Int)))) := by
        rw [← zcl_app]
        (try rw [zcl_len] at hown9)
        (try rw [List.length_replicate] at hown9)
        first | exact hown9 | (simp only [List.append_assoc, List.cons_append, List.nil_append] at hown9 ⊢; exact hown9)
      replace HBR := hide (HBR.out.trans hb)
      clear Hzg
      have Hzi := hide hown3
      clear hown9 hown3 hgrow9 hb hbs hk9
      clear h9 Hzh
      have hk9 := HK9.out
      have HV_zi := hide (show SlL w17 (.slice A_zi m_zi c_zi) (zcl ([bd, bd] ++ List.replicate 5 (0 : Int))) from SlL.of_row Hzi.out (by rw [zcl_len]; simp; try omega))
      have hb := HBR.out
      clear HBR Hzi hk9
      replace K_s := hide (Blk.below K_s.out hb (Blk.lt K_s.out))
      replace HB := hide (HB.out.trans (hb.mono HB.out.size))
      replace HV_t := hide (HV_t.out.below hb)
      clear hb
      have HBR := hide (Below.refl w17.heap.size w17)
      go_wp2_with fail
      refine (cloneI_any _ _ [bd, bd] HV_t.out (by simp)).mono ?_
      rintro e w18 ⟨⟨u, rfl, hown⟩, hb⟩
      have hbs : w17.heap.size ≤ w17.heap.size := HBR.out.size
      obtain ⟨A_zj, m_zj, c_zj, rfl⟩ := own_slice hown
      have Hzj := hide (own_le hown hbs)
      replace HBR := hide (HBR.out.trans (hb.mono hbs))
      clear hown hb hbs
      go_wp2_with fail
      refine (repeat_any _ _ wo 5 (by decide) (Blk.cell (Blk.new w18 3 #[.int .i64 wo]) 0)).mono ?_
      rintro e w19 ⟨⟨u, rfl, hown⟩, hb9⟩
      have hb : Below w18.heap.size w18 w19 := (nalcW w18 (.cells #[.int .i64 wo] 3)).trans (hb9.mono (by simp))
      have hbs : w17.heap.size ≤ w18.heap.size := HBR.out.size
      obtain ⟨A_zk, m_zk, c_zk, rfl⟩ := own_slice hown
      have hown2 := own_le hown (show w17.heap.size ≤ (w18.alloc (.cells #[.int .i64 wo] 3)).heap.size from Nat.le_trans hbs (by simp))
      replace Hzj := hide (owns_below Hzj.out hb)
      have Hzk := hide hown2
      replace HBR := hide (HBR.out.trans (hb.mono hbs))
      clear hown hown2 hb9 hb hbs
      have hbs : w17.heap.size ≤ w19.heap.size := HBR.out.size
      have hk9 := HK9.out
      have h9 := hide (show (5) = (zcl (List.replicate 5 (wo : Int))).length from by rw [zcl_len]; simp)
      go_wp2_with (at_builtin; refine wpList_append_sl _ rfl _ _ 54 rfl w17.heap.size 3 i0 (.int .i64 0) 8 Tryz.underlying54 hi hz0 hz1 hz2 rfl _ ([bd, bd].length) _ rfl Hzj.out _ (zcl (List.replicate 5 (wo : Int))) rfl (SlL.of_row Hzk.out h9.out) (zcl_one _) ?la1 ?la2 ?la3 ?_)
      try (case la1 => (try rw [zcl_len]); simp [maxLen]; try omega)
      try (case la2 => (try rw [zcl_len]); simp; try omega)
      try (case la3 => simp; omega)
      try (case la3 => exact hbs)
      intro v9 w20 hown9 hgrow9
      have hb : Below w17.heap.size w19 w20 := ((Below.refl w19.heap.size w19).mono hbs).grown hgrow9 hbs (fun k e => (Hzj.out.lt k e).1)
      obtain ⟨A_zl, m_zl, c_zl, rfl⟩ := own_slice hown9
      have hown3 : w20.ownsRow w17.heap.size 3 1 (.slice A_zl m_zl c_zl) ([bd, bd].length + 5) (zcl ([bd, bd] ++ (List.replicate 5 (wo : Int)))) := by
        rw [← zcl_app]
        (try rw [zcl_len] at hown9)
        (try rw [List.length_replicate] at hown9)
        first | exact hown9 | (simp only [List.append_assoc, List.cons_append, List.nil_append] at hown9 ⊢; exact hown9)
      replace HBR := hide (HBR.out.trans hb)
      clear Hzj
      have Hzl := hide hown3
      clear hown9 hown3 hgrow9 hb hbs hk9
      clear h9 Hzk
      have hk9 := HK9.out
      have HV_zl := hide (show SlL w20 (.slice A_zl m_zl c_zl) (zcl ([bd, bd] ++ List.replicate 5 wo)) from SlL.of_row Hzl.out (by rw [zcl_len]; simp; try omega))
      have hb := HBR.out
      clear HBR Hzl hk9
      replace K_s := hide (Blk.below K_s.out hb (Blk.lt K_s.out))
      replace HB := hide (HB.out.trans (hb.mono HB.out.size))
      replace HV_t := hide (HV_t.out.below hb)
      replace HV_zi := hide (HV_zi.out.below hb)
      clear hb
      have HBR := hide (Below.refl w20.heap.size w20)
      go_wp2_with fail
      refine (cloneI_any _ _ ([bd, bd] ++ List.replicate 5 wo) HV_zl.out (by simp)).mono ?_
      rintro e w21 ⟨⟨u, rfl, hown⟩, hb⟩
      have hbs : w20.heap.size ≤ w20.heap.size := HBR.out.size
      obtain ⟨A_zm, m_zm, c_zm, rfl⟩ := own_slice hown
      have Hzm := hide (own_le hown hbs)
      replace HBR := hide (HBR.out.trans (hb.mono hbs))
      clear hown hb hbs
      have hbs : w20.heap.size ≤ w21.heap.size := HBR.out.size
      have hk9 := HK9.out
      go_wp2_with (at_builtin; refine wpList_append_sl _ rfl _ _ 54 rfl w20.heap.size 3 i0 (.int .i64 0) 8 Tryz.underlying54 hi hz0 hz1 hz2 rfl _ ([bd, bd] ++ List.replicate 5 wo).length _ rfl (Hzm.out.alloc (.cells #[.int .i64 (-1)] 3)) _ [.int .i64 (-1)] rfl (SlL.one _ _ _) (by intro u hu; simp at hu; subst hu; rfl) ?la1 ?la2 ?la3 ?_)
      try (case la1 => (try rw [zcl_len]); simp [maxLen]; try omega)
      try (case la2 => (try rw [zcl_len]); simp; try omega)
      try (case la3 => simp; omega)
      try (case la3 => exact hbs)
      intro v9 w22 hown9 hgrow9
      have hb : Below w20.heap.size w21 w22 := ((nalcW w21 (.cells #[.int .i64 (-1)] 3)).mono hbs).grown hgrow9 (Nat.le_trans hbs (by simp)) (fun k e => ((Hzm.out.alloc (.cells #[.int .i64 (-1)] 3)).lt k e).1)
      obtain ⟨A_zn, m_zn, c_zn, rfl⟩ := own_slice hown9
      have hown3 : w22.ownsRow w20.heap.size 3 1 (.slice A_zn m_zn c_zn) (([bd, bd] ++ List.replicate 5 wo).length + 1) (zcl (([bd, bd] ++ List.replicate 5 wo) ++ [((-1) : Int)])) := by
        rw [← zcl_app]
        (try rw [zcl_len] at hown9)
        (try rw [List.length_replicate] at hown9)
        first | exact hown9 | (simp only [List.append_assoc, List.cons_append, List.nil_append] at hown9 ⊢; exact hown9)
      replace HBR := hide (HBR.out.trans hb)
      clear Hzm
      have Hzn := hide hown3
      clear hown9 hown3 hgrow9 hb hbs hk9
      have hk9 := HK9.out
      have HV_zn := hide (show SlL w22 (.slice A_zn m_zn c_zn) (zcl ([bd, bd] ++ List.replicate 5 wo ++ [(-1 : Int)])) from SlL.of_row Hzn.out (by rw [zcl_len]; simp; try omega))
      have hb := HBR.out
      clear HBR Hzn hk9
      replace K_s := hide (Blk.below K_s.out hb (Blk.lt K_s.out))
      replace HB := hide (HB.out.trans (hb.mono HB.out.size))
      replace HV_t := hide (HV_t.out.below hb)
      replace HV_zi := hide (HV_zi.out.below hb)
      replace HV_zl := hide (HV_zl.out.below hb)
      clear hb
      go_wp2_with fail
      refine (M_tig.out _ _ HV_t.out K_s.out).mono ?_
      rintro e w23 ⟨rfl, hb⟩
      replace K_s := hide (Blk.below K_s.out hb (Blk.lt K_s.out))
      replace HB := hide (HB.out.trans (hb.mono HB.out.size))
      replace HV_t := hide (HV_t.out.below hb)
      replace HV_zi := hide (HV_zi.out.below hb)
      replace HV_zl := hide (HV_zl.out.below hb)
      replace HV_zn := hide (HV_zn.out.below hb)
      clear hb
      go_wp2_with fail
      refine (M_bac.out _ _ HV_zi.out K_s.out).mono ?_
      rintro e w24 ⟨rfl, hb⟩
      replace K_s := hide (Blk.below K_s.out hb (Blk.lt K_s.out))
      replace HB := hide (HB.out.trans (hb.mono HB.out.size))
      replace HV_t := hide (HV_t.out.below hb)
      replace HV_zi := hide (HV_zi.out.below hb)
      replace HV_zl := hide (HV_zl.out.below hb)
      replace HV_zn := hide (HV_zn.out.below hb)
      clear hb
      go_wp2_with fail
      refine (M_sto.out _ _ HV_zl.out K_s.out).mono ?_
      rintro e w25 ⟨rfl, hb⟩
      replace K_s := hide (Blk.below K_s.out hb (Blk.lt K_s.out))
      replace HB := hide (HB.out.trans (hb.mono HB.out.size))
      replace HV_t := hide (HV_t.out.below hb)
      replace HV_zi := hide (HV_zi.out.below hb)
      replace HV_zl := hide (HV_zl.out.below hb)
      replace HV_zn := hide (HV_zn.out.below hb)
      clear hb
      go_wp2_with fail
      refine (M_aga.out _ _ HV_zn.out K_s.out).mono ?_
      rintro e w26 ⟨rfl, hb⟩
      replace K_s := hide (Blk.below K_s.out hb (Blk.lt K_s.out))
      replace HB := hide (HB.out.trans (hb.mono HB.out.size))
      replace HV_t := hide (HV_t.out.below hb)
      replace HV_zi := hide (HV_zi.out.below hb)
      replace HV_zl := hide (HV_zl.out.below hb)
      replace HV_zn := hide (HV_zn.out.below hb)
      clear hb
      go_wp2_with fail
      refine (HAW.out _ (HS.out.below HB.out (Nat.le_refl _))).mono ?_
      rintro e w27 ⟨rfl, hb⟩
      replace K_s := hide (Blk.below K_s.out hb (Blk.lt K_s.out))
      replace HB := hide (HB.out.trans (hb.mono HB.out.size))
      replace HV_t := hide (HV_t.out.below hb)
      replace HV_zi := hide (HV_zi.out.below hb)
      replace HV_zl := hide (HV_zl.out.below hb)
      replace HV_zn := hide (HV_zn.out.below hb)
      clear hb
      go_wp2_with fail
      go_ret
      exact ⟨rfl, HB.out⟩
  · have i1 : (ck == 0) = false := by simpa using hc0
    have i2 : (ck != 0) = true := by simpa using hc0
    clear hc0
    unfold schV at HOW HRK ⊢
    have HB := allocs_below w [.cells #[.int .i64 (S 0).1, .int .i64 (S 0).2, .int .i64 (S 1).1, .int .i64 (S 1).2, .int .i64 (S 2).1, .int .i64 (S 2).2] 26]
    have K_s : Blk (allocs w [.cells #[.int .i64 (S 0).1, .int .i64 (S 0).2, .int .i64 (S 1).1, .int .i64 (S 1).2, .int .i64 (S 2).1, .int .i64 (S 2).2] 26]) (w.heap.size + 0) 26 #[.int .i64 (S 0).1, .int .i64 (S 0).2, .int .i64 (S 1).1, .int .i64 (S 1).2, .int .i64 (S 2).1, .int .i64 (S 2).2] := allocs_at w [.cells #[.int .i64 (S 0).1, .int .i64 (S 0).2, .int .i64 (S 1).1, .int .i64 (S 1).2, .int .i64 (S 2).1, .int .i64 (S 2).2] 26] 0 rfl
    unfold allocs at HB K_s
    simp only [List.foldl_cons, List.foldl_nil] at HB K_s
    rw [Nat.add_zero] at K_s
    go_enter Tryz.func11, Tryz.ntmps11
    go_upto_region 1 with (fail)
    generalize (w.alloc (.cells #[.int .i64 (S 0).1, .int .i64 (S 0).2, .int .i64 (S 1).1, .int .i64 (S 1).2, .int .i64 (S 2).1, .int .i64 (S 2).2] 26)) = w0 at *
    replace K_s := hide K_s
    replace HB := hide HB
    have s0 := (Blk.cell K_s.out 0).trans (rfl : _ = some (Value.int .i64 (S 0).1))
    have s1 := (Blk.cell K_s.out 1).trans (rfl : _ = some (Value.int .i64 (S 0).2))
    have s2 := (Blk.cell K_s.out 2).trans (rfl : _ = some (Value.int .i64 (S 1).1))
    have s3 := (Blk.cell K_s.out 3).trans (rfl : _ = some (Value.int .i64 (S 1).2))
    have s4 := (Blk.cell K_s.out 4).trans (rfl : _ = some (Value.int .i64 (S 2).1))
    have s5 := (Blk.cell K_s.out 5).trans (rfl : _ = some (Value.int .i64 (S 2).2))
    go_wp2_with fail
    refine (HOW.out _).mono ?_
    rintro e w1 ⟨rfl, hb⟩
    clear s0 s1 s2 s3 s4 s5
    replace K_s := hide (Blk.below K_s.out hb (Blk.lt K_s.out))
    replace HB := hide (HB.out.trans (hb.mono HB.out.size))
    clear hb
    go_wp2_with fail
    refine (HRK.out _).mono ?_
    rintro e w2 ⟨rfl, hb⟩
    replace K_s := hide (Blk.below K_s.out hb (Blk.lt K_s.out))
    replace HB := hide (HB.out.trans (hb.mono HB.out.size))
    clear hb
    go_wp2_with fail
    refine (HAW.out _ (HS.out.below HB.out (Nat.le_refl _))).mono ?_
    rintro e w3 ⟨rfl, hb⟩
    replace K_s := hide (Blk.below K_s.out hb (Blk.lt K_s.out))
    replace HB := hide (HB.out.trans (hb.mono HB.out.size))
    clear hb
    go_wp2_with fail
    go_ret
    exact ⟨rfl, HB.out⟩
end Go.Proofs.YthmmgjieppknkaaGreatDoor
