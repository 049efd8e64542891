/- Contracts and plain laws that the statements of this seat share (part Thaj). -/
import Derived.Test.YthmmgjieppknkaaGreatDoorThaa
import Derived.Test.YthmmgjieppknkaaGreatDoorThab
import Derived.Test.YthmmgjieppknkaaGreatDoorThac
import Derived.Test.YthmmgjieppknkaaGreatDoorThad
import Derived.Test.YthmmgjieppknkaaGreatDoorThae
import Derived.Test.YthmmgjieppknkaaGreatDoorThaf
import Derived.Test.YthmmgjieppknkaaGreatDoorThag
import Derived.Test.YthmmgjieppknkaaGreatDoorThah
import Derived.Test.YthmmgjieppknkaaGreatDoorThai
import Derived.Test.YthmmgjieppknkaaGreatDoorKtaa
import Derived.Test.YthmmgjieppknkaaGreatDoorKtab
import Derived.Test.YthmmgjieppknkaaGreatDoorKtac
import Derived.Test.YthmmgjieppknkaaGreatDoorKtad
import Derived.Test.YthmmgjieppknkaaGreatDoorKtag
import Derived.Test.YthmmgjieppknkaaGreatDoorKtai
import Derived.Test.YthmmgjieppknkaaGreatDoorKtak
import Derived.Test.YthmmgjieppknkaaGreatDoorKtal
import Derived.Test.YthmmgjieppknkaaGreatDoorKtam
import Derived.Test.YthmmgjieppknkaaGreatDoorKtaq
import Derived.Test.YthmmgjieppknkaaGreatDoorKtar
import Derived.Test.YthmmgjieppknkaaGreatDoorKtas
import Derived.Test.YthmmgjieppknkaaGreatDoorKtat
import Derived.Test.YthmmgjieppknkaaGreatDoorKtau
import Derived.Test.YthmmgjieppknkaaGreatDoorKtax
import Derived.RangeFuncNested
import Derived.RangeFuncBox
import Derived.RangeFuncBound
import Derived.RangeFuncCalls
import Derived.RangeFuncLeaves
import Derived.Shelf.Abstract
import Derived.Shelf.RegionOpen
import Derived.OwnWalkIn
import Derived.TacticsInMore
import Derived.LoopNIn
import Derived.LoopIn
import Derived.Test.YthmmgjieppknkaaGreatDoorChecked
import Derived.WalkKit
import Derived.WalkSpells
import Derived.WalkLawsBesides
import Derived.Lib.Hide
import Derived.IntWalk
import Derived.BigQuiet
import Derived.Deep.QuietTactic
import Derived.Deep.LoopGhost
import Derived.Deep.DeepCutAuto
import Derived.Deep.DeepFit
import Derived.Deep.Light
import Derived.Outline
import Derived.Laws.Rows
import Derived.Laws.NewBlocks
import Derived.Laws.CopyOwn
import Derived.Laws.Tables
import Derived.Lib.ItoaNum
import Derived.Lib.ItoaLen
import Derived.Lib.Atoi
import Derived.Lib.AtoiAll
import Derived.Lib.Strings
import Derived.Lib.SlTrimSet
import Derived.Maps.AppendAt
import Derived.Deep.RegionHeld3
import Derived.Laws.ResultCell
import Derived.ChangeKeysEq
import Derived.DeepKeys
import Derived.Lib.IndexMore
import Derived.Lib.IndexBytes
import Derived.Lib.IndexLaws
import Derived.Deep.RegionWith
import Derived.Deep.RegionLaw
import Derived.RegionTactic
import Derived.Lib.Builder
import Derived.Lib.AppendStr
import Derived.Laws.Externs
import Derived.WalkSmall
import Derived.Lib.AtoiErrMem
import Derived.Shelf.Strings.SlTrimAscii
import Derived.Shelf.Strings.Builder1
import Derived.Shelf.Strings.Trim
import Derived.Shelf.Small.Utf8
import Derived.Shelf.Small.Strs
import Derived.Shelf.Strings.BuilderF
import Derived.Shelf.Strings.BuilderK
import Derived.Shelf.Strconv.Atoi
import Derived.Shelf.Strconv.Itoa0
import Derived.Shelf.Strconv.Itoa1
import Derived.Shelf.LaysM
import Derived.Shelf.Strconv.Itoa2
import Derived.Shelf.Strconv.Itoa3
import Derived.Shelf.Strings.Search1
import Derived.Shelf.Strings.Search2
import Derived.Shelf.Strings.Cut
import Derived.Shelf.Strings.Shaped
import Derived.Shelf.Strings.Prefix
import Derived.Shelf.Unicode.Decode
import Derived.Shelf.Strings.Runes
import Derived.Shelf.Strings.AsciiSet
import Derived.Shelf.Bits.Mul64
import Derived.Shelf.Unicode.DecodeSlow
import Derived.Shelf.Unicode.DecodeAny
import Derived.Shelf.Unicode.DecodeLast
import Derived.Ground.Names2Prog
import Derived.Shelf.Slices.Clone
import Derived.Ground.SlgnProg
import Derived.Shelf.SlicesE.Clone
import Derived.Test.YthmmgjieppknkaaGreatDoorProg
import Derived.Laws.OwnMore
import Derived.Maps.OwnOps
import Derived.Deep.RegionHeld
import Derived.DeepKeys4
import Derived.Deep.AppendLies
import Derived.OwnWalk
import Derived.Maps.RangeWalk
namespace Go.Proofs.YthmmgjieppknkaaGreatDoor
open Go.RowKit Go.Shelf Go.Maps MLab
theorem caseB_true {S : Nat → Int × Int} (h : caseB S = true) : ∀ j, j < 3 → 1 ≤ (S j).1 ∧ (S j).1 ≤ 12 ∧ 0 ≤ (S j).2 ∧ (S j).2 < (S j).1 := by
  intro j hj
  refine Classical.byContradiction fun hn => ?_
  rw [caseB_bad hj hn] at h
  cases h
end Go.Proofs.YthmmgjieppknkaaGreatDoor

namespace Go.Proofs.YthmmgjieppknkaaGreatDoor
open Go.RowKit Go.Shelf Go.Maps MLab
theorem idx_r4 {a : Nat → ByteArray} {j : Nat} (hj : j < 4) (w : World) :
    (Instr.index 68 (.agg #[.string (a 0), .string (a 1), .string (a 2), .string (a 3)]) (.int .i64 (j : Int))).run Tryz.prog w = .ok (.string (a j)) w := by
  obtain ⟨i, hi⟩ : ∃ i, Tryz.prog.info? 65 = some i := Option.isSome_iff_exists.1 (by kernel_rfl)
  refine run_index_plain (show Tryz.prog.underlying 68 = some (.array 4 65) by kernel_rfl) hi (by kernel_rfl) (by kernel_rfl) hj ?_ w
  rcases (by omega : j = 0 ∨ j = 1 ∨ j = 2 ∨ j = 3) with rfl | rfl | rfl | rfl <;> rfl
theorem rchk_zeroT (W : World) {q : Rat} (h : Sz 500 500 q) : Calls Tryz.prog 35 #[.string ⟨(RT q).toArray⟩] W fun e w' => e = .returned (.int .i64 0) ∧ Below W.heap.size W w' := by
  have hF := h.fit (by omega) (by omega)
  have h := rrcheck_any W ⟨(RT q).toArray⟩ (RT q) rfl (by rw [Lib.size_eq]; have := RT_len hF; show (RT q).length ≤ 200000; omega)
  rw [chkR_RT hF] at h
  exact h
theorem one_sub_sz {q : Rat} {m : Nat} (h : Sz m m q) (h0 : 0 ≤ q ∧ q ≤ 1) : Sz (m + 1) (m + 1) (1 - q) := by
  obtain ⟨x, y, hx, hy, hx1, hy1⟩ := unit_parts h0.1 h0.2
  obtain ⟨h1, h2⟩ := h
  have hp := Nat.pow_lt_pow_right (a := 10) (by omega) (show m < m + 1 by omega)
  rw [hy] at h2
  refine ⟨?_, ?_⟩
  · rw [hx1]; omega
  · rw [hy1]; omega
theorem tC_sz {k : Nat} {Z : Nat → Nat × Nat} (hk : k ≤ 10) (hZ : ZOk Z) {m : Nat} (hm : m < 3) : Sz 8 8 (tC k Z m) := by
  have h := hZ m hm
  unfold tC
  rw [if_pos hm]
  exact proQ_sz (d := 1) (by omega) (by omega) (Nat.le_of_lt h.2.2) (by omega)
theorem bin_ten (W : World) {k : Nat} {Z : Nat → Nat × Nat} (hk : k ≤ 10) (hZ : ZOk Z) {m : Nat} (hm : m < 3) (hs : Std W) : Calls Tryz.prog 46 #[.agg #[.int .i64 ((Z m).1 : Int), .int .i64 ((Z m).2 : Int)], .string ⟨(RT (Rat.divInt (k : Int) 10)).toArray⟩] W fun e w' => e = .returned (.tuple #[.string ⟨(RT (tC k Z m)).toArray⟩, .int .i64 0]) ∧ Below W.heap.size W w' := by
  obtain ⟨x, y, hx, hy, hxy, hq⟩ := ten_parts hk
  have h := hZ m hm
  have hb := plBin_any W (Z m).1 (Z m).2 x y 1 ⟨(RT (Rat.divInt (k : Int) 10)).toArray⟩ _ rfl hx hy hxy (by omega) h.1 (Nat.le_of_lt h.2.2) (by omega) hs
  rw [hq _ _ (Nat.le_of_lt h.2.2)] at hb
  have e : tC k Z m = proQ k (10 - k) (Z m).1 (Z m).2 := by unfold tC; rw [if_pos hm]
  rw [← e] at hb
  unfold RetRat at hb
  exact hb
theorem aft_ten (W : World) {k : Nat} {Z : Nat → Nat × Nat} (hk : k ≤ 10) (hZ : ZOk Z) (hs : Std W) : Calls Tryz.prog 33 #[.agg #[.string ⟨(RT (tC k Z 0)).toArray⟩, .string ⟨(RT (tC k Z 1)).toArray⟩, .string ⟨(RT (tC k Z 2)).toArray⟩], .int .i64 2] W fun e w' => e = .returned (.tuple #[.agg #[.string ⟨(RT (modeQ (tC k Z) 2 0)).toArray⟩, .string ⟨(RT (modeQ (tC k Z) 2 1)).toArray⟩, .string ⟨(RT (modeQ (tC k Z) 2 2)).toArray⟩, .string ⟨(RT (modeQ (tC k Z) 2 3)).toArray⟩], .int .i64 0]) ∧ Below W.heap.size W w' := by
  refine swaft_any W (tC k Z) 2 (10 ^ 7) (by omega) (tC_gr hk hZ) (fun W hS => ?_) hs
  have hF : ∀ j, j < 3 → Fit (tC k Z j) := fun j hj => (tC_sz hk hZ hj).fit (by omega) (by omega)
  have h := given_any W (tC k Z) (fun j => ⟨(RT (tC k Z j)).toArray⟩) (fun j hj => rfl) (fun j hj => by rw [Lib.size_eq]; have := RT_len (hF j hj); show (RT (tC k Z j)).length < 4000000000; omega) hF hS
  rw [badE_in (fun j hj => tC_in hk hZ j)] at h
  exact h
set_option maxRecDepth 100000 in
set_option maxHeartbeats 8000000 in
theorem aftT_any (w : World) (sb : Nat) (S : Nat → Int × Int) (Z : Nat → Nat × Nat) (k : Nat) (hk : k ≤ 10) (hZ : ZOk Z) (hSZ : ∀ m, m < 3 → (S m).1 = ((Z m).1 : Int) ∧ (S m).2 = ((Z m).2 : Int)) (X Y : Nat → ByteArray) (fr : ByteArray) (hfr : fr = ⟨(RT (Rat.divInt (k : Int) 10)).toArray⟩)
    (hX : ∀ m, X m = ⟨(RT (tC k Z m)).toArray⟩) (hY : ∀ m, Y m = ⟨(RT (modeQ (tC k Z) 2 m)).toArray⟩) (hB : Blk w sb 26 #[.int .i64 (S 0).1, .int .i64 (S 0).2, .int .i64 (S 1).1, .int .i64 (S 1).2, .int .i64 (S 2).1, .int .i64 (S 2).2]) (hs : Std w) :
    Calls Tryz.prog 45 #[.string fr, .pointer (some ⟨sb, 0, none⟩)] w fun e w' => e = .returned (.tuple #[.agg #[.string (Y 0), .string (Y 1), .string (Y 2), .string (Y 3)], .bool true]) ∧ Below w.heap.size w w' := by
  have HS := hide hs
  have K_s := hide hB
  have HB := hide (Below.refl w.heap.size w)
  have HI := hide (fun (j : Nat) (hj : j < 3) W => idx_rule S hj W)
  have HIY := hide (fun (j : Nat) (hj : j < 4) W => idx_r4 (a := Y) hj W)
  have HBN := hide (fun (m : Nat) (hm : m < 3) (W : World) (hS : Std W) => (show Calls Tryz.prog 46 #[.agg #[.int .i64 (S m).1, .int .i64 (S m).2], .string fr] W (fun e w' => e = .returned (.tuple #[.string (X m), .int .i64 0]) ∧ Below W.heap.size W w') from by
    rw [(hSZ m hm).1, (hSZ m hm).2, hfr, hX]; exact bin_ten W hk hZ hm hS))
  have HCX := hide (fun (m : Nat) (hm : m < 3) (W : World) => (show Calls Tryz.prog 35 #[.string (X m)] W (fun e w' => e = .returned (.int .i64 0) ∧ Below W.heap.size W w') from by
    rw [hX]; exact rchk_zeroT W ((tC_sz hk hZ hm).mono (by omega) (by omega))))
  have HCY := hide (fun (m : Nat) (W : World) => (show Calls Tryz.prog 35 #[.string (Y m)] W (fun e w' => e = .returned (.int .i64 0) ∧ Below W.heap.size W w') from by
    rw [hY]; exact rchk_zeroT W (modeQ_szT (tC_gr hk hZ) (by omega) m)))
  have HAF := hide (fun (W : World) (hS : Std W) => (show Calls Tryz.prog 33 #[.agg #[.string (X 0), .string (X 1), .string (X 2)], .int .i64 2] W (fun e w' => e = .returned (.tuple #[.agg #[.string (Y 0), .string (Y 1), .string (Y 2), .string (Y 3)], .int .i64 0]) ∧ Below W.heap.size W w') from by
    rw [hX, hX, hX, hY, hY, hY, hY]; exact aft_ten W hk hZ hS))
  unfold schV at HI
  clear hs hB hk hZ hSZ hfr hX hY
  go_enter Tryz.func45, Tryz.ntmps45
  go_upto_region 1 with (fail)
  have lt_r_s : sb < w.heap.size := Blk.lt K_s.out
  replace K_s := K_s.out.alloc (.cells #[.string ⟨#[]⟩, .string ⟨#[]⟩, .string ⟨#[]⟩, .string ⟨#[]⟩] 68)
  replace HB := HB.out.alloc HB.out.size (.cells #[.string ⟨#[]⟩, .string ⟨#[]⟩, .string ⟨#[]⟩, .string ⟨#[]⟩] 68)
  have K_r := Blk.new w 68 #[.string ⟨#[]⟩, .string ⟨#[]⟩, .string ⟨#[]⟩, .string ⟨#[]⟩]
  generalize w.alloc (.cells #[.string ⟨#[]⟩, .string ⟨#[]⟩, .string ⟨#[]⟩, .string ⟨#[]⟩] 68) = w1 at *
  replace K_s := hide K_s
  replace K_r := hide K_r
  replace HB := hide HB
  go_upto_region 2 with (fail)
  have lt_q_s : sb < w1.heap.size := Blk.lt K_s.out
  have lt_q_r : w.heap.size < w1.heap.size := Blk.lt K_r.out
  replace K_s := K_s.out.alloc (.cells #[.string ⟨#[]⟩, .string ⟨#[]⟩, .string ⟨#[]⟩] 66)
  replace K_r := K_r.out.alloc (.cells #[.string ⟨#[]⟩, .string ⟨#[]⟩, .string ⟨#[]⟩] 66)
  replace HB := HB.out.alloc HB.out.size (.cells #[.string ⟨#[]⟩, .string ⟨#[]⟩, .string ⟨#[]⟩] 66)
  have K_q := Blk.new w1 66 #[.string ⟨#[]⟩, .string ⟨#[]⟩, .string ⟨#[]⟩]
  generalize w1.alloc (.cells #[.string ⟨#[]⟩, .string ⟨#[]⟩, .string ⟨#[]⟩] 66) = w2 at *
  replace K_s := hide K_s
  replace K_r := hide K_r
  replace K_q := hide K_q
  replace HB := hide HB
  have s0 := (Blk.cell K_s.out 0).trans (rfl : _ = some (Value.int .i64 (S 0).1))
  have s1 := (Blk.cell K_s.out 1).trans (rfl : _ = some (Value.int .i64 (S 0).2))
  have s2 := (Blk.cell K_s.out 2).trans (rfl : _ = some (Value.int .i64 (S 1).1))
  have s3 := (Blk.cell K_s.out 3).trans (rfl : _ = some (Value.int .i64 (S 1).2))
  have s4 := (Blk.cell K_s.out 4).trans (rfl : _ = some (Value.int .i64 (S 2).1))
  have s5 := (Blk.cell K_s.out 5).trans (rfl : _ = some (Value.int .i64 (S 2).2))
  have HLQ := hide (show w.heap.size < w1.heap.size from lt_q_r)
  go_wp2_with fail
  go_loopg [16] 3 (fun z iv wr => ∃ j : Nat, iv = .int .i64 (j : Int) ∧ z + j = 3 ∧ ((j = 0 ∧ Blk wr w1.heap.size 66 #[.string ⟨#[]⟩, .string ⟨#[]⟩, .string ⟨#[]⟩]) ∨ (j = 1 ∧ Blk wr w1.heap.size 66 #[.string (X 0), .string ⟨#[]⟩, .string ⟨#[]⟩]) ∨ (j = 2 ∧ Blk wr w1.heap.size 66 #[.string (X 0), .string (X 1), .string ⟨#[]⟩]) ∨ (j = 3 ∧ Blk wr w1.heap.size 66 #[.string (X 0), .string (X 1), .string (X 2)])) ∧ Blk wr w.heap.size 68 #[.string ⟨#[]⟩, .string ⟨#[]⟩, .string ⟨#[]⟩, .string ⟨#[]⟩] ∧ Below w.heap.size w wr)
  case atStart => exact ⟨0, rfl, rfl, .inl ⟨rfl, K_q.out⟩, K_r.out, HB.out⟩
  case round =>
    clear K_q K_r K_s HB s0 s1 s2 s3 s4 s5
    obtain ⟨j, rfl, hq, hc, hkr, hb⟩ := hrel
    obtain ⟨W1, rfl⟩ : ∃ W, W = wr := ⟨_, rfl⟩
    have HQ := hide hq
    have K_r := hide hkr
    have HB := hide hb
    clear hq hkr hb
    rcases hc with ⟨rfl, hko⟩ | ⟨rfl, hko⟩ | ⟨rfl, hko⟩ | ⟨rfl, hko⟩
    · have K_q := hide hko
      clear hko
      have hx := (show ∀ W, (Instr.index 24 (.agg #[.int .i64 (S 0).1, .int .i64 (S 0).2, .int .i64 (S 1).1, .int .i64 (S 1).2, .int .i64 (S 2).1, .int .i64 (S 2).2]) (.int .i64 0)).run Tryz.prog W = .ok (.agg #[.int .i64 (S 0).1, .int .i64 (S 0).2]) W from fun W => HI.out 0 (by omega) W)
      go_upto_region 5 with (fail)
      have hbs_t : w.heap.size ≤ W1.heap.size := HB.out.size
      have lt_t_r : w.heap.size < W1.heap.size := Blk.lt K_r.out
      have lt_t_q : w1.heap.size < W1.heap.size := Blk.lt K_q.out
      replace K_r := K_r.out.alloc (.cells #[.int .i64 (S 0).1, .int .i64 (S 0).2] 23)
      replace K_q := K_q.out.alloc (.cells #[.int .i64 (S 0).1, .int .i64 (S 0).2] 23)
      replace HB := HB.out.alloc HB.out.size (.cells #[.int .i64 (S 0).1, .int .i64 (S 0).2] 23)
      have K_t := Blk.new W1 23 #[.int .i64 (S 0).1, .int .i64 (S 0).2]
      generalize W1.alloc (.cells #[.int .i64 (S 0).1, .int .i64 (S 0).2] 23) = w5 at *
      replace K_r := hide K_r
      replace K_q := hide K_q
      replace K_t := hide K_t
      replace HB := hide HB
      clear hx
      have t0 := (Blk.cell K_t.out 0).trans (rfl : _ = some (Value.int .i64 (S 0).1))
      have t1 := (Blk.cell K_t.out 1).trans (rfl : _ = some (Value.int .i64 (S 0).2))
      go_wp2_with fail
      refine (HBN.out 0 (by omega) _ (HS.out.below HB.out (Nat.le_refl _))).mono ?_
      rintro e w6 ⟨rfl, hb⟩
      clear t0 t1
      replace K_r := hide (Blk.below K_r.out hb (Blk.lt K_r.out))
      replace K_q := hide (Blk.below K_q.out hb (Blk.lt K_q.out))
      replace K_t := hide (Blk.below K_t.out hb (Blk.lt K_t.out))
      replace HB := hide (HB.out.trans (hb.mono HB.out.size))
      clear hb
      go_wp2_with fail
      refine (HCX.out 0 (by omega) _).mono ?_
      rintro e w7 ⟨rfl, hb⟩
      replace K_r := hide (Blk.below K_r.out hb (Blk.lt K_r.out))
      replace K_q := hide (Blk.below K_q.out hb (Blk.lt K_q.out))
      replace K_t := hide (Blk.below K_t.out hb (Blk.lt K_t.out))
      replace HB := hide (HB.out.trans (hb.mono HB.out.size))
      clear hb
      have q0 := (Blk.cell K_q.out 0).trans (rfl : _ = some (Value.string ⟨#[]⟩))
      have qf0 := Blk.frozen K_q.out 0
      have q1 := (Blk.cell K_q.out 1).trans (rfl : _ = some (Value.string ⟨#[]⟩))
      have qf1 := Blk.frozen K_q.out 1
      have q2 := (Blk.cell K_q.out 2).trans (rfl : _ = some (Value.string ⟨#[]⟩))
      have qf2 := Blk.frozen K_q.out 2
      go_wp2_with fail
      go_roundg (gk - 1)
      case measure => have := HQ.out; omega
      case rel => exact ⟨1, by go_num, by have := HQ.out; omega, .inr (.inl ⟨rfl, (K_q.out.set_ 0 (.string (X 0)))⟩), (K_r.out.far (p := ⟨w1.heap.size, 0, none⟩) (by show w.heap.size ≠ w1.heap.size; have := HLQ.out; omega) (.string (X 0))), (HB.out.setCell (p := ⟨w1.heap.size, 0, none⟩) (by show w.heap.size ≤ w1.heap.size; have := HLQ.out; omega) (.string (X 0)))⟩
    · have K_q := hide hko
      clear hko
      have hx := (show ∀ W, (Instr.index 24 (.agg #[.int .i64 (S 0).1, .int .i64 (S 0).2, .int .i64 (S 1).1, .int .i64 (S 1).2, .int .i64 (S 2).1, .int .i64 (S 2).2]) (.int .i64 1)).run Tryz.prog W = .ok (.agg #[.int .i64 (S 1).1, .int .i64 (S 1).2]) W from fun W => HI.out 1 (by omega) W)
      go_upto_region 5 with (fail)
      have hbs_t : w.heap.size ≤ W1.heap.size := HB.out.size
      have lt_t_r : w.heap.size < W1.heap.size := Blk.lt K_r.out
      have lt_t_q : w1.heap.size < W1.heap.size := Blk.lt K_q.out
      replace K_r := K_r.out.alloc (.cells #[.int .i64 (S 1).1, .int .i64 (S 1).2] 23)
      replace K_q := K_q.out.alloc (.cells #[.int .i64 (S 1).1, .int .i64 (S 1).2] 23)
      replace HB := HB.out.alloc HB.out.size (.cells #[.int .i64 (S 1).1, .int .i64 (S 1).2] 23)
      have K_t := Blk.new W1 23 #[.int .i64 (S 1).1, .int .i64 (S 1).2]
      generalize W1.alloc (.cells #[.int .i64 (S 1).1, .int .i64 (S 1).2] 23) = w5 at *
      replace K_r := hide K_r
      replace K_q := hide K_q
      replace K_t := hide K_t
      replace HB := hide HB
      clear hx
      have t0 := (Blk.cell K_t.out 0).trans (rfl : _ = some (Value.int .i64 (S 1).1))
      have t1 := (Blk.cell K_t.out 1).trans (rfl : _ = some (Value.int .i64 (S 1).2))
      go_wp2_with fail
      refine (HBN.out 1 (by omega) _ (HS.out.below HB.out (Nat.le_refl _))).mono ?_
      rintro e w6 ⟨rfl, hb⟩
      clear t0 t1
      replace K_r := hide (Blk.below K_r.out hb (Blk.lt K_r.out))
      replace K_q := hide (Blk.below K_q.out hb (Blk.lt K_q.out))
      replace K_t := hide (Blk.below K_t.out hb (Blk.lt K_t.out))
      replace HB := hide (HB.out.trans (hb.mono HB.out.size))
      clear hb
      go_wp2_with fail
      refine (HCX.out 1 (by omega) _).mono ?_
      rintro e w7 ⟨rfl, hb⟩
      replace K_r := hide (Blk.below K_r.out hb (Blk.lt K_r.out))
      replace K_q := hide (Blk.below K_q.out hb (Blk.lt K_q.out))
      replace K_t := hide (Blk.below K_t.out hb (Blk.lt K_t.out))
      replace HB := hide (HB.out.trans (hb.mono HB.out.size))
      clear hb
      have q0 := (Blk.cell K_q.out 0).trans (rfl : _ = some (Value.string (X 0)))
      have qf0 := Blk.frozen K_q.out 0
      have q1 := (Blk.cell K_q.out 1).trans (rfl : _ = some (Value.string ⟨#[]⟩))
      have qf1 := Blk.frozen K_q.out 1
      have q2 := (Blk.cell K_q.out 2).trans (rfl : _ = some (Value.string ⟨#[]⟩))
      have qf2 := Blk.frozen K_q.out 2
      go_wp2_with fail
      go_roundg (gk - 1)
      case measure => have := HQ.out; omega
      case rel => exact ⟨2, by go_num, by have := HQ.out; omega, .inr (.inr (.inl ⟨rfl, (K_q.out.set_ 1 (.string (X 1)))⟩)), (K_r.out.far (p := ⟨w1.heap.size, 1, none⟩) (by show w.heap.size ≠ w1.heap.size; have := HLQ.out; omega) (.string (X 1))), (HB.out.setCell (p := ⟨w1.heap.size, 1, none⟩) (by show w.heap.size ≤ w1.heap.size; have := HLQ.out; omega) (.string (X 1)))⟩
    · have K_q := hide hko
      clear hko
      have hx := (show ∀ W, (Instr.index 24 (.agg #[.int .i64 (S 0).1, .int .i64 (S 0).2, .int .i64 (S 1).1, .int .i64 (S 1).2, .int .i64 (S 2).1, .int .i64 (S 2).2]) (.int .i64 2)).run Tryz.prog W = .ok (.agg #[.int .i64 (S 2).1, .int .i64 (S 2).2]) W from fun W => HI.out 2 (by omega) W)
      go_upto_region 5 with (fail)
      have hbs_t : w.heap.size ≤ W1.heap.size := HB.out.size
      have lt_t_r : w.heap.size < W1.heap.size := Blk.lt K_r.out
      have lt_t_q : w1.heap.size < W1.heap.size := Blk.lt K_q.out
      replace K_r := K_r.out.alloc (.cells #[.int .i64 (S 2).1, .int .i64 (S 2).2] 23)
      replace K_q := K_q.out.alloc (.cells #[.int .i64 (S 2).1, .int .i64 (S 2).2] 23)
      replace HB := HB.out.alloc HB.out.size (.cells #[.int .i64 (S 2).1, .int .i64 (S 2).2] 23)
      have K_t := Blk.new W1 23 #[.int .i64 (S 2).1, .int .i64 (S 2).2]
      generalize W1.alloc (.cells #[.int .i64 (S 2).1, .int .i64 (S 2).2] 23) = w5 at *
      replace K_r := hide K_r
      replace K_q := hide K_q
      replace K_t := hide K_t
      replace HB := hide HB
      clear hx
      have t0 := (Blk.cell K_t.out 0).trans (rfl : _ = some (Value.int .i64 (S 2).1))
      have t1 := (Blk.cell K_t.out 1).trans (rfl : _ = some (Value.int .i64 (S 2).2))
      go_wp2_with fail
      refine (HBN.out 2 (by omega) _ (HS.out.below HB.out (Nat.le_refl _))).mono ?_
      rintro e w6 ⟨rfl, hb⟩
      clear t0 t1
      replace K_r := hide (Blk.below K_r.out hb (Blk.lt K_r.out))
      replace K_q := hide (Blk.below K_q.out hb (Blk.lt K_q.out))
      replace K_t := hide (Blk.below K_t.out hb (Blk.lt K_t.out))
      replace HB := hide (HB.out.trans (hb.mono HB.out.size))
      clear hb
      go_wp2_with fail
      refine (HCX.out 2 (by omega) _).mono ?_
      rintro e w7 ⟨rfl, hb⟩
      replace K_r := hide (Blk.below K_r.out hb (Blk.lt K_r.out))
      replace K_q := hide (Blk.below K_q.out hb (Blk.lt K_q.out))
      replace K_t := hide (Blk.below K_t.out hb (Blk.lt K_t.out))
      replace HB := hide (HB.out.trans (hb.mono HB.out.size))
      clear hb
      have q0 := (Blk.cell K_q.out 0).trans (rfl : _ = some (Value.string (X 0)))
      have qf0 := Blk.frozen K_q.out 0
      have q1 := (Blk.cell K_q.out 1).trans (rfl : _ = some (Value.string (X 1)))
      have qf1 := Blk.frozen K_q.out 1
      have q2 := (Blk.cell K_q.out 2).trans (rfl : _ = some (Value.string ⟨#[]⟩))
      have qf2 := Blk.frozen K_q.out 2
      go_wp2_with fail
      go_roundg (gk - 1)
      case measure => have := HQ.out; omega
      case rel => exact ⟨3, by go_num, by have := HQ.out; omega, .inr (.inr (.inr ⟨rfl, (K_q.out.set_ 2 (.string (X 2)))⟩)), (K_r.out.far (p := ⟨w1.heap.size, 2, none⟩) (by show w.heap.size ≠ w1.heap.size; have := HLQ.out; omega) (.string (X 2))), (HB.out.setCell (p := ⟨w1.heap.size, 2, none⟩) (by show w.heap.size ≤ w1.heap.size; have := HLQ.out; omega) (.string (X 2)))⟩
    · have K_q := hide hko
      clear hko
      have q0 := (Blk.cell K_q.out 0).trans (rfl : _ = some (Value.string (X 0)))
      have q1 := (Blk.cell K_q.out 1).trans (rfl : _ = some (Value.string (X 1)))
      have q2 := (Blk.cell K_q.out 2).trans (rfl : _ = some (Value.string (X 2)))
      go_wp2_with fail
      refine (HAF.out _ (HS.out.below HB.out (Nat.le_refl _))).mono ?_
      rintro e w3 ⟨rfl, hb⟩
      clear q0 q1 q2
      replace K_r := hide (Blk.below K_r.out hb (Blk.lt K_r.out))
      replace K_q := hide (Blk.below K_q.out hb (Blk.lt K_q.out))
      replace HB := hide (HB.out.trans (hb.mono HB.out.size))
      clear hb
      go_upto_region 11 with (fail)
      have hbs_o : w.heap.size ≤ w3.heap.size := HB.out.size
      have lt_o_r : w.heap.size < w3.heap.size := Blk.lt K_r.out
      have lt_o_q : w1.heap.size < w3.heap.size := Blk.lt K_q.out
      replace K_r := K_r.out.alloc (.cells #[.string (Y 0), .string (Y 1), .string (Y 2), .string (Y 3)] 68)
      replace K_q := K_q.out.alloc (.cells #[.string (Y 0), .string (Y 1), .string (Y 2), .string (Y 3)] 68)
      replace HB := HB.out.alloc HB.out.size (.cells #[.string (Y 0), .string (Y 1), .string (Y 2), .string (Y 3)] 68)
      have K_o := Blk.new w3 68 #[.string (Y 0), .string (Y 1), .string (Y 2), .string (Y 3)]
      generalize w3.alloc (.cells #[.string (Y 0), .string (Y 1), .string (Y 2), .string (Y 3)] 68) = w4 at *
      replace K_r := hide K_r
      replace K_q := hide K_q
      replace K_o := hide K_o
      replace HB := hide HB
      have o0 := (Blk.cell K_o.out 0).trans (rfl : _ = some (Value.string (Y 0)))
      have o1 := (Blk.cell K_o.out 1).trans (rfl : _ = some (Value.string (Y 1)))
      have o2 := (Blk.cell K_o.out 2).trans (rfl : _ = some (Value.string (Y 2)))
      have o3 := (Blk.cell K_o.out 3).trans (rfl : _ = some (Value.string (Y 3)))
      have HLO := hide (show w.heap.size < w3.heap.size from lt_o_r)
      go_wp2_with fail
      clear o0 o1 o2 o3
      go_loopg [48] 4 (fun z iv wr => ∃ j : Nat, iv = .int .i64 (j : Int) ∧ z + j = 4 ∧ Below w4.heap.size w4 wr)
      case atStart => exact ⟨0, rfl, rfl, Below.refl _ _⟩
      case round =>
        obtain ⟨j, rfl, hq, hb⟩ := hrel
        obtain ⟨W2, rfl⟩ : ∃ W, W = wr := ⟨_, rfl⟩
        have HQ2 := hide hq
        have HW := hide hb
        have hj4 : j ≤ 4 := by omega
        replace K_o := hide (Blk.below K_o.out hb (Blk.lt K_o.out))
        replace K_r := hide (Blk.below K_r.out hb (Blk.lt K_r.out))
        have HB2 := hide (HB.out.trans (hb.mono HB.out.size))
        clear K_q HB hq hb
        have HB := HB2
        clear HB2
        by_cases hlt : j < 4
        · have hji : (j : Int) < 4 := by omega
          have hx := HIY.out j hlt
          go_wp2_with fail
          refine (HCY.out j _).mono ?_
          rintro e w7 ⟨rfl, hb⟩
          have HW2 := hide (HW.out.trans (hb.mono HW.out.size))
          clear hb hx
          go_wp2_with fail
          go_roundg (gk - 1)
          case measure => have := HQ2.out; omega
          case rel => exact ⟨j + 1, by go_num, by have := HQ2.out; omega, HW2.out⟩
        · have hji : ¬ (j : Int) < 4 := by omega
          have o0 := (Blk.cell K_o.out 0).trans (rfl : _ = some (Value.string (Y 0)))
          have o1 := (Blk.cell K_o.out 1).trans (rfl : _ = some (Value.string (Y 1)))
          have o2 := (Blk.cell K_o.out 2).trans (rfl : _ = some (Value.string (Y 2)))
          have o3 := (Blk.cell K_o.out 3).trans (rfl : _ = some (Value.string (Y 3)))
          have r0 := (Blk.cell K_r.out 0).trans (rfl : _ = some (Value.string ⟨#[]⟩))
          have rf0 := Blk.frozen K_r.out 0
          have r1 := (Blk.cell K_r.out 1).trans (rfl : _ = some (Value.string ⟨#[]⟩))
          have rf1 := Blk.frozen K_r.out 1
          have r2 := (Blk.cell K_r.out 2).trans (rfl : _ = some (Value.string ⟨#[]⟩))
          have rf2 := Blk.frozen K_r.out 2
          have r3 := (Blk.cell K_r.out 3).trans (rfl : _ = some (Value.string ⟨#[]⟩))
          have rf3 := Blk.frozen K_r.out 3
          go_wp2_with fail
          have rc0 := (Blk.cell ((((K_r.out.set_ 0 (.string (Y 0))).set_ 1 (.string (Y 1))).set_ 2 (.string (Y 2))).set_ 3 (.string (Y 3))) 0).trans (rfl : _ = some (Value.string (Y 0)))
          have rc1 := (Blk.cell ((((K_r.out.set_ 0 (.string (Y 0))).set_ 1 (.string (Y 1))).set_ 2 (.string (Y 2))).set_ 3 (.string (Y 3))) 1).trans (rfl : _ = some (Value.string (Y 1)))
          have rc2 := (Blk.cell ((((K_r.out.set_ 0 (.string (Y 0))).set_ 1 (.string (Y 1))).set_ 2 (.string (Y 2))).set_ 3 (.string (Y 3))) 2).trans (rfl : _ = some (Value.string (Y 2)))
          have rc3 := (Blk.cell ((((K_r.out.set_ 0 (.string (Y 0))).set_ 1 (.string (Y 1))).set_ 2 (.string (Y 2))).set_ 3 (.string (Y 3))) 3).trans (rfl : _ = some (Value.string (Y 3)))
          exact bodyPost_ret (v := .tuple #[.agg #[.string (Y 0), .string (Y 1), .string (Y 2), .string (Y 3)], .bool true]) (by simp [results, Tryz.results45, go_sem, rc0, rc1, rc2, rc3]) rfl ⟨rfl, ((((HB.out.setCell (p := ⟨w.heap.size, 0, none⟩) (by show w.heap.size ≤ w.heap.size; omega) (.string (Y 0))).setCell (p := ⟨w.heap.size, 1, none⟩) (by show w.heap.size ≤ w.heap.size; omega) (.string (Y 1))).setCell (p := ⟨w.heap.size, 2, none⟩) (by show w.heap.size ≤ w.heap.size; omega) (.string (Y 2))).setCell (p := ⟨w.heap.size, 3, none⟩) (by show w.heap.size ≤ w.heap.size; omega) (.string (Y 3)))⟩
set_option maxRecDepth 100000 in
set_option maxHeartbeats 16000000 in
theorem chancet_any (w : World) (S : Nat → Int × Int) (bad : Int) (hbad : 0 ≤ bad ∧ bad < 256) (hs : Std w) :
    Calls Tryz.prog 12 #[schV S, .int .u8 bad] w fun e w' => e = .returned (.bool true) ∧ Below w.heap.size w w' := by
  have HS := hide hs
  have HLO := hide (fun W hS => clots_any W hS)
  have HCS := hide (fun W => casch_any W S)
  obtain ⟨cb, hcb⟩ : ∃ q, caseB S = q := ⟨_, rfl⟩
  rw [hcb] at HCS
  have HCB := hide hcb
  have hw1 : IntKind.i64.wrap bad = bad := IntWalk.i64_in _ (by omega)
  obtain ⟨k, hk⟩ : ∃ k : Nat, bad.tmod 10 = (k : Int) := ⟨(bad.tmod 10).toNat, by have := Int.tmod_nonneg (a := bad) 10 hbad.1; omega⟩
  have hk10 : k < 10 := by have := Int.tmod_lt_of_pos bad (show (0 : Int) < 10 by omega); omega
  obtain ⟨k1, hk1⟩ : ∃ k1, k + 1 = k1 := ⟨_, rfl⟩
  have hw2 : IntKind.i64.wrap ((k : Int) + 1) = (k1 : Int) := (IntWalk.i64_in _ (by omega)).trans (by omega)
  obtain ⟨m1, hm1⟩ : ∃ z, (if (S 0).1 < (S 1).1 then (S 1).1 else (S 0).1) = z := ⟨_, rfl⟩
  obtain ⟨mx, hmx⟩ : ∃ z, (if m1 < (S 2).1 then (S 2).1 else m1) = z := ⟨_, rfl⟩
  have hle : (S 0).1 ≤ mx ∧ (S 1).1 ≤ mx ∧ (S 2).1 ≤ mx := by
    rw [← hmx, ← hm1]
    split <;> split <;> omega
  have HMX := hide hle
  clear hle
  clear hs hcb hbad
  cases cb with
  | false =>
    unfold schV at HCS ⊢
    have HB := allocs_below w [.cells #[.int .i64 (S 0).1, .int .i64 (S 0).2, .int .i64 (S 1).1, .int .i64 (S 1).2, .int .i64 (S 2).1, .int .i64 (S 2).2] 26]
    have K_s : Blk (allocs w [.cells #[.int .i64 (S 0).1, .int .i64 (S 0).2, .int .i64 (S 1).1, .int .i64 (S 1).2, .int .i64 (S 2).1, .int .i64 (S 2).2] 26]) (w.heap.size + 0) 26 #[.int .i64 (S 0).1, .int .i64 (S 0).2, .int .i64 (S 1).1, .int .i64 (S 1).2, .int .i64 (S 2).1, .int .i64 (S 2).2] := allocs_at w [.cells #[.int .i64 (S 0).1, .int .i64 (S 0).2, .int .i64 (S 1).1, .int .i64 (S 1).2, .int .i64 (S 2).1, .int .i64 (S 2).2] 26] 0 rfl
    unfold allocs at HB K_s
    simp only [List.foldl_cons, List.foldl_nil] at HB K_s
    rw [Nat.add_zero] at K_s
    go_enter Tryz.func12, Tryz.ntmps12
    go_upto_region 1 with (fail)
    generalize (w.alloc (.cells #[.int .i64 (S 0).1, .int .i64 (S 0).2, .int .i64 (S 1).1, .int .i64 (S 1).2, .int .i64 (S 2).1, .int .i64 (S 2).2] 26)) = w0 at *
    replace K_s := hide K_s
    replace HB := hide HB
    have s0 := (Blk.cell K_s.out 0).trans (rfl : _ = some (Value.int .i64 (S 0).1))
    have s1 := (Blk.cell K_s.out 1).trans (rfl : _ = some (Value.int .i64 (S 0).2))
    have s2 := (Blk.cell K_s.out 2).trans (rfl : _ = some (Value.int .i64 (S 1).1))
    have s3 := (Blk.cell K_s.out 3).trans (rfl : _ = some (Value.int .i64 (S 1).2))
    have s4 := (Blk.cell K_s.out 4).trans (rfl : _ = some (Value.int .i64 (S 2).1))
    have s5 := (Blk.cell K_s.out 5).trans (rfl : _ = some (Value.int .i64 (S 2).2))
    go_wp2_with fail
    refine (HCS.out _).mono ?_
    rintro e w1 ⟨rfl, hb⟩
    clear s0 s1 s2 s3 s4 s5
    replace K_s := hide (Blk.below K_s.out hb (Blk.lt K_s.out))
    replace HB := hide (HB.out.trans (hb.mono HB.out.size))
    clear hb
    go_wp2_with fail
    refine (HLO.out _ (HS.out.below HB.out (Nat.le_refl _))).mono ?_
    rintro e w2 ⟨rfl, hb⟩
    replace K_s := hide (Blk.below K_s.out hb (Blk.lt K_s.out))
    replace HB := hide (HB.out.trans (hb.mono HB.out.size))
    clear hb
    go_wp2_with fail
    go_ret
    exact ⟨rfl, HB.out⟩
  | true =>
    by_cases h7 : 7 < mx
    · have i1 : 7 < mx := h7
      unfold schV at HCS ⊢
      have HB := allocs_below w [.cells #[.int .i64 (S 0).1, .int .i64 (S 0).2, .int .i64 (S 1).1, .int .i64 (S 1).2, .int .i64 (S 2).1, .int .i64 (S 2).2] 26]
      have K_s : Blk (allocs w [.cells #[.int .i64 (S 0).1, .int .i64 (S 0).2, .int .i64 (S 1).1, .int .i64 (S 1).2, .int .i64 (S 2).1, .int .i64 (S 2).2] 26]) (w.heap.size + 0) 26 #[.int .i64 (S 0).1, .int .i64 (S 0).2, .int .i64 (S 1).1, .int .i64 (S 1).2, .int .i64 (S 2).1, .int .i64 (S 2).2] := allocs_at w [.cells #[.int .i64 (S 0).1, .int .i64 (S 0).2, .int .i64 (S 1).1, .int .i64 (S 1).2, .int .i64 (S 2).1, .int .i64 (S 2).2] 26] 0 rfl
      unfold allocs at HB K_s
      simp only [List.foldl_cons, List.foldl_nil] at HB K_s
      rw [Nat.add_zero] at K_s
      go_enter Tryz.func12, Tryz.ntmps12
      go_upto_region 1 with (fail)
      generalize (w.alloc (.cells #[.int .i64 (S 0).1, .int .i64 (S 0).2, .int .i64 (S 1).1, .int .i64 (S 1).2, .int .i64 (S 2).1, .int .i64 (S 2).2] 26)) = w0 at *
      replace K_s := hide K_s
      replace HB := hide HB
      have s0 := (Blk.cell K_s.out 0).trans (rfl : _ = some (Value.int .i64 (S 0).1))
      have s1 := (Blk.cell K_s.out 1).trans (rfl : _ = some (Value.int .i64 (S 0).2))
      have s2 := (Blk.cell K_s.out 2).trans (rfl : _ = some (Value.int .i64 (S 1).1))
      have s3 := (Blk.cell K_s.out 3).trans (rfl : _ = some (Value.int .i64 (S 1).2))
      have s4 := (Blk.cell K_s.out 4).trans (rfl : _ = some (Value.int .i64 (S 2).1))
      have s5 := (Blk.cell K_s.out 5).trans (rfl : _ = some (Value.int .i64 (S 2).2))
      go_wp2_with fail
      refine (HCS.out _).mono ?_
      rintro e w1 ⟨rfl, hb⟩
      clear s0 s1 s2 s3 s4 s5
      replace K_s := hide (Blk.below K_s.out hb (Blk.lt K_s.out))
      replace HB := hide (HB.out.trans (hb.mono HB.out.size))
      clear hb
      have s0 := (Blk.cell K_s.out 0).trans (rfl : _ = some (Value.int .i64 (S 0).1))
      have s1 := (Blk.cell K_s.out 1).trans (rfl : _ = some (Value.int .i64 (S 0).2))
      have s2 := (Blk.cell K_s.out 2).trans (rfl : _ = some (Value.int .i64 (S 1).1))
      have s3 := (Blk.cell K_s.out 3).trans (rfl : _ = some (Value.int .i64 (S 1).2))
      have s4 := (Blk.cell K_s.out 4).trans (rfl : _ = some (Value.int .i64 (S 2).1))
      have s5 := (Blk.cell K_s.out 5).trans (rfl : _ = some (Value.int .i64 (S 2).2))
      go_wp2_with fail
      refine (HLO.out _ (HS.out.below HB.out (Nat.le_refl _))).mono ?_
      rintro e w2 ⟨rfl, hb⟩
      clear s0 s1 s2 s3 s4 s5
      replace K_s := hide (Blk.below K_s.out hb (Blk.lt K_s.out))
      replace HB := hide (HB.out.trans (hb.mono HB.out.size))
      clear hb
      go_wp2_with fail
      go_ret
      exact ⟨rfl, HB.out⟩
    · have hsb := caseB_true HCB.out
      have i1 : ¬ 7 < mx := h7
      obtain ⟨Z, hZd⟩ : ∃ Z : Nat → Nat × Nat, Z = fun m => ((S m).1.toNat, (S m).2.toNat) := ⟨_, rfl⟩
      have hSZ : ∀ m, m < 3 → (S m).1 = ((Z m).1 : Int) ∧ (S m).2 = ((Z m).2 : Int) := fun m hm => by
        have h := hsb m hm
        rw [hZd]
        exact ⟨(Int.toNat_of_nonneg (by omega)).symm, (Int.toNat_of_nonneg (by omega)).symm⟩
      have hZ : ZOk Z := fun m hm => by
        have h := hsb m hm
        have h2 := hSZ m hm
        have h3 : (S m).1 ≤ 7 := by have := HMX.out; rcases (by omega : m = 0 ∨ m = 1 ∨ m = 2) with rfl | rfl | rfl <;> omega
        omega
      clear hZd hsb h7
      obtain ⟨fr, hfr⟩ : ∃ s : ByteArray, s = ⟨(RT (Rat.divInt (k : Int) 10)).toArray⟩ := ⟨_, rfl⟩
      obtain ⟨fr1, hfr1⟩ : ∃ s : ByteArray, s = ⟨(RT (Rat.divInt (k1 : Int) 10)).toArray⟩ := ⟨_, rfl⟩
      obtain ⟨X, hX⟩ : ∃ X : Nat → ByteArray, ∀ m, X m = ⟨(RT (tC k Z m)).toArray⟩ := ⟨_, fun m => rfl⟩
      obtain ⟨X1, hX1⟩ : ∃ X : Nat → ByteArray, ∀ m, X m = ⟨(RT (tC k1 Z m)).toArray⟩ := ⟨_, fun m => rfl⟩
      obtain ⟨Y, hY⟩ : ∃ X : Nat → ByteArray, ∀ m, X m = ⟨(RT (modeQ (tC k Z) 2 m)).toArray⟩ := ⟨_, fun m => rfl⟩
      obtain ⟨Y1, hY1⟩ : ∃ X : Nat → ByteArray, ∀ m, X m = ⟨(RT (modeQ (tC k1 Z) 2 m)).toArray⟩ := ⟨_, fun m => rfl⟩
      have HOV := hide (fun (W : World) => (show Calls Tryz.prog 47 #[.int .i64 (k : Int), .int .i64 10] W (fun e w' => e = .returned (.string fr) ∧ Below W.heap.size W w') from by rw [hfr]; exact over_any W k 10 (by omega) (by omega) (by omega) (by omega) (by omega)))
      have HOV1 := hide (fun (W : World) => (show Calls Tryz.prog 47 #[.int .i64 (k1 : Int), .int .i64 10] W (fun e w' => e = .returned (.string fr1) ∧ Below W.heap.size W w') from by rw [hfr1]; exact over_any W k1 10 (by omega) (by omega) (by omega) (by omega) (by omega)))
      have HM := hide (fun (W : World) (hS : Std W) (hB : Blk W w.heap.size 26 #[.int .i64 (S 0).1, .int .i64 (S 0).2, .int .i64 (S 1).1, .int .i64 (S 1).2, .int .i64 (S 2).1, .int .i64 (S 2).2]) => aftT_any W w.heap.size S Z k (by omega) hZ hSZ X Y fr hfr hX hY hB hS)
      have HM1 := hide (fun (W : World) (hS : Std W) (hB : Blk W w.heap.size 26 #[.int .i64 (S 0).1, .int .i64 (S 0).2, .int .i64 (S 1).1, .int .i64 (S 1).2, .int .i64 (S 2).1, .int .i64 (S 2).2]) => aftT_any W w.heap.size S Z k1 (by omega) hZ hSZ X1 Y1 fr1 hfr1 hX1 hY1 hB hS)
      have HBN := hide (fun (W : World) (hS : Std W) => (show Calls Tryz.prog 46 #[.agg #[.int .i64 (S 0).1, .int .i64 (S 0).2], .string fr] W (fun e w' => e = .returned (.tuple #[.string (X 0), .int .i64 0]) ∧ Below W.heap.size W w') from by rw [(hSZ 0 (by omega)).1, (hSZ 0 (by omega)).2, hfr, hX]; exact bin_ten W (by omega) hZ (by omega) hS))
      have HCX := hide (fun (W : World) => (show Calls Tryz.prog 35 #[.string (X 0)] W (fun e w' => e = .returned (.int .i64 0) ∧ Below W.heap.size W w') from by rw [hX]; exact rchk_zeroT W ((tC_sz (by omega) hZ (by omega)).mono (by omega) (by omega))))
      have hsz0 : Sz 8 8 (tC k Z 0) := tC_sz (by omega) hZ (by omega)
      have hin0 := tC_in (k := k) (by omega) hZ 0
      have hszq : Sz 9 9 (1 - tC k Z 0) := one_sub_sz hsz0 hin0
      obtain ⟨q1, hq1⟩ : ∃ s : ByteArray, s = ⟨(RT (1 - tC k Z 0)).toArray⟩ := ⟨_, rfl⟩
      have HMI := hide (fun (W : World) => (show Calls Tryz.prog 48 #[.string ⟨#[49]⟩, .string (X 0)] W (fun e w' => e = .returned (.string q1) ∧ Below W.heap.size W w') from by rw [hX, hq1]; exact rqminus_any W _ _ 1 _ RT_one.symm rfl (m := 8) (by omega) (sz_one (by omega)) hsz0))
      have HTI := hide (fun (W : World) => (show Calls Tryz.prog 49 #[.string q1, .string q1] W (fun e w' => e = .returned (.string (Y 1)) ∧ Below W.heap.size W w') from by rw [hY, mode_two, hq1]; exact rqtimes_any W _ _ _ _ rfl rfl (m := 9) (by omega) hszq hszq))
      have hmo := tight_mono (k := k) hk10 hZ
      rw [hk1] at hmo
      obtain ⟨sg, hsg⟩ : ∃ z, sgn (modeQ (tC k Z) 2 1) (modeQ (tC k1 Z) 2 1) = z := ⟨_, rfl⟩
      have hsg0 : sg ≤ 0 := by rw [← hsg]; exact sgn_le.2 hmo
      have HOR := hide (fun (W : World) => (show Calls Tryz.prog 36 #[.string (Y 1), .string (Y1 1)] W (fun e w' => e = .returned (.int .i64 sg) ∧ Below W.heap.size W w') from by rw [hY, hY1, ← hsg]; exact rqorder_any W _ _ _ _ rfl rfl (m := 500) (by omega) (modeQ_szT (tC_gr (by omega) hZ) (by omega) 1) (modeQ_szT (tC_gr (by omega) hZ) (by omega) 1)))
      clear hsz0 hin0 hszq hq1 hmo hsg hfr hfr1 hX hX1 hY hY1 hSZ hZ hk10 hk1
      unfold schV at HCS ⊢
      have HB := allocs_below w [.cells #[.int .i64 (S 0).1, .int .i64 (S 0).2, .int .i64 (S 1).1, .int .i64 (S 1).2, .int .i64 (S 2).1, .int .i64 (S 2).2] 26]
      have K_s : Blk (allocs w [.cells #[.int .i64 (S 0).1, .int .i64 (S 0).2, .int .i64 (S 1).1, .int .i64 (S 1).2, .int .i64 (S 2).1, .int .i64 (S 2).2] 26]) (w.heap.size + 0) 26 #[.int .i64 (S 0).1, .int .i64 (S 0).2, .int .i64 (S 1).1, .int .i64 (S 1).2, .int .i64 (S 2).1, .int .i64 (S 2).2] := allocs_at w [.cells #[.int .i64 (S 0).1, .int .i64 (S 0).2, .int .i64 (S 1).1, .int .i64 (S 1).2, .int .i64 (S 2).1, .int .i64 (S 2).2] 26] 0 rfl
      unfold allocs at HB K_s
      simp only [List.foldl_cons, List.foldl_nil] at HB K_s
      rw [Nat.add_zero] at K_s
      go_enter Tryz.func12, Tryz.ntmps12
      go_upto_region 1 with (fail)
      generalize (w.alloc (.cells #[.int .i64 (S 0).1, .int .i64 (S 0).2, .int .i64 (S 1).1, .int .i64 (S 1).2, .int .i64 (S 2).1, .int .i64 (S 2).2] 26)) = w0 at *
      replace K_s := hide K_s
      replace HB := hide HB
      have s0 := (Blk.cell K_s.out 0).trans (rfl : _ = some (Value.int .i64 (S 0).1))
      have s1 := (Blk.cell K_s.out 1).trans (rfl : _ = some (Value.int .i64 (S 0).2))
      have s2 := (Blk.cell K_s.out 2).trans (rfl : _ = some (Value.int .i64 (S 1).1))
      have s3 := (Blk.cell K_s.out 3).trans (rfl : _ = some (Value.int .i64 (S 1).2))
      have s4 := (Blk.cell K_s.out 4).trans (rfl : _ = some (Value.int .i64 (S 2).1))
      have s5 := (Blk.cell K_s.out 5).trans (rfl : _ = some (Value.int .i64 (S 2).2))
      go_wp2_with fail
      refine (HCS.out _).mono ?_
      rintro e w1 ⟨rfl, hb⟩
      clear s0 s1 s2 s3 s4 s5
      replace K_s := hide (Blk.below K_s.out hb (Blk.lt K_s.out))
      replace HB := hide (HB.out.trans (hb.mono HB.out.size))
      clear hb
      have s0 := (Blk.cell K_s.out 0).trans (rfl : _ = some (Value.int .i64 (S 0).1))
      have s1 := (Blk.cell K_s.out 1).trans (rfl : _ = some (Value.int .i64 (S 0).2))
      have s2 := (Blk.cell K_s.out 2).trans (rfl : _ = some (Value.int .i64 (S 1).1))
      have s3 := (Blk.cell K_s.out 3).trans (rfl : _ = some (Value.int .i64 (S 1).2))
      have s4 := (Blk.cell K_s.out 4).trans (rfl : _ = some (Value.int .i64 (S 2).1))
      have s5 := (Blk.cell K_s.out 5).trans (rfl : _ = some (Value.int .i64 (S 2).2))
      go_wp2_with fail
      refine (HOV.out _).mono ?_
      rintro e w2 ⟨rfl, hb⟩
      clear s0 s1 s2 s3 s4 s5
      replace K_s := hide (Blk.below K_s.out hb (Blk.lt K_s.out))
      replace HB := hide (HB.out.trans (hb.mono HB.out.size))
      clear hb
      go_wp2_with fail
      refine (HM.out _ (HS.out.below HB.out (Nat.le_refl _)) K_s.out).mono ?_
      rintro e w3 ⟨rfl, hb⟩
      replace K_s := hide (Blk.below K_s.out hb (Blk.lt K_s.out))
      replace HB := hide (HB.out.trans (hb.mono HB.out.size))
      clear hb
      go_upto_region 6 with (fail)
      have hbs_a : w.heap.size ≤ w3.heap.size := HB.out.size
      have lt_a_s : w.heap.size < w3.heap.size := Blk.lt K_s.out
      replace K_s := K_s.out.alloc (.cells #[.string (Y 0), .string (Y 1), .string (Y 2), .string (Y 3)] 68)
      replace HB := HB.out.alloc HB.out.size (.cells #[.string (Y 0), .string (Y 1), .string (Y 2), .string (Y 3)] 68)
      have K_a := Blk.new w3 68 #[.string (Y 0), .string (Y 1), .string (Y 2), .string (Y 3)]
      generalize w3.alloc (.cells #[.string (Y 0), .string (Y 1), .string (Y 2), .string (Y 3)] 68) = w4 at *
      replace K_s := hide K_s
      replace K_a := hide K_a
      replace HB := hide HB
      go_wp2_with fail
      refine (HOV1.out _).mono ?_
      rintro e w5 ⟨rfl, hb⟩
      replace K_s := hide (Blk.below K_s.out hb (Blk.lt K_s.out))
      replace K_a := hide (Blk.below K_a.out hb (Blk.lt K_a.out))
      replace HB := hide (HB.out.trans (hb.mono HB.out.size))
      clear hb
      go_wp2_with fail
      refine (HM1.out _ (HS.out.below HB.out (Nat.le_refl _)) K_s.out).mono ?_
      rintro e w6 ⟨rfl, hb⟩
      replace K_s := hide (Blk.below K_s.out hb (Blk.lt K_s.out))
      replace K_a := hide (Blk.below K_a.out hb (Blk.lt K_a.out))
      replace HB := hide (HB.out.trans (hb.mono HB.out.size))
      clear hb
      go_upto_region 7 with (fail)
      have hbs_b : w.heap.size ≤ w6.heap.size := HB.out.size
      have lt_b_s : w.heap.size < w6.heap.size := Blk.lt K_s.out
      have lt_b_a : w3.heap.size < w6.heap.size := Blk.lt K_a.out
      replace K_s := K_s.out.alloc (.cells #[.string (Y1 0), .string (Y1 1), .string (Y1 2), .string (Y1 3)] 68)
      replace K_a := K_a.out.alloc (.cells #[.string (Y1 0), .string (Y1 1), .string (Y1 2), .string (Y1 3)] 68)
      replace HB := HB.out.alloc HB.out.size (.cells #[.string (Y1 0), .string (Y1 1), .string (Y1 2), .string (Y1 3)] 68)
      have K_b := Blk.new w6 68 #[.string (Y1 0), .string (Y1 1), .string (Y1 2), .string (Y1 3)]
      generalize w6.alloc (.cells #[.string (Y1 0), .string (Y1 1), .string (Y1 2), .string (Y1 3)] 68) = w7 at *
      replace K_s := hide K_s
      replace K_a := hide K_a
      replace K_b := hide K_b
      replace HB := hide HB
      have s0 := (Blk.cell K_s.out 0).trans (rfl : _ = some (Value.int .i64 (S 0).1))
      have s1 := (Blk.cell K_s.out 1).trans (rfl : _ = some (Value.int .i64 (S 0).2))
      have s2 := (Blk.cell K_s.out 2).trans (rfl : _ = some (Value.int .i64 (S 1).1))
      have s3 := (Blk.cell K_s.out 3).trans (rfl : _ = some (Value.int .i64 (S 1).2))
      have s4 := (Blk.cell K_s.out 4).trans (rfl : _ = some (Value.int .i64 (S 2).1))
      have s5 := (Blk.cell K_s.out 5).trans (rfl : _ = some (Value.int .i64 (S 2).2))
      have SK : ∀ w', Below w7.heap.size w7 w' → Below w7.heap.size w7 w' ∧ w'.cell? ⟨w.heap.size, 0, none⟩ = some (.int .i64 (S 0).1) ∧ w'.cell? ⟨w.heap.size, 1, none⟩ = some (.int .i64 (S 0).2) ∧ w'.cell? ⟨w.heap.size, 2, none⟩ = some (.int .i64 (S 1).1) ∧ w'.cell? ⟨w.heap.size, 3, none⟩ = some (.int .i64 (S 1).2) ∧ w'.cell? ⟨w.heap.size, 4, none⟩ = some (.int .i64 (S 2).1) ∧ w'.cell? ⟨w.heap.size, 5, none⟩ = some (.int .i64 (S 2).2) := fun w' h => ⟨h, (bcell h _ _ (block_lt_of_cell s0)).trans s0, (bcell h _ _ (block_lt_of_cell s1)).trans s1, (bcell h _ _ (block_lt_of_cell s2)).trans s2, (bcell h _ _ (block_lt_of_cell s3)).trans s3, (bcell h _ _ (block_lt_of_cell s4)).trans s4, (bcell h _ _ (block_lt_of_cell s5)).trans s5⟩
      have SB : ∀ w', (Below w7.heap.size w7 w' ∧ w'.cell? ⟨w.heap.size, 0, none⟩ = some (.int .i64 (S 0).1) ∧ w'.cell? ⟨w.heap.size, 1, none⟩ = some (.int .i64 (S 0).2) ∧ w'.cell? ⟨w.heap.size, 2, none⟩ = some (.int .i64 (S 1).1) ∧ w'.cell? ⟨w.heap.size, 3, none⟩ = some (.int .i64 (S 1).2) ∧ w'.cell? ⟨w.heap.size, 4, none⟩ = some (.int .i64 (S 2).1) ∧ w'.cell? ⟨w.heap.size, 5, none⟩ = some (.int .i64 (S 2).2)) → Below w7.heap.size w7 w' := fun w' h => h.1
      go_region_held3 (fun w' => Below w7.heap.size w7 w' ∧ w'.cell? ⟨w.heap.size, 0, none⟩ = some (.int .i64 (S 0).1) ∧ w'.cell? ⟨w.heap.size, 1, none⟩ = some (.int .i64 (S 0).2) ∧ w'.cell? ⟨w.heap.size, 2, none⟩ = some (.int .i64 (S 1).1) ∧ w'.cell? ⟨w.heap.size, 3, none⟩ = some (.int .i64 (S 1).2) ∧ w'.cell? ⟨w.heap.size, 4, none⟩ = some (.int .i64 (S 2).1) ∧ w'.cell? ⟨w.heap.size, 5, none⟩ = some (.int .i64 (S 2).2)) (first | exact SK _ (Below.refl _ _).drew | exact SK _ (Below.refl _ _) | exact SK _ (bel_next (by assumption) (by assumption) (Nat.le_refl _)))
        (first
          | (go_at_call 47; refine (HOV.out _).mono ?_; rintro e wx ⟨rfl, hbW⟩)
          | (go_at_call 46; refine (HBN.out _ (HS.out.below (HB.out.trans ((SB _ (by assumption)).mono HB.out.size)) (Nat.le_refl _))).mono ?_; rintro e wx ⟨rfl, hbW⟩))
      obtain ⟨hbx, _⟩ : Below w7.heap.size w7 _ ∧ _ := by assumption
      obtain ⟨w8, rfl, hb⟩ := name_world (P := fun y => Below w7.heap.size w7 y) hbx
      clear SK SB hbx
      clear s0 s1 s2 s3 s4 s5
      replace K_s := hide (Blk.below K_s.out hb (Blk.lt K_s.out))
      replace K_a := hide (Blk.below K_a.out hb (Blk.lt K_a.out))
      replace K_b := hide (Blk.below K_b.out hb (Blk.lt K_b.out))
      replace HB := hide (HB.out.trans (hb.mono HB.out.size))
      clear hb
      go_wp2_with fail
      refine (HCX.out _).mono ?_
      rintro e w9 ⟨rfl, hb⟩
      replace K_s := hide (Blk.below K_s.out hb (Blk.lt K_s.out))
      replace K_a := hide (Blk.below K_a.out hb (Blk.lt K_a.out))
      replace K_b := hide (Blk.below K_b.out hb (Blk.lt K_b.out))
      replace HB := hide (HB.out.trans (hb.mono HB.out.size))
      clear hb
      go_wp2_with fail
      refine (HMI.out _).mono ?_
      rintro e w10 ⟨rfl, hb⟩
      replace K_s := hide (Blk.below K_s.out hb (Blk.lt K_s.out))
      replace K_a := hide (Blk.below K_a.out hb (Blk.lt K_a.out))
      replace K_b := hide (Blk.below K_b.out hb (Blk.lt K_b.out))
      replace HB := hide (HB.out.trans (hb.mono HB.out.size))
      clear hb
      have a0 := (Blk.cell K_a.out 0).trans (rfl : _ = some (Value.string (Y 0)))
      have a1 := (Blk.cell K_a.out 1).trans (rfl : _ = some (Value.string (Y 1)))
      have a2 := (Blk.cell K_a.out 2).trans (rfl : _ = some (Value.string (Y 2)))
      have a3 := (Blk.cell K_a.out 3).trans (rfl : _ = some (Value.string (Y 3)))
      have b0 := (Blk.cell K_b.out 0).trans (rfl : _ = some (Value.string (Y1 0)))
      have b1 := (Blk.cell K_b.out 1).trans (rfl : _ = some (Value.string (Y1 1)))
      have b2 := (Blk.cell K_b.out 2).trans (rfl : _ = some (Value.string (Y1 2)))
      have b3 := (Blk.cell K_b.out 3).trans (rfl : _ = some (Value.string (Y1 3)))
      go_upto_region 11 with (fail)
      have SK : ∀ w', Below w10.heap.size w10 w' → Below w10.heap.size w10 w' ∧ w'.cell? ⟨w3.heap.size, 0, none⟩ = some (.string (Y 0)) ∧ w'.cell? ⟨w3.heap.size, 1, none⟩ = some (.string (Y 1)) ∧ w'.cell? ⟨w3.heap.size, 2, none⟩ = some (.string (Y 2)) ∧ w'.cell? ⟨w3.heap.size, 3, none⟩ = some (.string (Y 3)) ∧ w'.cell? ⟨w6.heap.size, 0, none⟩ = some (.string (Y1 0)) ∧ w'.cell? ⟨w6.heap.size, 1, none⟩ = some (.string (Y1 1)) ∧ w'.cell? ⟨w6.heap.size, 2, none⟩ = some (.string (Y1 2)) ∧ w'.cell? ⟨w6.heap.size, 3, none⟩ = some (.string (Y1 3)) := fun w' h => ⟨h, (bcell h _ _ (block_lt_of_cell a0)).trans a0, (bcell h _ _ (block_lt_of_cell a1)).trans a1, (bcell h _ _ (block_lt_of_cell a2)).trans a2, (bcell h _ _ (block_lt_of_cell a3)).trans a3, (bcell h _ _ (block_lt_of_cell b0)).trans b0, (bcell h _ _ (block_lt_of_cell b1)).trans b1, (bcell h _ _ (block_lt_of_cell b2)).trans b2, (bcell h _ _ (block_lt_of_cell b3)).trans b3⟩
      have SB : ∀ w', (Below w10.heap.size w10 w' ∧ w'.cell? ⟨w3.heap.size, 0, none⟩ = some (.string (Y 0)) ∧ w'.cell? ⟨w3.heap.size, 1, none⟩ = some (.string (Y 1)) ∧ w'.cell? ⟨w3.heap.size, 2, none⟩ = some (.string (Y 2)) ∧ w'.cell? ⟨w3.heap.size, 3, none⟩ = some (.string (Y 3)) ∧ w'.cell? ⟨w6.heap.size, 0, none⟩ = some (.string (Y1 0)) ∧ w'.cell? ⟨w6.heap.size, 1, none⟩ = some (.string (Y1 1)) ∧ w'.cell? ⟨w6.heap.size, 2, none⟩ = some (.string (Y1 2)) ∧ w'.cell? ⟨w6.heap.size, 3, none⟩ = some (.string (Y1 3))) → Below w10.heap.size w10 w' := fun w' h => h.1
      go_region_held3 (fun w' => Below w10.heap.size w10 w' ∧ w'.cell? ⟨w3.heap.size, 0, none⟩ = some (.string (Y 0)) ∧ w'.cell? ⟨w3.heap.size, 1, none⟩ = some (.string (Y 1)) ∧ w'.cell? ⟨w3.heap.size, 2, none⟩ = some (.string (Y 2)) ∧ w'.cell? ⟨w3.heap.size, 3, none⟩ = some (.string (Y 3)) ∧ w'.cell? ⟨w6.heap.size, 0, none⟩ = some (.string (Y1 0)) ∧ w'.cell? ⟨w6.heap.size, 1, none⟩ = some (.string (Y1 1)) ∧ w'.cell? ⟨w6.heap.size, 2, none⟩ = some (.string (Y1 2)) ∧ w'.cell? ⟨w6.heap.size, 3, none⟩ = some (.string (Y1 3))) (first | exact SK _ (Below.refl _ _).drew | exact SK _ (Below.refl _ _) | exact SK _ (bel_next (by assumption) (by assumption) (Nat.le_refl _)))
        (first
          | (go_at_call 49; refine (HTI.out _).mono ?_; rintro e wx ⟨rfl, hbW⟩)
          | (go_at_call 36; refine (HOR.out _).mono ?_; rintro e wx ⟨rfl, hbW⟩)
          | (go_at_call 44; refine (HLO.out _ (HS.out.below (HB.out.trans ((SB _ (by assumption)).mono HB.out.size)) (Nat.le_refl _))).mono ?_; rintro e wx ⟨rfl, hbW⟩))
      obtain ⟨hbx, _⟩ : Below w10.heap.size w10 _ ∧ _ := by assumption
      have HX := hide (HB.out.trans (hbx.mono HB.out.size))
      clear hbx
      go_wp2_with fail
      go_ret
      exact ⟨rfl, HX.out⟩
end Go.Proofs.YthmmgjieppknkaaGreatDoor
