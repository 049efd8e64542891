/- Contracts and plain laws that the statements of this seat share (part Esac). -/
import Derived.Test.YthmmgjieppknkaaGreatDoorEsaa
import Derived.Test.YthmmgjieppknkaaGreatDoorEsab
import Derived.Test.YthmmgjieppknkaaGreatDoorKaa
import Derived.Test.YthmmgjieppknkaaGreatDoorKab
import Derived.Test.YthmmgjieppknkaaGreatDoorKac
import Derived.Test.YthmmgjieppknkaaGreatDoorKad
import Derived.Test.YthmmgjieppknkaaGreatDoorKag
import Derived.Test.YthmmgjieppknkaaGreatDoorKai
import Derived.Test.YthmmgjieppknkaaGreatDoorKak
import Derived.Test.YthmmgjieppknkaaGreatDoorKal
import Derived.Test.YthmmgjieppknkaaGreatDoorKam
import Derived.Test.YthmmgjieppknkaaGreatDoorKaq
import Derived.Test.YthmmgjieppknkaaGreatDoorKas
import Derived.Test.YthmmgjieppknkaaGreatDoorKat
import Derived.Test.YthmmgjieppknkaaGreatDoorKau
import Derived.Test.YthmmgjieppknkaaGreatDoorKax
import Derived.Maps.AppendAt
import Derived.Deep.RegionHeld3
import Derived.Laws.ResultCell
import Derived.ChangeKeysEq
import Derived.DeepKeys
import Derived.Test.YthmmgjieppknkaaGreatDoorChecked
import Derived.WalkKit
import Derived.WalkSpells
import Derived.WalkLawsBesides
import Derived.Lib.Hide
import Derived.IntWalk
import Derived.BigQuiet
import Derived.Deep.QuietTactic
import Derived.Deep.LoopGhost
import Derived.Deep.DeepCutAuto
import Derived.Deep.DeepFit
import Derived.Deep.Light
import Derived.Outline
import Derived.Laws.Rows
import Derived.Laws.NewBlocks
import Derived.Laws.CopyOwn
import Derived.Laws.Tables
import Derived.Lib.ItoaNum
import Derived.Lib.ItoaLen
import Derived.Lib.Atoi
import Derived.Lib.AtoiAll
import Derived.Lib.Strings
import Derived.Lib.SlTrimSet
import Derived.Deep.RegionWith
import Derived.Laws.OwnMore
import Derived.Deep.RegionLaw
import Derived.RegionTactic
import Derived.Lib.Builder
import Derived.Lib.AppendStr
import Derived.Laws.Externs
import Derived.WalkSmall
import Derived.Lib.AtoiErrMem
import Derived.Shelf.Strings.SlTrimAscii
import Derived.Shelf.Strings.Builder1
import Derived.Shelf.Strings.Trim
import Derived.Shelf.Small.Utf8
import Derived.Shelf.Small.Strs
import Derived.Shelf.Strings.BuilderF
import Derived.Shelf.Strings.BuilderK
import Derived.Shelf.Strconv.Atoi
import Derived.Shelf.Strconv.Itoa0
import Derived.Shelf.Strconv.Itoa1
import Derived.Shelf.LaysM
import Derived.Shelf.Strconv.Itoa2
import Derived.Shelf.Strconv.Itoa3
import Derived.Shelf.Strings.Search1
import Derived.Shelf.Strings.Search2
import Derived.Shelf.Strings.Cut
import Derived.Shelf.Strings.Shaped
import Derived.Shelf.Strings.Prefix
import Derived.Shelf.Strings.Runes
import Derived.Shelf.Strings.AsciiSet
import Derived.Shelf.Bits.Mul64
import Derived.Shelf.Unicode.DecodeSlow
import Derived.Test.YthmmgjieppknkaaGreatDoorProg
import Derived.Lib.IndexMore
import Derived.Lib.IndexBytes
import Derived.Lib.IndexLaws
import Derived.BigRegion
import Derived.Deep.OwnRows
import Derived.Lib.LazyBuf
import Derived.Laws.BytesArg
import Derived.RangeFuncSeq
import Derived.Shelf.Abstract
import Derived.Maps.OwnOps
import Derived.Deep.RegionHeld
import Derived.RangeFuncNested
import Derived.RangeFuncBox
import Derived.RangeFuncBound
import Derived.RangeFuncCalls
import Derived.RangeFuncLeaves
import Derived.Shelf.RegionOpen
import Derived.OwnWalkIn
import Derived.TacticsInMore
import Derived.LoopNIn
import Derived.LoopIn
import Derived.DeepKeys4
import Derived.Deep.AppendLies
import Derived.OwnWalk
import Derived.Maps.RangeWalk
import Derived.ProofKit
namespace Go.Proofs.YthmmgjieppknkaaGreatDoor
open Go.RowKit Go.Shelf Go.Maps MLab
def bt (b : Bool) : ByteArray := if b then ⟨#[49]⟩ else ⟨#[48]⟩
theorem bt_text (b : Bool) : (bt b).data.toList = RT (if b then 1 else 0) := by
  cases b
  · exact RT_zero.symm
  · exact RT_one.symm
theorem bt_eq (b : Bool) : (⟨(RT (if b then 1 else 0)).toArray⟩ : ByteArray) = bt b := by
  apply ByteArray.ext; apply Array.ext'
  rw [bt_text]
theorem bt_of (M j : Nat) : (⟨(RT (if M = j then 1 else 0)).toArray⟩ : ByteArray) = bt (decide (M = j)) := by
  rw [← bt_eq]
  by_cases h : M = j <;> simp [h]
theorem one_powU {k m : Nat} : 1 ^ k ≤ 10 ^ m := by rw [Nat.one_pow]; exact Nat.one_le_pow _ _ (by omega)
theorem sz_zeroS (m : Nat) : Sz m m 0 := ⟨by show 0 < 10 ^ m; exact Nat.pow_pos (by omega), by show 1 ≤ 10 ^ m; exact Nat.pow_pos (by omega)⟩
theorem sure_gr (s : Nat → Bool) (k : Nat) : GrC 1 k (fun m => if s m then 1 else 0) := by
  refine ⟨by omega, fun m _ => ?_, fun m => ?_, fun m => ?_, one_powU (m := 499)⟩
  · cases s m
    · exact Gr.zero 1 1
    · exact Gr.one 1 1
  · cases s m <;> decide +kernel
  · cases s m <;> decide +kernel
theorem sure_after (s : Nat → Bool) (k : Nat) (hk : k ≤ 30) (W : World) (hS : Std W) : Calls Tryz.prog 33 #[.agg #[.string (bt (s 0)), .string (bt (s 1)), .string (bt (s 2))], .int .i64 (k : Int)] W fun e w' =>
    e = .returned (.tuple #[.agg #[.string (bt (decide ((sureP s k (begunP 0)).mode = 0))), .string (bt (decide ((sureP s k (begunP 0)).mode = 1))), .string (bt (decide ((sureP s k (begunP 0)).mode = 2))), .string (bt (decide ((sureP s k (begunP 0)).mode = 3)))], .int .i64 0]) ∧ Below W.heap.size W w' := by
  have hg := sure_gr s k
  have hgv := fun (W : World) (hS : Std W) => given_any W (fun m => if s m then 1 else 0) (fun j => bt (s j)) (fun j hj => bt_text (s j)) (fun j hj => by show (bt (s j)).size < _; cases s j <;> decide) (fun j hj => by
    show Fit (if s j then 1 else 0)
    cases s j
    · exact (sz_zeroS 1).fit (by omega) (by omega)
    · exact fit_one) hS
  rw [badE_in (fun j hj => ⟨hg.nn j, hg.le j⟩)] at hgv
  have h := swaft_any W (fun m => if s m then 1 else 0) k 1 hk hg
  rw [bt_eq, bt_eq, bt_eq] at h
  have hq : ∀ j, modeQ (fun m => if s m then 1 else 0) k j = if (sureP s k (begunP 0)).mode = j then 1 else 0 := fun j => modeQ_sure (s := s) (fun m _ => rfl) k j
  rw [hq, hq, hq, hq, bt_of, bt_of, bt_of, bt_of] at h
  exact h (fun W hS => hgv W hS) hS
theorem sure_on (s : Nat → Bool) {j k : Nat} (hj : j ≤ k) (h : (sureP s j (begunP 0)).mode = 3) : (sureP s k (begunP 0)).mode = 3 := by
  rw [show k = j + (k - j) by omega, sureP_add, sureP_stop s h]; exact h
theorem us_size {m : Nat} {fd : Int} (hm : m < 3) (h : fd ≤ 5) : fd ≤ (usS m).1 := by
  rcases (by omega : m = 0 ∨ m = 1 ∨ m = 2) with rfl | rfl | rfl
  · show fd ≤ 20; omega
  · show fd ≤ 20; omega
  · show fd ≤ 8; omega
theorem us_zero {m : Nat} : decide ((0 : Int) ≤ (usS m).2) = true := decide_eq_true (Int.natCast_nonneg _)
theorem us_five {m : Nat} (hm : m < 3) : decide ((5 : Int) ≤ (usS m).2) = false := by
  rcases (by omega : m = 0 ∨ m = 1 ∨ m = 2) with rfl | rfl | rfl <;> rfl
theorem idx_b3 {b : Nat → Bool} {j : Nat} (hj : j < 3) (w : World) :
    (Instr.index 78 (.agg #[.bool (b 0), .bool (b 1), .bool (b 2)]) (.int .i64 (j : Int))).run Tryz.prog w = .ok (.bool (b j)) w := by
  obtain ⟨i, hi⟩ : ∃ i, Tryz.prog.info? 4 = some i := Option.isSome_iff_exists.1 (by kernel_rfl)
  refine run_index_plain (show Tryz.prog.underlying 78 = some (.array 3 4) by kernel_rfl) hi (by kernel_rfl) (by kernel_rfl) hj ?_ w
  rcases (by omega : j = 0 ∨ j = 1 ∨ j = 2) with rfl | rfl | rfl <;> rfl
set_option maxRecDepth 100000 in
set_option maxHeartbeats 8000000 in
theorem sure55_any (w : World) (b0 b1 b2 : Bool) (lots : Int) (hl : 0 ≤ lots ∧ lots < 256) (hs : Std w) :
    Calls Tryz.prog 8 #[.agg #[.bool b0, .bool b1, .bool b2], .int .u8 lots] w fun e w' => e = .returned (.bool true) ∧ Below w.heap.size w w' := by
  obtain ⟨s, hsv⟩ : ∃ s : Nat → Bool, s = fun j => if j = 0 then b0 else if j = 1 then b1 else b2 := ⟨_, rfl⟩
  have a0 : b0 = s 0 := by rw [hsv]; rfl
  have a1 : b1 = s 1 := by rw [hsv]; rfl
  have a2 : b2 = s 2 := by rw [hsv]; rfl
  rw [a0, a1, a2]
  clear hsv a0 a1 a2
  have HS := hide hs
  have HAW := hide (fun W hS => awake55_any W hS)
  have HUS := hide (fun W => usual_any W)
  have hw1 : IntKind.i64.wrap lots = lots := IntWalk.i64_in _ (by omega)
  obtain ⟨k, hk⟩ : ∃ k : Nat, lots.tmod 31 = (k : Int) := ⟨(lots.tmod 31).toNat, by have := Int.tmod_nonneg (a := lots) 31 hl.1; omega⟩
  have hk31 : k < 31 := by have := Int.tmod_lt_of_pos lots (show (0 : Int) < 31 by omega); omega
  have HK := hide hk31
  have HAF := hide (fun (W : World) (hS : Std W) => sure_after s k (by omega) W hS)
  obtain ⟨M, hM⟩ : ∃ M, (sureP s k (begunP 0)).mode = M := ⟨_, rfl⟩
  rw [hM] at HAF
  have HMM := hide hM
  have HIX := hide (fun (j : Nat) (hj : j < 3) W => idx_b3 (b := s) hj W)
  clear hs hl hM
  have HB := allocs_below w [.cells #[.bool (s 0), .bool (s 1), .bool (s 2)] 78]
  have K_p : Blk (allocs w [.cells #[.bool (s 0), .bool (s 1), .bool (s 2)] 78]) (w.heap.size + 0) 78 #[.bool (s 0), .bool (s 1), .bool (s 2)] := allocs_at w [.cells #[.bool (s 0), .bool (s 1), .bool (s 2)] 78] 0 rfl
  unfold allocs at HB K_p
  simp only [List.foldl_cons, List.foldl_nil] at HB K_p
  rw [Nat.add_zero] at K_p
  go_enter Tryz.func8, Tryz.ntmps8
  go_upto_region 1 with (fail)
  generalize (w.alloc (.cells #[.bool (s 0), .bool (s 1), .bool (s 2)] 78)) = w0 at *
  replace K_p := hide K_p
  replace HB := hide HB
  go_upto_region 3 with (fail)
  have lt_q_p : w.heap.size < w0.heap.size := Blk.lt K_p.out
  replace K_p := K_p.out.alloc (.cells #[.string ⟨#[]⟩, .string ⟨#[]⟩, .string ⟨#[]⟩] 66)
  replace HB := HB.out.alloc HB.out.size (.cells #[.string ⟨#[]⟩, .string ⟨#[]⟩, .string ⟨#[]⟩] 66)
  have K_q := Blk.new w0 66 #[.string ⟨#[]⟩, .string ⟨#[]⟩, .string ⟨#[]⟩]
  generalize w0.alloc (.cells #[.string ⟨#[]⟩, .string ⟨#[]⟩, .string ⟨#[]⟩] 66) = w1 at *
  replace K_p := hide K_p
  replace K_q := hide K_q
  replace HB := hide HB
  have p0 := (Blk.cell K_p.out 0).trans (rfl : _ = some (Value.bool (s 0)))
  have p1 := (Blk.cell K_p.out 1).trans (rfl : _ = some (Value.bool (s 1)))
  have p2 := (Blk.cell K_p.out 2).trans (rfl : _ = some (Value.bool (s 2)))
  have HLQ := hide (show w.heap.size < w0.heap.size from lt_q_p)
  go_wp2_with fail
  go_loopg [23] 3 (fun z iv wr => ∃ j : Nat, iv = .int .i64 (j : Int) ∧ z + j = 3 ∧ ((j = 0 ∧ Blk wr w0.heap.size 66 #[.string ⟨#[]⟩, .string ⟨#[]⟩, .string ⟨#[]⟩]) ∨ (j = 1 ∧ Blk wr w0.heap.size 66 #[.string (bt (s 0)), .string ⟨#[]⟩, .string ⟨#[]⟩]) ∨ (j = 2 ∧ Blk wr w0.heap.size 66 #[.string (bt (s 0)), .string (bt (s 1)), .string ⟨#[]⟩]) ∨ (j = 3 ∧ Blk wr w0.heap.size 66 #[.string (bt (s 0)), .string (bt (s 1)), .string (bt (s 2))])) ∧ Blk wr w.heap.size 78 #[.bool (s 0), .bool (s 1), .bool (s 2)] ∧ Below w.heap.size w wr)
  case atStart => exact ⟨0, rfl, rfl, .inl ⟨rfl, K_q.out⟩, K_p.out, HB.out⟩
  case round =>
    clear K_q K_p HB p0 p1 p2
    obtain ⟨j, rfl, hq, hc, hkp, hb⟩ := hrel
    obtain ⟨W1, rfl⟩ : ∃ W, W = wr := ⟨_, rfl⟩
    have HQ := hide hq
    have K_p := hide hkp
    have HB := hide hb
    clear hq hkp hb
    rcases hc with ⟨rfl, hko⟩ | ⟨rfl, hko⟩ | ⟨rfl, hko⟩ | ⟨rfl, hko⟩
    · have K_q := hide hko
      clear hko
      have hx := (show ∀ W, (Instr.index 78 (.agg #[.bool (s 0), .bool (s 1), .bool (s 2)]) (.int .i64 0)).run Tryz.prog W = .ok (.bool (s 0)) W from fun W => HIX.out 0 (by omega) W)
      obtain ⟨bn, hbn⟩ : ∃ b, s 0 = b := ⟨_, rfl⟩
      have HBN := hide hbn
      have hx2 : ∀ W, (Instr.index 78 (.agg #[.bool (s 0), .bool (s 1), .bool (s 2)]) (.int .i64 0)).run Tryz.prog W = .ok (.bool bn) W := fun W => by rw [hx W, hbn]
      clear hx hbn
      cases bn with
      | true =>
        have q0 := (Blk.cell K_q.out 0).trans (rfl : _ = some (Value.string ⟨#[]⟩))
        have qf0 := Blk.frozen K_q.out 0
        have q1 := (Blk.cell K_q.out 1).trans (rfl : _ = some (Value.string ⟨#[]⟩))
        have qf1 := Blk.frozen K_q.out 1
        have q2 := (Blk.cell K_q.out 2).trans (rfl : _ = some (Value.string ⟨#[]⟩))
        have qf2 := Blk.frozen K_q.out 2
        go_wp2_with fail
        go_roundg (gk - 1)
        case measure => have := HQ.out; omega
        case rel => exact ⟨1, by go_num, by have := HQ.out; omega, .inr (.inl ⟨rfl, (show Blk _ w0.heap.size 66 #[.string (bt (s 0)), .string ⟨#[]⟩, .string ⟨#[]⟩] from by rw [HBN.out]; exact ((K_q.out.set_ 0 (.string ⟨#[48]⟩)).set_ 0 (.string ⟨#[49]⟩)))⟩), ((K_p.out.far (p := ⟨w0.heap.size, 0, none⟩) (by show w.heap.size ≠ w0.heap.size; have := HLQ.out; omega) (.string ⟨#[48]⟩)).far (p := ⟨w0.heap.size, 0, none⟩) (by show w.heap.size ≠ w0.heap.size; have := HLQ.out; omega) (.string ⟨#[49]⟩)), ((HB.out.setCell (p := ⟨w0.heap.size, 0, none⟩) (by show w.heap.size ≤ w0.heap.size; have := HLQ.out; omega) (.string ⟨#[48]⟩)).setCell (p := ⟨w0.heap.size, 0, none⟩) (by show w.heap.size ≤ w0.heap.size; have := HLQ.out; omega) (.string ⟨#[49]⟩))⟩
      | false =>
        have q0 := (Blk.cell K_q.out 0).trans (rfl : _ = some (Value.string ⟨#[]⟩))
        have qf0 := Blk.frozen K_q.out 0
        have q1 := (Blk.cell K_q.out 1).trans (rfl : _ = some (Value.string ⟨#[]⟩))
        have qf1 := Blk.frozen K_q.out 1
        have q2 := (Blk.cell K_q.out 2).trans (rfl : _ = some (Value.string ⟨#[]⟩))
        have qf2 := Blk.frozen K_q.out 2
        go_wp2_with fail
        go_roundg (gk - 1)
        case measure => have := HQ.out; omega
        case rel => exact ⟨1, by go_num, by have := HQ.out; omega, .inr (.inl ⟨rfl, (show Blk _ w0.heap.size 66 #[.string (bt (s 0)), .string ⟨#[]⟩, .string ⟨#[]⟩] from by rw [HBN.out]; exact (K_q.out.set_ 0 (.string ⟨#[48]⟩)))⟩), (K_p.out.far (p := ⟨w0.heap.size, 0, none⟩) (by show w.heap.size ≠ w0.heap.size; have := HLQ.out; omega) (.string ⟨#[48]⟩)), (HB.out.setCell (p := ⟨w0.heap.size, 0, none⟩) (by show w.heap.size ≤ w0.heap.size; have := HLQ.out; omega) (.string ⟨#[48]⟩))⟩
    · have K_q := hide hko
      clear hko
      have hx := (show ∀ W, (Instr.index 78 (.agg #[.bool (s 0), .bool (s 1), .bool (s 2)]) (.int .i64 1)).run Tryz.prog W = .ok (.bool (s 1)) W from fun W => HIX.out 1 (by omega) W)
      obtain ⟨bn, hbn⟩ : ∃ b, s 1 = b := ⟨_, rfl⟩
      have HBN := hide hbn
      have hx2 : ∀ W, (Instr.index 78 (.agg #[.bool (s 0), .bool (s 1), .bool (s 2)]) (.int .i64 1)).run Tryz.prog W = .ok (.bool bn) W := fun W => by rw [hx W, hbn]
      clear hx hbn
      cases bn with
      | true =>
        have q0 := (Blk.cell K_q.out 0).trans (rfl : _ = some (Value.string (bt (s 0))))
        have qf0 := Blk.frozen K_q.out 0
        have q1 := (Blk.cell K_q.out 1).trans (rfl : _ = some (Value.string ⟨#[]⟩))
        have qf1 := Blk.frozen K_q.out 1
        have q2 := (Blk.cell K_q.out 2).trans (rfl : _ = some (Value.string ⟨#[]⟩))
        have qf2 := Blk.frozen K_q.out 2
        go_wp2_with fail
        go_roundg (gk - 1)
        case measure => have := HQ.out; omega
        case rel => exact ⟨2, by go_num, by have := HQ.out; omega, .inr (.inr (.inl ⟨rfl, (show Blk _ w0.heap.size 66 #[.string (bt (s 0)), .string (bt (s 1)), .string ⟨#[]⟩] from by rw [HBN.out]; exact ((K_q.out.set_ 1 (.string ⟨#[48]⟩)).set_ 1 (.string ⟨#[49]⟩)))⟩)), ((K_p.out.far (p := ⟨w0.heap.size, 1, none⟩) (by show w.heap.size ≠ w0.heap.size; have := HLQ.out; omega) (.string ⟨#[48]⟩)).far (p := ⟨w0.heap.size, 1, none⟩) (by show w.heap.size ≠ w0.heap.size; have := HLQ.out; omega) (.string ⟨#[49]⟩)), ((HB.out.setCell (p := ⟨w0.heap.size, 1, none⟩) (by show w.heap.size ≤ w0.heap.size; have := HLQ.out; omega) (.string ⟨#[48]⟩)).setCell (p := ⟨w0.heap.size, 1, none⟩) (by show w.heap.size ≤ w0.heap.size; have := HLQ.out; omega) (.string ⟨#[49]⟩))⟩
      | false =>
        have q0 := (Blk.cell K_q.out 0).trans (rfl : _ = some (Value.string (bt (s 0))))
        have qf0 := Blk.frozen K_q.out 0
        have q1 := (Blk.cell K_q.out 1).trans (rfl : _ = some (Value.string ⟨#[]⟩))
        have qf1 := Blk.frozen K_q.out 1
        have q2 := (Blk.cell K_q.out 2).trans (rfl : _ = some (Value.string ⟨#[]⟩))
        have qf2 := Blk.frozen K_q.out 2
        go_wp2_with fail
        go_roundg (gk - 1)
        case measure => have := HQ.out; omega
        case rel => exact ⟨2, by go_num, by have := HQ.out; omega, .inr (.inr (.inl ⟨rfl, (show Blk _ w0.heap.size 66 #[.string (bt (s 0)), .string (bt (s 1)), .string ⟨#[]⟩] from by rw [HBN.out]; exact (K_q.out.set_ 1 (.string ⟨#[48]⟩)))⟩)), (K_p.out.far (p := ⟨w0.heap.size, 1, none⟩) (by show w.heap.size ≠ w0.heap.size; have := HLQ.out; omega) (.string ⟨#[48]⟩)), (HB.out.setCell (p := ⟨w0.heap.size, 1, none⟩) (by show w.heap.size ≤ w0.heap.size; have := HLQ.out; omega) (.string ⟨#[48]⟩))⟩
    · have K_q := hide hko
      clear hko
      have hx := (show ∀ W, (Instr.index 78 (.agg #[.bool (s 0), .bool (s 1), .bool (s 2)]) (.int .i64 2)).run Tryz.prog W = .ok (.bool (s 2)) W from fun W => HIX.out 2 (by omega) W)
      obtain ⟨bn, hbn⟩ : ∃ b, s 2 = b := ⟨_, rfl⟩
      have HBN := hide hbn
      have hx2 : ∀ W, (Instr.index 78 (.agg #[.bool (s 0), .bool (s 1), .bool (s 2)]) (.int .i64 2)).run Tryz.prog W = .ok (.bool bn) W := fun W => by rw [hx W, hbn]
      clear hx hbn
      cases bn with
      | true =>
        have q0 := (Blk.cell K_q.out 0).trans (rfl : _ = some (Value.string (bt (s 0))))
        have qf0 := Blk.frozen K_q.out 0
        have q1 := (Blk.cell K_q.out 1).trans (rfl : _ = some (Value.string (bt (s 1))))
        have qf1 := Blk.frozen K_q.out 1
        have q2 := (Blk.cell K_q.out 2).trans (rfl : _ = some (Value.string ⟨#[]⟩))
        have qf2 := Blk.frozen K_q.out 2
        go_wp2_with fail
        go_roundg (gk - 1)
        case measure => have := HQ.out; omega
        case rel => exact ⟨3, by go_num, by have := HQ.out; omega, .inr (.inr (.inr ⟨rfl, (show Blk _ w0.heap.size 66 #[.string (bt (s 0)), .string (bt (s 1)), .string (bt (s 2))] from by rw [HBN.out]; exact ((K_q.out.set_ 2 (.string ⟨#[48]⟩)).set_ 2 (.string ⟨#[49]⟩)))⟩)), ((K_p.out.far (p := ⟨w0.heap.size, 2, none⟩) (by show w.heap.size ≠ w0.heap.size; have := HLQ.out; omega) (.string ⟨#[48]⟩)).far (p := ⟨w0.heap.size, 2, none⟩) (by show w.heap.size ≠ w0.heap.size; have := HLQ.out; omega) (.string ⟨#[49]⟩)), ((HB.out.setCell (p := ⟨w0.heap.size, 2, none⟩) (by show w.heap.size ≤ w0.heap.size; have := HLQ.out; omega) (.string ⟨#[48]⟩)).setCell (p := ⟨w0.heap.size, 2, none⟩) (by show w.heap.size ≤ w0.heap.size; have := HLQ.out; omega) (.string ⟨#[49]⟩))⟩
      | false =>
        have q0 := (Blk.cell K_q.out 0).trans (rfl : _ = some (Value.string (bt (s 0))))
        have qf0 := Blk.frozen K_q.out 0
        have q1 := (Blk.cell K_q.out 1).trans (rfl : _ = some (Value.string (bt (s 1))))
        have qf1 := Blk.frozen K_q.out 1
        have q2 := (Blk.cell K_q.out 2).trans (rfl : _ = some (Value.string ⟨#[]⟩))
        have qf2 := Blk.frozen K_q.out 2
        go_wp2_with fail
        go_roundg (gk - 1)
        case measure => have := HQ.out; omega
        case rel => exact ⟨3, by go_num, by have := HQ.out; omega, .inr (.inr (.inr ⟨rfl, (show Blk _ w0.heap.size 66 #[.string (bt (s 0)), .string (bt (s 1)), .string (bt (s 2))] from by rw [HBN.out]; exact (K_q.out.set_ 2 (.string ⟨#[48]⟩)))⟩)), (K_p.out.far (p := ⟨w0.heap.size, 2, none⟩) (by show w.heap.size ≠ w0.heap.size; have := HLQ.out; omega) (.string ⟨#[48]⟩)), (HB.out.setCell (p := ⟨w0.heap.size, 2, none⟩) (by show w.heap.size ≤ w0.heap.size; have := HLQ.out; omega) (.string ⟨#[48]⟩))⟩
    · have K_q := hide hko
      clear hko
      have q0 := (Blk.cell K_q.out 0).trans (rfl : _ = some (Value.string (bt (s 0))))
      have q1 := (Blk.cell K_q.out 1).trans (rfl : _ = some (Value.string (bt (s 1))))
      have q2 := (Blk.cell K_q.out 2).trans (rfl : _ = some (Value.string (bt (s 2))))
      go_wp2_with fail
      refine (HAF.out _ (HS.out.below HB.out (Nat.le_refl _))).mono ?_
      rintro e w2 ⟨rfl, hb⟩
      clear q0 q1 q2
      replace K_p := hide (Blk.below K_p.out hb (Blk.lt K_p.out))
      replace K_q := hide (Blk.below K_q.out hb (Blk.lt K_q.out))
      replace HB := hide (HB.out.trans (hb.mono HB.out.size))
      clear hb
      go_upto_region 11 with (fail)
      have hbs_o : w.heap.size ≤ w2.heap.size := HB.out.size
      have lt_o_p : w.heap.size < w2.heap.size := Blk.lt K_p.out
      have lt_o_q : w0.heap.size < w2.heap.size := Blk.lt K_q.out
      replace K_p := K_p.out.alloc (.cells #[.string (bt (decide (M = 0))), .string (bt (decide (M = 1))), .string (bt (decide (M = 2))), .string (bt (decide (M = 3)))] 68)
      replace K_q := K_q.out.alloc (.cells #[.string (bt (decide (M = 0))), .string (bt (decide (M = 1))), .string (bt (decide (M = 2))), .string (bt (decide (M = 3)))] 68)
      replace HB := HB.out.alloc HB.out.size (.cells #[.string (bt (decide (M = 0))), .string (bt (decide (M = 1))), .string (bt (decide (M = 2))), .string (bt (decide (M = 3)))] 68)
      have K_o := Blk.new w2 68 #[.string (bt (decide (M = 0))), .string (bt (decide (M = 1))), .string (bt (decide (M = 2))), .string (bt (decide (M = 3)))]
      generalize w2.alloc (.cells #[.string (bt (decide (M = 0))), .string (bt (decide (M = 1))), .string (bt (decide (M = 2))), .string (bt (decide (M = 3)))] 68) = w3 at *
      replace K_p := hide K_p
      replace K_q := hide K_q
      replace K_o := hide K_o
      replace HB := hide HB
      go_wp2_with fail
      refine (HUS.out _).mono ?_
      rintro e w4 ⟨rfl, hb⟩
      replace K_p := hide (Blk.below K_p.out hb (Blk.lt K_p.out))
      replace K_q := hide (Blk.below K_q.out hb (Blk.lt K_q.out))
      replace K_o := hide (Blk.below K_o.out hb (Blk.lt K_o.out))
      replace HB := hide (HB.out.trans (hb.mono HB.out.size))
      clear hb
      go_upto_region 14 with (fail)
      have hbs_u : w.heap.size ≤ w4.heap.size := HB.out.size
      have lt_u_p : w.heap.size < w4.heap.size := Blk.lt K_p.out
      have lt_u_q : w0.heap.size < w4.heap.size := Blk.lt K_q.out
      have lt_u_o : w2.heap.size < w4.heap.size := Blk.lt K_o.out
      replace K_p := K_p.out.alloc (.cells #[.int .i64 20, .int .i64 1, .int .i64 20, .int .i64 0, .int .i64 8, .int .i64 0] 26)
      replace K_q := K_q.out.alloc (.cells #[.int .i64 20, .int .i64 1, .int .i64 20, .int .i64 0, .int .i64 8, .int .i64 0] 26)
      replace K_o := K_o.out.alloc (.cells #[.int .i64 20, .int .i64 1, .int .i64 20, .int .i64 0, .int .i64 8, .int .i64 0] 26)
      replace HB := HB.out.alloc HB.out.size (.cells #[.int .i64 20, .int .i64 1, .int .i64 20, .int .i64 0, .int .i64 8, .int .i64 0] 26)
      have K_u := Blk.new w4 26 #[.int .i64 20, .int .i64 1, .int .i64 20, .int .i64 0, .int .i64 8, .int .i64 0]
      generalize w4.alloc (.cells #[.int .i64 20, .int .i64 1, .int .i64 20, .int .i64 0, .int .i64 8, .int .i64 0] 26) = w5 at *
      replace K_p := hide K_p
      replace K_q := hide K_q
      replace K_o := hide K_o
      replace K_u := hide K_u
      replace HB := hide HB
      go_upto_region 15 with (fail)
      have hbs_x : w.heap.size ≤ w5.heap.size := HB.out.size
      have lt_x_p : w.heap.size < w5.heap.size := Blk.lt K_p.out
      have lt_x_q : w0.heap.size < w5.heap.size := Blk.lt K_q.out
      have lt_x_o : w2.heap.size < w5.heap.size := Blk.lt K_o.out
      have lt_x_u : w4.heap.size < w5.heap.size := Blk.lt K_u.out
      replace K_p := K_p.out.alloc (.cells #[.int .i64 0, .int .i64 0, .slice none 0 0, .int .i64 0] 29)
      replace K_q := K_q.out.alloc (.cells #[.int .i64 0, .int .i64 0, .slice none 0 0, .int .i64 0] 29)
      replace K_o := K_o.out.alloc (.cells #[.int .i64 0, .int .i64 0, .slice none 0 0, .int .i64 0] 29)
      replace K_u := K_u.out.alloc (.cells #[.int .i64 0, .int .i64 0, .slice none 0 0, .int .i64 0] 29)
      replace HB := HB.out.alloc HB.out.size (.cells #[.int .i64 0, .int .i64 0, .slice none 0 0, .int .i64 0] 29)
      have K_x := Blk.new w5 29 #[.int .i64 0, .int .i64 0, .slice none 0 0, .int .i64 0]
      generalize w5.alloc (.cells #[.int .i64 0, .int .i64 0, .slice none 0 0, .int .i64 0] 29) = w6 at *
      replace K_p := hide K_p
      replace K_q := hide K_q
      replace K_o := hide K_o
      replace K_u := hide K_u
      replace K_x := hide K_x
      replace HB := hide HB
      have HLX := hide (show w4.heap.size < w5.heap.size from lt_x_u)
      have HLO := hide (show w2.heap.size < w5.heap.size from lt_x_o)
      have HLP := hide (show w.heap.size < w5.heap.size from lt_x_p)
      go_wp2_with fail
      go_loopg [44] k (fun z iv wr => ∃ (j : Nat) (x : Sw) (A : Option Addr) (n c : Nat), iv = .int .i64 (j : Int) ∧ z + j = k ∧ Blk wr w5.heap.size 29 #[.int .i64 (x.mode : Int), .int .i64 (x.run : Int), .slice A n c, .int .i64 (x.rej : Int)] ∧ SlL wr (.slice A n c) (bcl x.last) ∧ RightS x ∧ ptOf x = sureP s j (begunP 0) ∧ Blk wr w.heap.size 78 #[.bool (s 0), .bool (s 1), .bool (s 2)] ∧ Blk wr w2.heap.size 68 #[.string (bt (decide (M = 0))), .string (bt (decide (M = 1))), .string (bt (decide (M = 2))), .string (bt (decide (M = 3)))] ∧ Blk wr w4.heap.size 26 #[.int .i64 20, .int .i64 1, .int .i64 20, .int .i64 0, .int .i64 8, .int .i64 0] ∧ Below w.heap.size w wr)
      case atStart => exact ⟨0, swB 0, none, 0, 0, rfl, rfl, K_x.out, SlL.nil _, swB_right (by omega), rfl, K_p.out, K_o.out, K_u.out, HB.out⟩
      case round =>
        clear K_p K_q K_o K_u K_x HB
        obtain ⟨j, x, A, n, c, rfl, hq, hkx, hsl, hrs, hpt, hkp, hko, hku, hb⟩ := hrel
        obtain ⟨W2, rfl⟩ : ∃ W, W = wr := ⟨_, rfl⟩
        obtain ⟨g0, hg0⟩ : ∃ g : Nat, g = gk := ⟨_, rfl⟩
        have HG0 := hide hg0
        have HQ2 := hide hq
        have K_x := hide hkx
        have HSL := hide hsl
        have HRS := hide hrs
        have HPT := hide hpt
        have K_p := hide hkp
        have K_o := hide hko
        have K_u := hide hku
        have HB := hide hb
        have hjk : j ≤ k := by omega
        have HJK := hide hjk
        clear hq hkx hsl hrs hpt hkp hko hku hb hg0 hjk
        by_cases hlt2 : j < k
        · have hjl : (j : Int) < (k : Int) := by omega
          by_cases h3 : x.mode = 3
          · have hxm : x.mode = M := by rw [h3, ← HMM.out]; exact (sure_on s HJK.out (by rw [← HPT.out]; exact h3)).symm
            have hm3 : ((x.mode : Int) == 3) = true := by rw [h3]; rfl
            clear h3
            have hkk := K_x.out
            have x0 := (Blk.cell K_x.out 0).trans (rfl : _ = some (Value.int .i64 (x.mode : Int)))
            have x1 := (Blk.cell K_x.out 1).trans (rfl : _ = some (Value.int .i64 (x.run : Int)))
            have x2 := (Blk.cell K_x.out 2).trans (rfl : _ = some (Value.slice A n c))
            have x3 := (Blk.cell K_x.out 3).trans (rfl : _ = some (Value.int .i64 (x.rej : Int)))
            go_wp2_with fail
            clear hkk x0 x1 x2 x3
            have HXM := hide hxm
            clear hxm
            go_loopg [74] 4 (fun z iv wr => ∃ i : Nat, iv = .int .i64 (i : Int) ∧ z + i = 4 ∧ Below W2.heap.size W2 wr)
            case atStart => exact ⟨0, rfl, rfl, Below.refl _ _⟩
            case round =>
              obtain ⟨i, rfl, hq, hb⟩ := hrel
              obtain ⟨W3, rfl⟩ : ∃ W, W = wr := ⟨_, rfl⟩
              have HQ3 := hide hq
              have HB3 := hide hb
              have HBW := hide (HB.out.trans (hb.mono HB.out.size))
              have hi : i ≤ 4 := by omega
              have K_o3 := hide (Blk.below K_o.out hb (Blk.lt K_o.out))
              have K_x3 := hide (Blk.below K_x.out hb (Blk.lt K_x.out))
              clear hq hb
              by_cases hlt3 : i < 4
              · have hii : (i : Int) < 4 := by omega
                have hi0 : (0 : Int) ≤ (i : Int) := by omega
                have x0 := (Blk.cell K_x3.out 0).trans (rfl : _ = some (Value.int .i64 (x.mode : Int)))
                by_cases hiM : i = M
                · have hP : W3.cell? ⟨w2.heap.size, i, none⟩ = some (.string ⟨#[49]⟩) := by
                    have hd : decide (M = i) = true := decide_eq_true hiM.symm
                    have h : W3.cell? ⟨w2.heap.size, i, none⟩ = some (.string (bt (decide (M = i)))) := by rcases (by omega : i = 0 ∨ i = 1 ∨ i = 2 ∨ i = 3) with rfl | rfl | rfl | rfl <;> exact (Blk.cell K_o3.out _).trans rfl
                    rw [hd] at h
                    exact h
                  have hcm : ((i : Int) == (x.mode : Int)) = true := by rw [HXM.out, hiM]; exact beq_self_eq_true _
                  have HIM := hide hiM
                  clear hiM
                  go_wp2_with fail
                  go_roundg (gk - 1)
                  case measure => have := HQ3.out; omega
                  case rel => exact ⟨i + 1, by go_num, by have := HQ3.out; omega, HB3.out⟩
                · have hP : W3.cell? ⟨w2.heap.size, i, none⟩ = some (.string ⟨#[48]⟩) := by
                    have hd : decide (M = i) = false := decide_eq_false (fun e => hiM e.symm)
                    have h : W3.cell? ⟨w2.heap.size, i, none⟩ = some (.string (bt (decide (M = i)))) := by rcases (by omega : i = 0 ∨ i = 1 ∨ i = 2 ∨ i = 3) with rfl | rfl | rfl | rfl <;> exact (Blk.cell K_o3.out _).trans rfl
                    rw [hd] at h
                    exact h
                  have hcm : ((i : Int) == (x.mode : Int)) = false := by rw [HXM.out, beq_eq_false_iff_ne]; omega
                  have HIM := hide hiM
                  clear hiM
                  go_wp2_with fail
                  go_roundg (gk - 1)
                  case measure => have := HQ3.out; omega
                  case rel => exact ⟨i + 1, by go_num, by have := HQ3.out; omega, HB3.out⟩
              · have hii : ¬ (i : Int) < 4 := by omega
                go_wp2_with fail
                refine (HAW.out _ (HS.out.below HBW.out (Nat.le_refl _))).mono ?_
                rintro e w9 ⟨rfl, hb⟩
                have HX := hide (HBW.out.trans (hb.mono HBW.out.size))
                clear hb
                go_wp2_with fail
                go_ret
                exact ⟨rfl, HX.out⟩
          · have hm3 : ((x.mode : Int) == 3) = false := by rw [beq_eq_false_iff_ne]; omega
            have hm2 : x.mode < 3 := by have := okP_right HRS.out; omega
            have hn0 : ¬ (x.mode : Int) < 0 := by omega
            have hn2 : ¬ (2 : Int) < (x.mode : Int) := by omega
            have hx0 : (0 : Int) ≤ (x.mode : Int) := by omega
            have hx3 : (x.mode : Int) < 3 := by omega
            have H3 := hide h3
            clear h3
            obtain ⟨bm, hbm⟩ : ∃ b, s x.mode = b := ⟨_, rfl⟩
            have HBM := hide hbm
            have hpm : W2.cell? ⟨w.heap.size, x.mode, none⟩ = some (.bool bm) := by
              rw [← hbm]
              rcases (by omega : x.mode = 0 ∨ x.mode = 1 ∨ x.mode = 2) with e | e | e <;> rw [e] <;> exact (Blk.cell K_p.out _).trans rfl
            have HNX := hide (fun (W : World) (fd : Int) (hf : 0 ≤ fd ∧ fd ≤ 5) (h : SlL W (.slice A n c) (bcl x.last)) => swnext_ok W usS x fd (.slice A n c) h (show ckS usS = 0 from by decide) HRS.out H3.out hf.1 (us_size hm2 hf.2))
            clear hbm
            cases bm with
            | true =>
              have hkr := HK.out
              have HNY := hide (show ∀ W, SlL W (.slice A n c) (bcl x.last) → Calls Tryz.prog 25 #[.agg #[.int .i64 20, .int .i64 1, .int .i64 20, .int .i64 0, .int .i64 8, .int .i64 0], .agg #[.int .i64 (x.mode : Int), .int .i64 (x.run : Int), .slice A n c, .int .i64 (x.rej : Int)], .int .i64 0] W (fun e w' => ∃ u, e = .returned (.tuple #[u, .bool true, .int .i64 0]) ∧ StN W.heap.size w' u (goesS x true) ∧ Below W.heap.size W w') from fun W hW => by
                have h := HNX.out W 0 (by omega) hW
                rw [us_zero] at h
                exact h)
              clear HNX
              have x0 := (Blk.cell K_x.out 0).trans (rfl : _ = some (Value.int .i64 (x.mode : Int)))
              have x1 := (Blk.cell K_x.out 1).trans (rfl : _ = some (Value.int .i64 (x.run : Int)))
              have x2 := (Blk.cell K_x.out 2).trans (rfl : _ = some (Value.slice A n c))
              have x3 := (Blk.cell K_x.out 3).trans (rfl : _ = some (Value.int .i64 (x.rej : Int)))
              have u0 := (Blk.cell K_u.out 0).trans (rfl : _ = some (Value.int .i64 20))
              have u1 := (Blk.cell K_u.out 1).trans (rfl : _ = some (Value.int .i64 1))
              have u2 := (Blk.cell K_u.out 2).trans (rfl : _ = some (Value.int .i64 20))
              have u3 := (Blk.cell K_u.out 3).trans (rfl : _ = some (Value.int .i64 0))
              have u4 := (Blk.cell K_u.out 4).trans (rfl : _ = some (Value.int .i64 8))
              have u5 := (Blk.cell K_u.out 5).trans (rfl : _ = some (Value.int .i64 0))
              go_wp2_with fail
              refine (HNY.out _ HSL.out).mono ?_
              rintro e w7 ⟨u, rfl, hst, hb⟩
              obtain ⟨sl, rfl, hsl, -⟩ := hst
              obtain ⟨A9, n9, c9, rfl⟩ := hsl.shape3
              clear hpm HNY
              clear x0 x1 x2 x3 u0 u1 u2 u3 u4 u5
              replace K_p := hide (Blk.below K_p.out hb (Blk.lt K_p.out))
              replace K_o := hide (Blk.below K_o.out hb (Blk.lt K_o.out))
              replace K_u := hide (Blk.below K_u.out hb (Blk.lt K_u.out))
              replace K_x := hide (Blk.below K_x.out hb (Blk.lt K_x.out))
              replace HB := hide (HB.out.trans (hb.mono HB.out.size))
              replace HSL := hide (HSL.out.below hb)
              clear hb
              obtain ⟨y, hy⟩ : ∃ y, goesS x true = y := ⟨_, rfl⟩
              rw [hy] at hsl ⊢
              have HY := hide hy
              have HS9 := hide hsl
              clear hsl hy
              go_upto_region 24 with (fail)
              have hbs_t : w.heap.size ≤ w7.heap.size := HB.out.size
              have lt_t_p : w.heap.size < w7.heap.size := Blk.lt K_p.out
              have lt_t_o : w2.heap.size < w7.heap.size := Blk.lt K_o.out
              have lt_t_u : w4.heap.size < w7.heap.size := Blk.lt K_u.out
              have lt_t_x : w5.heap.size < w7.heap.size := Blk.lt K_x.out
              replace K_p := K_p.out.alloc (.cells #[.int .i64 (y.mode : Int), .int .i64 (y.run : Int), .slice A9 n9 c9, .int .i64 (y.rej : Int)] 29)
              replace K_o := K_o.out.alloc (.cells #[.int .i64 (y.mode : Int), .int .i64 (y.run : Int), .slice A9 n9 c9, .int .i64 (y.rej : Int)] 29)
              replace K_u := K_u.out.alloc (.cells #[.int .i64 (y.mode : Int), .int .i64 (y.run : Int), .slice A9 n9 c9, .int .i64 (y.rej : Int)] 29)
              replace K_x := K_x.out.alloc (.cells #[.int .i64 (y.mode : Int), .int .i64 (y.run : Int), .slice A9 n9 c9, .int .i64 (y.rej : Int)] 29)
              replace HB := HB.out.alloc HB.out.size (.cells #[.int .i64 (y.mode : Int), .int .i64 (y.run : Int), .slice A9 n9 c9, .int .i64 (y.rej : Int)] 29)
              have K_t := Blk.new w7 29 #[.int .i64 (y.mode : Int), .int .i64 (y.run : Int), .slice A9 n9 c9, .int .i64 (y.rej : Int)]
              replace HS9 := HS9.out.below ((Below.refl w7.heap.size w7).alloc (Nat.le_refl _) (.cells #[.int .i64 (y.mode : Int), .int .i64 (y.run : Int), .slice A9 n9 c9, .int .i64 (y.rej : Int)] 29))
              generalize w7.alloc (.cells #[.int .i64 (y.mode : Int), .int .i64 (y.run : Int), .slice A9 n9 c9, .int .i64 (y.rej : Int)] 29) = w8 at *
              replace K_p := hide K_p
              replace K_o := hide K_o
              replace K_u := hide K_u
              replace K_x := hide K_x
              replace K_t := hide K_t
              replace HB := hide HB
              replace HS9 := hide HS9
              have t0 := (Blk.cell K_t.out 0).trans (rfl : _ = some (Value.int .i64 (y.mode : Int)))
              have t1 := (Blk.cell K_t.out 1).trans (rfl : _ = some (Value.int .i64 (y.run : Int)))
              have t2 := (Blk.cell K_t.out 2).trans (rfl : _ = some (Value.slice A9 n9 c9))
              have t3 := (Blk.cell K_t.out 3).trans (rfl : _ = some (Value.int .i64 (y.rej : Int)))
              have x0 := (Blk.cell K_x.out 0).trans (rfl : _ = some (Value.int .i64 (x.mode : Int)))
              have xf0 := Blk.frozen K_x.out 0
              have x1 := (Blk.cell K_x.out 1).trans (rfl : _ = some (Value.int .i64 (x.run : Int)))
              have xf1 := Blk.frozen K_x.out 1
              have x2 := (Blk.cell K_x.out 2).trans (rfl : _ = some (Value.slice A n c))
              have xf2 := Blk.frozen K_x.out 2
              have x3 := (Blk.cell K_x.out 3).trans (rfl : _ = some (Value.int .i64 (x.rej : Int)))
              have xf3 := Blk.frozen K_x.out 3
              go_wp2_with fail
              go_roundg (gk - 1)
              case measure => have := HQ2.out; omega
              case rel => exact ⟨j + 1, y, A9, n9, c9, by have := HK.out; go_num, by have := HQ2.out; omega, ((((K_x.out.set_ 0 (.int .i64 (y.mode : Int))).set_ 1 (.int .i64 (y.run : Int))).set_ 2 (.slice A9 n9 c9)).set_ 3 (.int .i64 (y.rej : Int))), HS9.out.own K_x.out (nobool4 _ _ _ _ _ _) (only_setCell (only_setCell (only_setCell (only_setCell (only_refl _ (some (w5.heap.size))) (p := ⟨w5.heap.size, 0, none⟩) (Or.inl rfl) (.int .i64 (y.mode : Int))) (p := ⟨w5.heap.size, 1, none⟩) (Or.inl rfl) (.int .i64 (y.run : Int))) (p := ⟨w5.heap.size, 2, none⟩) (Or.inl rfl) (.slice A9 n9 c9)) (p := ⟨w5.heap.size, 3, none⟩) (Or.inl rfl) (.int .i64 (y.rej : Int))), by rw [← HY.out]; exact (goesS_ok HRS.out _).2, by rw [← HY.out, (goesS_ok HRS.out _).1, sureP_succ, ← HPT.out]; show goesP (ptOf x) true = goesP (ptOf x) (s x.mode); rw [HBM.out], ((((K_p.out.far (p := ⟨w5.heap.size, 0, none⟩) (by show w.heap.size ≠ w5.heap.size; have := HLP.out; have := HLO.out; have := HLX.out; omega) (.int .i64 (y.mode : Int))).far (p := ⟨w5.heap.size, 1, none⟩) (by show w.heap.size ≠ w5.heap.size; have := HLP.out; have := HLO.out; have := HLX.out; omega) (.int .i64 (y.run : Int))).far (p := ⟨w5.heap.size, 2, none⟩) (by show w.heap.size ≠ w5.heap.size; have := HLP.out; have := HLO.out; have := HLX.out; omega) (.slice A9 n9 c9)).far (p := ⟨w5.heap.size, 3, none⟩) (by show w.heap.size ≠ w5.heap.size; have := HLP.out; have := HLO.out; have := HLX.out; omega) (.int .i64 (y.rej : Int))), ((((K_o.out.far (p := ⟨w5.heap.size, 0, none⟩) (by show w2.heap.size ≠ w5.heap.size; have := HLP.out; have := HLO.out; have := HLX.out; omega) (.int .i64 (y.mode : Int))).far (p := ⟨w5.heap.size, 1, none⟩) (by show w2.heap.size ≠ w5.heap.size; have := HLP.out; have := HLO.out; have := HLX.out; omega) (.int .i64 (y.run : Int))).far (p := ⟨w5.heap.size, 2, none⟩) (by show w2.heap.size ≠ w5.heap.size; have := HLP.out; have := HLO.out; have := HLX.out; omega) (.slice A9 n9 c9)).far (p := ⟨w5.heap.size, 3, none⟩) (by show w2.heap.size ≠ w5.heap.size; have := HLP.out; have := HLO.out; have := HLX.out; omega) (.int .i64 (y.rej : Int))), ((((K_u.out.far (p := ⟨w5.heap.size, 0, none⟩) (by show w4.heap.size ≠ w5.heap.size; have := HLP.out; have := HLO.out; have := HLX.out; omega) (.int .i64 (y.mode : Int))).far (p := ⟨w5.heap.size, 1, none⟩) (by show w4.heap.size ≠ w5.heap.size; have := HLP.out; have := HLO.out; have := HLX.out; omega) (.int .i64 (y.run : Int))).far (p := ⟨w5.heap.size, 2, none⟩) (by show w4.heap.size ≠ w5.heap.size; have := HLP.out; have := HLO.out; have := HLX.out; omega) (.slice A9 n9 c9)).far (p := ⟨w5.heap.size, 3, none⟩) (by show w4.heap.size ≠ w5.heap.size; have := HLP.out; have := HLO.out; have := HLX.out; omega) (.int .i64 (y.rej : Int))), ((((HB.out.setCell (p := ⟨w5.heap.size, 0, none⟩) (by show w.heap.size ≤ w5.heap.size; have := HLP.out; omega) (.int .i64 (y.mode : Int))).setCell (p := ⟨w5.heap.size, 1, none⟩) (by show w.heap.size ≤ w5.heap.size; have := HLP.out; omega) (.int .i64 (y.run : Int))).setCell (p := ⟨w5.heap.size, 2, none⟩) (by show w.heap.size ≤ w5.heap.size; have := HLP.out; omega) (.slice A9 n9 c9)).setCell (p := ⟨w5.heap.size, 3, none⟩) (by show w.heap.size ≤ w5.heap.size; have := HLP.out; omega) (.int .i64 (y.rej : Int)))⟩
            | false =>
              have hkr := HK.out
              have HNY := hide (show ∀ W, SlL W (.slice A n c) (bcl x.last) → Calls Tryz.prog 25 #[.agg #[.int .i64 20, .int .i64 1, .int .i64 20, .int .i64 0, .int .i64 8, .int .i64 0], .agg #[.int .i64 (x.mode : Int), .int .i64 (x.run : Int), .slice A n c, .int .i64 (x.rej : Int)], .int .i64 5] W (fun e w' => ∃ u, e = .returned (.tuple #[u, .bool false, .int .i64 0]) ∧ StN W.heap.size w' u (goesS x false) ∧ Below W.heap.size W w') from fun W hW => by
                have h := HNX.out W 5 (by omega) hW
                rw [us_five hm2] at h
                exact h)
              clear HNX
              have x0 := (Blk.cell K_x.out 0).trans (rfl : _ = some (Value.int .i64 (x.mode : Int)))
              have x1 := (Blk.cell K_x.out 1).trans (rfl : _ = some (Value.int .i64 (x.run : Int)))
              have x2 := (Blk.cell K_x.out 2).trans (rfl : _ = some (Value.slice A n c))
              have x3 := (Blk.cell K_x.out 3).trans (rfl : _ = some (Value.int .i64 (x.rej : Int)))
              have u0 := (Blk.cell K_u.out 0).trans (rfl : _ = some (Value.int .i64 20))
              have u1 := (Blk.cell K_u.out 1).trans (rfl : _ = some (Value.int .i64 1))
              have u2 := (Blk.cell K_u.out 2).trans (rfl : _ = some (Value.int .i64 20))
              have u3 := (Blk.cell K_u.out 3).trans (rfl : _ = some (Value.int .i64 0))
              have u4 := (Blk.cell K_u.out 4).trans (rfl : _ = some (Value.int .i64 8))
              have u5 := (Blk.cell K_u.out 5).trans (rfl : _ = some (Value.int .i64 0))
              go_wp2_with fail
              refine (HNY.out _ HSL.out).mono ?_
              rintro e w7 ⟨u, rfl, hst, hb⟩
              obtain ⟨sl, rfl, hsl, -⟩ := hst
              obtain ⟨A9, n9, c9, rfl⟩ := hsl.shape3
              clear hpm HNY
              clear x0 x1 x2 x3 u0 u1 u2 u3 u4 u5
              replace K_p := hide (Blk.below K_p.out hb (Blk.lt K_p.out))
              replace K_o := hide (Blk.below K_o.out hb (Blk.lt K_o.out))
              replace K_u := hide (Blk.below K_u.out hb (Blk.lt K_u.out))
              replace K_x := hide (Blk.below K_x.out hb (Blk.lt K_x.out))
              replace HB := hide (HB.out.trans (hb.mono HB.out.size))
              replace HSL := hide (HSL.out.below hb)
              clear hb
              obtain ⟨y, hy⟩ : ∃ y, goesS x false = y := ⟨_, rfl⟩
              rw [hy] at hsl ⊢
              have HY := hide hy
              have HS9 := hide hsl
              clear hsl hy
              go_upto_region 24 with (fail)
              have hbs_t : w.heap.size ≤ w7.heap.size := HB.out.size
              have lt_t_p : w.heap.size < w7.heap.size := Blk.lt K_p.out
              have lt_t_o : w2.heap.size < w7.heap.size := Blk.lt K_o.out
              have lt_t_u : w4.heap.size < w7.heap.size := Blk.lt K_u.out
              have lt_t_x : w5.heap.size < w7.heap.size := Blk.lt K_x.out
              replace K_p := K_p.out.alloc (.cells #[.int .i64 (y.mode : Int), .int .i64 (y.run : Int), .slice A9 n9 c9, .int .i64 (y.rej : Int)] 29)
              replace K_o := K_o.out.alloc (.cells #[.int .i64 (y.mode : Int), .int .i64 (y.run : Int), .slice A9 n9 c9, .int .i64 (y.rej : Int)] 29)
              replace K_u := K_u.out.alloc (.cells #[.int .i64 (y.mode : Int), .int .i64 (y.run : Int), .slice A9 n9 c9, .int .i64 (y.rej : Int)] 29)
              replace K_x := K_x.out.alloc (.cells #[.int .i64 (y.mode : Int), .int .i64 (y.run : Int), .slice A9 n9 c9, .int .i64 (y.rej : Int)] 29)
              replace HB := HB.out.alloc HB.out.size (.cells #[.int .i64 (y.mode : Int), .int .i64 (y.run : Int), .slice A9 n9 c9, .int .i64 (y.rej : Int)] 29)
              have K_t := Blk.new w7 29 #[.int .i64 (y.mode : Int), .int .i64 (y.run : Int), .slice A9 n9 c9, .int .i64 (y.rej : Int)]
              replace HS9 := HS9.out.below ((Below.refl w7.heap.size w7).alloc (Nat.le_refl _) (.cells #[.int .i64 (y.mode : Int), .int .i64 (y.run : Int), .slice A9 n9 c9, .int .i64 (y.rej : Int)] 29))
              generalize w7.alloc (.cells #[.int .i64 (y.mode : Int), .int .i64 (y.run : Int), .slice A9 n9 c9, .int .i64 (y.rej : Int)] 29) = w8 at *
              replace K_p := hide K_p
              replace K_o := hide K_o
              replace K_u := hide K_u
              replace K_x := hide K_x
              replace K_t := hide K_t
              replace HB := hide HB
              replace HS9 := hide HS9
              have t0 := (Blk.cell K_t.out 0).trans (rfl : _ = some (Value.int .i64 (y.mode : Int)))
              have t1 := (Blk.cell K_t.out 1).trans (rfl : _ = some (Value.int .i64 (y.run : Int)))
              have t2 := (Blk.cell K_t.out 2).trans (rfl : _ = some (Value.slice A9 n9 c9))
              have t3 := (Blk.cell K_t.out 3).trans (rfl : _ = some (Value.int .i64 (y.rej : Int)))
              have x0 := (Blk.cell K_x.out 0).trans (rfl : _ = some (Value.int .i64 (x.mode : Int)))
              have xf0 := Blk.frozen K_x.out 0
              have x1 := (Blk.cell K_x.out 1).trans (rfl : _ = some (Value.int .i64 (x.run : Int)))
              have xf1 := Blk.frozen K_x.out 1
              have x2 := (Blk.cell K_x.out 2).trans (rfl : _ = some (Value.slice A n c))
              have xf2 := Blk.frozen K_x.out 2
              have x3 := (Blk.cell K_x.out 3).trans (rfl : _ = some (Value.int .i64 (x.rej : Int)))
              have xf3 := Blk.frozen K_x.out 3
              go_wp2_with fail
              go_roundg (gk - 1)
              case measure => have := HQ2.out; omega
              case rel => exact ⟨j + 1, y, A9, n9, c9, by have := HK.out; go_num, by have := HQ2.out; omega, ((((K_x.out.set_ 0 (.int .i64 (y.mode : Int))).set_ 1 (.int .i64 (y.run : Int))).set_ 2 (.slice A9 n9 c9)).set_ 3 (.int .i64 (y.rej : Int))), HS9.out.own K_x.out (nobool4 _ _ _ _ _ _) (only_setCell (only_setCell (only_setCell (only_setCell (only_refl _ (some (w5.heap.size))) (p := ⟨w5.heap.size, 0, none⟩) (Or.inl rfl) (.int .i64 (y.mode : Int))) (p := ⟨w5.heap.size, 1, none⟩) (Or.inl rfl) (.int .i64 (y.run : Int))) (p := ⟨w5.heap.size, 2, none⟩) (Or.inl rfl) (.slice A9 n9 c9)) (p := ⟨w5.heap.size, 3, none⟩) (Or.inl rfl) (.int .i64 (y.rej : Int))), by rw [← HY.out]; exact (goesS_ok HRS.out _).2, by rw [← HY.out, (goesS_ok HRS.out _).1, sureP_succ, ← HPT.out]; show goesP (ptOf x) false = goesP (ptOf x) (s x.mode); rw [HBM.out], ((((K_p.out.far (p := ⟨w5.heap.size, 0, none⟩) (by show w.heap.size ≠ w5.heap.size; have := HLP.out; have := HLO.out; have := HLX.out; omega) (.int .i64 (y.mode : Int))).far (p := ⟨w5.heap.size, 1, none⟩) (by show w.heap.size ≠ w5.heap.size; have := HLP.out; have := HLO.out; have := HLX.out; omega) (.int .i64 (y.run : Int))).far (p := ⟨w5.heap.size, 2, none⟩) (by show w.heap.size ≠ w5.heap.size; have := HLP.out; have := HLO.out; have := HLX.out; omega) (.slice A9 n9 c9)).far (p := ⟨w5.heap.size, 3, none⟩) (by show w.heap.size ≠ w5.heap.size; have := HLP.out; have := HLO.out; have := HLX.out; omega) (.int .i64 (y.rej : Int))), ((((K_o.out.far (p := ⟨w5.heap.size, 0, none⟩) (by show w2.heap.size ≠ w5.heap.size; have := HLP.out; have := HLO.out; have := HLX.out; omega) (.int .i64 (y.mode : Int))).far (p := ⟨w5.heap.size, 1, none⟩) (by show w2.heap.size ≠ w5.heap.size; have := HLP.out; have := HLO.out; have := HLX.out; omega) (.int .i64 (y.run : Int))).far (p := ⟨w5.heap.size, 2, none⟩) (by show w2.heap.size ≠ w5.heap.size; have := HLP.out; have := HLO.out; have := HLX.out; omega) (.slice A9 n9 c9)).far (p := ⟨w5.heap.size, 3, none⟩) (by show w2.heap.size ≠ w5.heap.size; have := HLP.out; have := HLO.out; have := HLX.out; omega) (.int .i64 (y.rej : Int))), ((((K_u.out.far (p := ⟨w5.heap.size, 0, none⟩) (by show w4.heap.size ≠ w5.heap.size; have := HLP.out; have := HLO.out; have := HLX.out; omega) (.int .i64 (y.mode : Int))).far (p := ⟨w5.heap.size, 1, none⟩) (by show w4.heap.size ≠ w5.heap.size; have := HLP.out; have := HLO.out; have := HLX.out; omega) (.int .i64 (y.run : Int))).far (p := ⟨w5.heap.size, 2, none⟩) (by show w4.heap.size ≠ w5.heap.size; have := HLP.out; have := HLO.out; have := HLX.out; omega) (.slice A9 n9 c9)).far (p := ⟨w5.heap.size, 3, none⟩) (by show w4.heap.size ≠ w5.heap.size; have := HLP.out; have := HLO.out; have := HLX.out; omega) (.int .i64 (y.rej : Int))), ((((HB.out.setCell (p := ⟨w5.heap.size, 0, none⟩) (by show w.heap.size ≤ w5.heap.size; have := HLP.out; omega) (.int .i64 (y.mode : Int))).setCell (p := ⟨w5.heap.size, 1, none⟩) (by show w.heap.size ≤ w5.heap.size; have := HLP.out; omega) (.int .i64 (y.run : Int))).setCell (p := ⟨w5.heap.size, 2, none⟩) (by show w.heap.size ≤ w5.heap.size; have := HLP.out; omega) (.slice A9 n9 c9)).setCell (p := ⟨w5.heap.size, 3, none⟩) (by show w.heap.size ≤ w5.heap.size; have := HLP.out; omega) (.int .i64 (y.rej : Int)))⟩
        · have hjl : ¬ (j : Int) < (k : Int) := by omega
          have hxm : x.mode = M := by rw [← HMM.out, show k = j by have := HQ2.out; omega, ← HPT.out]; rfl
          go_wp2_with fail
          have HXM := hide hxm
          clear hxm
          go_loopg [74] 4 (fun z iv wr => ∃ i : Nat, iv = .int .i64 (i : Int) ∧ z + i = 4 ∧ Below W2.heap.size W2 wr)
          case atStart => exact ⟨0, rfl, rfl, Below.refl _ _⟩
          case round =>
            obtain ⟨i, rfl, hq, hb⟩ := hrel
            obtain ⟨W3, rfl⟩ : ∃ W, W = wr := ⟨_, rfl⟩
            have HQ3 := hide hq
            have HB3 := hide hb
            have HBW := hide (HB.out.trans (hb.mono HB.out.size))
            have hi : i ≤ 4 := by omega
            have K_o3 := hide (Blk.below K_o.out hb (Blk.lt K_o.out))
            have K_x3 := hide (Blk.below K_x.out hb (Blk.lt K_x.out))
            clear hq hb
            by_cases hlt3 : i < 4
            · have hii : (i : Int) < 4 := by omega
              have hi0 : (0 : Int) ≤ (i : Int) := by omega
              have x0 := (Blk.cell K_x3.out 0).trans (rfl : _ = some (Value.int .i64 (x.mode : Int)))
              by_cases hiM : i = M
              · have hP : W3.cell? ⟨w2.heap.size, i, none⟩ = some (.string ⟨#[49]⟩) := by
                  have hd : decide (M = i) = true := decide_eq_true hiM.symm
                  have h : W3.cell? ⟨w2.heap.size, i, none⟩ = some (.string (bt (decide (M = i)))) := by rcases (by omega : i = 0 ∨ i = 1 ∨ i = 2 ∨ i = 3) with rfl | rfl | rfl | rfl <;> exact (Blk.cell K_o3.out _).trans rfl
                  rw [hd] at h
                  exact h
                have hcm : ((i : Int) == (x.mode : Int)) = true := by rw [HXM.out, hiM]; exact beq_self_eq_true _
                have HIM := hide hiM
                clear hiM
                go_wp2_with fail
                go_roundg (gk - 1)
                case measure => have := HQ3.out; omega
                case rel => exact ⟨i + 1, by go_num, by have := HQ3.out; omega, HB3.out⟩
              · have hP : W3.cell? ⟨w2.heap.size, i, none⟩ = some (.string ⟨#[48]⟩) := by
                  have hd : decide (M = i) = false := decide_eq_false (fun e => hiM e.symm)
                  have h : W3.cell? ⟨w2.heap.size, i, none⟩ = some (.string (bt (decide (M = i)))) := by rcases (by omega : i = 0 ∨ i = 1 ∨ i = 2 ∨ i = 3) with rfl | rfl | rfl | rfl <;> exact (Blk.cell K_o3.out _).trans rfl
                  rw [hd] at h
                  exact h
                have hcm : ((i : Int) == (x.mode : Int)) = false := by rw [HXM.out, beq_eq_false_iff_ne]; omega
                have HIM := hide hiM
                clear hiM
                go_wp2_with fail
                go_roundg (gk - 1)
                case measure => have := HQ3.out; omega
                case rel => exact ⟨i + 1, by go_num, by have := HQ3.out; omega, HB3.out⟩
            · have hii : ¬ (i : Int) < 4 := by omega
              go_wp2_with fail
              refine (HAW.out _ (HS.out.below HBW.out (Nat.le_refl _))).mono ?_
              rintro e w9 ⟨rfl, hb⟩
              have HX := hide (HBW.out.trans (hb.mono HBW.out.size))
              clear hb
              go_wp2_with fail
              go_ret
              exact ⟨rfl, HX.out⟩
end Go.Proofs.YthmmgjieppknkaaGreatDoor
