/- Contracts and plain laws that the statements of this seat share (part Ehaj). -/
import Derived.Test.YthmmgjieppknkaaGreatDoorEhaa
import Derived.Test.YthmmgjieppknkaaGreatDoorEhab
import Derived.Test.YthmmgjieppknkaaGreatDoorEhac
import Derived.Test.YthmmgjieppknkaaGreatDoorEhad
import Derived.Test.YthmmgjieppknkaaGreatDoorEhae
import Derived.Test.YthmmgjieppknkaaGreatDoorEhaf
import Derived.Test.YthmmgjieppknkaaGreatDoorEhag
import Derived.Test.YthmmgjieppknkaaGreatDoorEhah
import Derived.Test.YthmmgjieppknkaaGreatDoorEhai
import Derived.Test.YthmmgjieppknkaaGreatDoorKaa
import Derived.Test.YthmmgjieppknkaaGreatDoorKab
import Derived.Test.YthmmgjieppknkaaGreatDoorKac
import Derived.Test.YthmmgjieppknkaaGreatDoorKad
import Derived.Test.YthmmgjieppknkaaGreatDoorKai
import Derived.Test.YthmmgjieppknkaaGreatDoorKak
import Derived.Test.YthmmgjieppknkaaGreatDoorKal
import Derived.Test.YthmmgjieppknkaaGreatDoorKam
import Derived.Test.YthmmgjieppknkaaGreatDoorKap
import Derived.Test.YthmmgjieppknkaaGreatDoorKaq
import Derived.Test.YthmmgjieppknkaaGreatDoorKar
import Derived.Test.YthmmgjieppknkaaGreatDoorKas
import Derived.Test.YthmmgjieppknkaaGreatDoorKat
import Derived.Test.YthmmgjieppknkaaGreatDoorKau
import Derived.Test.YthmmgjieppknkaaGreatDoorKax
import Derived.RangeFuncSeq
import Derived.Lib.ItoaNum
import Derived.Lib.ItoaLen
import Derived.Lib.Atoi
import Derived.Lib.AtoiAll
import Derived.Lib.Strings
import Derived.Lib.SlTrimSet
import Derived.Shelf.Abstract
import Derived.Deep.RegionHeld3
import Derived.Laws.ResultCell
import Derived.ChangeKeysEq
import Derived.DeepKeys
import Derived.Test.YthmmgjieppknkaaGreatDoorChecked
import Derived.WalkKit
import Derived.WalkSpells
import Derived.WalkLawsBesides
import Derived.Lib.Hide
import Derived.IntWalk
import Derived.BigQuiet
import Derived.Deep.QuietTactic
import Derived.Deep.LoopGhost
import Derived.Deep.DeepCutAuto
import Derived.Deep.DeepFit
import Derived.Deep.Light
import Derived.Outline
import Derived.Laws.Rows
import Derived.Laws.NewBlocks
import Derived.Laws.CopyOwn
import Derived.Laws.Tables
import Derived.Deep.RegionWith
import Derived.Deep.RegionLaw
import Derived.RegionTactic
import Derived.Lib.Builder
import Derived.Lib.AppendStr
import Derived.Laws.Externs
import Derived.WalkSmall
import Derived.Lib.AtoiErrMem
import Derived.Shelf.Strings.SlTrimAscii
import Derived.Shelf.Strings.Builder1
import Derived.Shelf.Strings.Trim
import Derived.Shelf.Small.Utf8
import Derived.Shelf.Small.Strs
import Derived.Shelf.Strings.BuilderF
import Derived.Shelf.Strings.BuilderK
import Derived.Shelf.Strconv.Atoi
import Derived.Shelf.Strconv.Itoa0
import Derived.Shelf.Strconv.Itoa1
import Derived.Shelf.LaysM
import Derived.Shelf.Strconv.Itoa2
import Derived.Shelf.Strconv.Itoa3
import Derived.Shelf.Strings.Search1
import Derived.Shelf.Strings.Search2
import Derived.Shelf.Strings.Cut
import Derived.Shelf.Strings.Shaped
import Derived.Shelf.Strings.Prefix
import Derived.Shelf.Strings.Runes
import Derived.Shelf.Strings.AsciiSet
import Derived.Shelf.Bits.Mul64
import Derived.Shelf.Unicode.DecodeSlow
import Derived.Test.YthmmgjieppknkaaGreatDoorProg
import Derived.Maps.OwnOps
import Derived.Deep.RegionHeld
import Derived.RangeFuncNested
import Derived.RangeFuncBox
import Derived.RangeFuncBound
import Derived.RangeFuncCalls
import Derived.RangeFuncLeaves
import Derived.Shelf.RegionOpen
import Derived.OwnWalkIn
import Derived.TacticsInMore
import Derived.LoopNIn
import Derived.LoopIn
import Derived.DeepKeys4
import Derived.Deep.AppendLies
import Derived.Maps.RangeWalk
import Derived.Laws.OwnMore
import Derived.Maps.AppendAt
namespace Go.Proofs.YthmmgjieppknkaaGreatDoor
open Go.RowKit Go.Shelf Go.Maps MLab
def firstE (z : Nat → Int) : Int := if z 0 ≠ 0 then z 0 else if z 1 ≠ 0 then z 1 else z 2
theorem firstE_at {z : Nat → Int} {j : Nat} (hj : j < 3) (h0 : ∀ i, i < j → z i = 0) (h : z j ≠ 0) : firstE z = z j := by
  unfold firstE
  rcases (by omega : j = 0 ∨ j = 1 ∨ j = 2) with rfl | rfl | rfl
  · rw [if_pos h]
  · rw [if_neg (by simp [h0 0 (by omega)]), if_pos h]
  · rw [if_neg (by simp [h0 0 (by omega)]), if_neg (by simp [h0 1 (by omega)])]
theorem firstE_zero {z : Nat → Int} (h : ∀ i, i < 3 → z i = 0) : firstE z = 0 := by
  unfold firstE
  rw [if_neg (by simp [h 0 (by omega)]), if_neg (by simp [h 1 (by omega)]), h 2 (by omega)]
theorem zero_firstE {z : Nat → Int} (h : firstE z = 0) : ∀ i, i < 3 → z i = 0 := by
  unfold firstE at h
  split at h
  · rename_i h1; exact absurd h h1
  · split at h
    · rename_i h1; exact absurd h h1
    · rename_i h0 h1
      intro i hi
      rcases (by omega : i = 0 ∨ i = 1 ∨ i = 2) with rfl | rfl | rfl
      · exact Classical.not_not.1 h0
      · exact Classical.not_not.1 h1
      · exact h
set_option maxRecDepth 100000 in
set_option maxHeartbeats 2000000 in
theorem given_chk (w : World) (a : Nat → ByteArray) (z : Nat → Int) (hck : ∀ j, j < 3 → ∀ W, Std W → Calls Tryz.prog 101 #[.string (a j)] W fun e w' => e = .returned (.int .i64 (z j)) ∧ Below W.heap.size W w') (hz : firstE z ≠ 0) (hs : Std w) :
    Calls Tryz.prog 63 #[.agg #[.string (a 0), .string (a 1), .string (a 2)]] w fun e w' => e = .returned (.int .i64 (firstE z)) ∧ Below w.heap.size w w' := by
  have HI := hide (fun (j : Nat) (hj : j < 3) W => idx_rat (a := a) hj W)
  have HCK := hide hck
  have HZ := hide hz
  have HS := hide hs
  have HF := hide (fun j hj h0 h => firstE_at (z := z) (j := j) hj h0 h)
  have HF0 := hide (fun h => firstE_zero (z := z) h)
  obtain ⟨r, hr⟩ : ∃ r, firstE z = r := ⟨_, rfl⟩
  rw [hr] at HZ HF HF0 ⊢
  clear hck hz hs hr
  have HB := allocs_below w [.cells #[.string (a 0), .string (a 1), .string (a 2)] 66]
  have K_p : Blk (allocs w [.cells #[.string (a 0), .string (a 1), .string (a 2)] 66]) (w.heap.size + 0) 66 #[.string (a 0), .string (a 1), .string (a 2)] := allocs_at w [.cells #[.string (a 0), .string (a 1), .string (a 2)] 66] 0 rfl
  unfold allocs at HB K_p
  simp only [List.foldl_cons, List.foldl_nil] at HB K_p
  rw [Nat.add_zero] at K_p
  go_enter Tryz.func63, Tryz.ntmps63
  go_upto_region 1 with (fail)
  generalize (w.alloc (.cells #[.string (a 0), .string (a 1), .string (a 2)] 66)) = w0 at *
  replace K_p := hide K_p
  replace HB := hide HB
  have p0 := (Blk.cell K_p.out 0).trans (rfl : _ = some (Value.string (a 0)))
  have p1 := (Blk.cell K_p.out 1).trans (rfl : _ = some (Value.string (a 1)))
  have p2 := (Blk.cell K_p.out 2).trans (rfl : _ = some (Value.string (a 2)))
  go_wp2_with fail
  go_loopg [13] 3 (fun y iv wr => ∃ j : Nat, iv = .int .i64 (j : Int) ∧ y + j = 3 ∧ Below w.heap.size w wr ∧ ∀ i, i < j → z i = 0)
  case atStart => exact ⟨0, rfl, rfl, HB.out, fun i hi => absurd hi (by omega)⟩
  case round =>
    obtain ⟨j, rfl, hq, hb, hr⟩ := hrel
    have HQ := hide hq
    have HB := hide hb
    have HR := hide hr
    have hj : j ≤ 3 := by omega
    clear hq hb hr
    by_cases hlt : j < 3
    · have hji : (j : Int) < 3 := by omega
      have hx := HI.out j hlt
      have HCJ := hide (HCK.out j hlt)
      have HFJ := hide (fun h => HF.out j hlt HR.out h)
      obtain ⟨q, hq⟩ : ∃ q, z j = q := ⟨_, rfl⟩
      rw [hq] at HCJ HFJ
      have HQZ := hide hq
      clear hq
      by_cases hq0 : q = 0
      · subst hq0
        go_wp2_with fail
        refine (HCJ.out _ (HS.out.below HB.out (Nat.le_refl _))).mono ?_
        rintro e w2 ⟨rfl, hb2⟩
        have HB2 := hide (HB.out.trans (hb2.mono HB.out.size))
        clear hb2
        go_wp2_with fail
        go_roundg (gk - 1)
        case measure => have := HQ.out; omega
        case rel => exact ⟨j + 1, by go_num, by have := HQ.out; omega, HB2.out, fun i hi => by
  rcases (by omega : i < j ∨ i = j) with h | h
  · exact HR.out i h
  · subst h; exact HQZ.out⟩
      · have hqr := HFJ.out hq0
        subst hqr
        have hq1 : (r == 0) = false := by simpa using hq0
        go_wp2_with fail
        refine (HCJ.out _ (HS.out.below HB.out (Nat.le_refl _))).mono ?_
        rintro e w2 ⟨rfl, hb2⟩
        have HB2 := hide (HB.out.trans (hb2.mono HB.out.size))
        clear hb2
        go_wp2_with fail
        go_ret
        exact ⟨rfl, HB2.out⟩
    · exact absurd (HF0.out fun i hi => HR.out i (by omega)) HZ.out
end Go.Proofs.YthmmgjieppknkaaGreatDoor

namespace Go.Proofs.YthmmgjieppknkaaGreatDoor
open Go.RowKit Go.Shelf Go.Maps MLab
set_option maxRecDepth 100000 in
set_option maxHeartbeats 2000000 in
theorem swaft_bad (w : World) (a0 a1 a2 : ByteArray) (n z : Int) (hz : z ≠ 0) (hgv : ∀ W, Std W → Calls Tryz.prog 63 #[.agg #[.string a0, .string a1, .string a2]] W fun e w' => e = .returned (.int .i64 z) ∧ Below W.heap.size W w') (hs : Std w) :
    Calls Tryz.prog 33 #[.agg #[.string a0, .string a1, .string a2], .int .i64 n] w fun e w' => e = .returned (.tuple #[.agg #[.string ⟨#[]⟩, .string ⟨#[]⟩, .string ⟨#[]⟩, .string ⟨#[]⟩], .int .i64 z]) ∧ Below w.heap.size w w' := by
  have HGV := hide hgv
  have HS := hide hs
  have hz1 : (z == 0) = false := by simpa using hz
  clear hgv hs hz
  have HB := allocs_below w [.cells #[.string a0, .string a1, .string a2] 66, .cells #[.string ⟨#[]⟩, .string ⟨#[]⟩, .string ⟨#[]⟩, .string ⟨#[]⟩] 68]
  have K_p : Blk (allocs w [.cells #[.string a0, .string a1, .string a2] 66, .cells #[.string ⟨#[]⟩, .string ⟨#[]⟩, .string ⟨#[]⟩, .string ⟨#[]⟩] 68]) (w.heap.size + 0) 66 #[.string a0, .string a1, .string a2] := allocs_at w [.cells #[.string a0, .string a1, .string a2] 66, .cells #[.string ⟨#[]⟩, .string ⟨#[]⟩, .string ⟨#[]⟩, .string ⟨#[]⟩] 68] 0 rfl
  have K_r : Blk (allocs w [.cells #[.string a0, .string a1, .string a2] 66, .cells #[.string ⟨#[]⟩, .string ⟨#[]⟩, .string ⟨#[]⟩, .string ⟨#[]⟩] 68]) (w.heap.size + 1) 68 #[.string ⟨#[]⟩, .string ⟨#[]⟩, .string ⟨#[]⟩, .string ⟨#[]⟩] := allocs_at w [.cells #[.string a0, .string a1, .string a2] 66, .cells #[.string ⟨#[]⟩, .string ⟨#[]⟩, .string ⟨#[]⟩, .string ⟨#[]⟩] 68] 1 rfl
  unfold allocs at HB K_p K_r
  simp only [List.foldl_cons, List.foldl_nil] at HB K_p K_r
  rw [Nat.add_zero] at K_p
  go_enter Tryz.func33, Tryz.ntmps33
  go_upto_region 1 with (fail)
  generalize ((w.alloc (.cells #[.string a0, .string a1, .string a2] 66)).alloc (.cells #[.string ⟨#[]⟩, .string ⟨#[]⟩, .string ⟨#[]⟩, .string ⟨#[]⟩] 68)) = w0 at *
  replace K_p := hide K_p
  replace K_r := hide K_r
  replace HB := hide HB
  have p0 := (Blk.cell K_p.out 0).trans (rfl : _ = some (Value.string a0))
  have p1 := (Blk.cell K_p.out 1).trans (rfl : _ = some (Value.string a1))
  have p2 := (Blk.cell K_p.out 2).trans (rfl : _ = some (Value.string a2))
  go_wp2_with fail
  refine (HGV.out _ (HS.out.below HB.out (Nat.le_refl _))).mono ?_
  rintro e w1 ⟨rfl, hb⟩
  clear p0 p1 p2
  replace K_p := hide (Blk.below K_p.out hb (Blk.lt K_p.out))
  replace K_r := hide (Blk.below K_r.out hb (Blk.lt K_r.out))
  replace HB := hide (HB.out.trans (hb.mono HB.out.size))
  clear hb
  clear HGV
  have r0 := (Blk.cell K_r.out 0).trans (rfl : _ = some (Value.string ⟨#[]⟩))
  have rf0 := Blk.frozen K_r.out 0
  have r1 := (Blk.cell K_r.out 1).trans (rfl : _ = some (Value.string ⟨#[]⟩))
  have rf1 := Blk.frozen K_r.out 1
  have r2 := (Blk.cell K_r.out 2).trans (rfl : _ = some (Value.string ⟨#[]⟩))
  have rf2 := Blk.frozen K_r.out 2
  have r3 := (Blk.cell K_r.out 3).trans (rfl : _ = some (Value.string ⟨#[]⟩))
  have rf3 := Blk.frozen K_r.out 3
  go_wp2_with fail
  have rc0 := (Blk.cell ((((K_r.out.set_ 0 (.string ⟨#[]⟩)).set_ 1 (.string ⟨#[]⟩)).set_ 2 (.string ⟨#[]⟩)).set_ 3 (.string ⟨#[]⟩)) 0).trans (rfl : _ = some (Value.string ⟨#[]⟩))
  have rc1 := (Blk.cell ((((K_r.out.set_ 0 (.string ⟨#[]⟩)).set_ 1 (.string ⟨#[]⟩)).set_ 2 (.string ⟨#[]⟩)).set_ 3 (.string ⟨#[]⟩)) 1).trans (rfl : _ = some (Value.string ⟨#[]⟩))
  have rc2 := (Blk.cell ((((K_r.out.set_ 0 (.string ⟨#[]⟩)).set_ 1 (.string ⟨#[]⟩)).set_ 2 (.string ⟨#[]⟩)).set_ 3 (.string ⟨#[]⟩)) 2).trans (rfl : _ = some (Value.string ⟨#[]⟩))
  have rc3 := (Blk.cell ((((K_r.out.set_ 0 (.string ⟨#[]⟩)).set_ 1 (.string ⟨#[]⟩)).set_ 2 (.string ⟨#[]⟩)).set_ 3 (.string ⟨#[]⟩)) 3).trans (rfl : _ = some (Value.string ⟨#[]⟩))
  exact bodyPost_ret (v := .tuple #[.agg #[.string ⟨#[]⟩, .string ⟨#[]⟩, .string ⟨#[]⟩, .string ⟨#[]⟩], .int .i64 z]) (by simp [results, Tryz.results33, go_sem, rc0, rc1, rc2, rc3]) rfl ⟨rfl, ((((HB.out.setCell (p := ⟨(w.heap.size + 1), 0, none⟩) (by show w.heap.size ≤ (w.heap.size + 1); omega) (.string ⟨#[]⟩)).setCell (p := ⟨(w.heap.size + 1), 1, none⟩) (by show w.heap.size ≤ (w.heap.size + 1); omega) (.string ⟨#[]⟩)).setCell (p := ⟨(w.heap.size + 1), 2, none⟩) (by show w.heap.size ≤ (w.heap.size + 1); omega) (.string ⟨#[]⟩)).setCell (p := ⟨(w.heap.size + 1), 3, none⟩) (by show w.heap.size ≤ (w.heap.size + 1); omega) (.string ⟨#[]⟩))⟩
set_option maxRecDepth 100000 in
set_option maxHeartbeats 2000000 in
theorem swaft_lots (w : World) (a0 a1 a2 : ByteArray) (n : Int) (hn : n < 0 ∨ 30 < n) (hgv : ∀ W, Std W → Calls Tryz.prog 63 #[.agg #[.string a0, .string a1, .string a2]] W fun e w' => e = .returned (.int .i64 0) ∧ Below W.heap.size W w') (hs : Std w) :
    Calls Tryz.prog 33 #[.agg #[.string a0, .string a1, .string a2], .int .i64 n] w fun e w' => e = .returned (.tuple #[.agg #[.string ⟨#[]⟩, .string ⟨#[]⟩, .string ⟨#[]⟩, .string ⟨#[]⟩], .int .i64 2]) ∧ Below w.heap.size w w' := by
  have HGV := hide hgv
  have HS := hide hs
  clear hgv hs
  have HB := allocs_below w [.cells #[.string a0, .string a1, .string a2] 66, .cells #[.string ⟨#[]⟩, .string ⟨#[]⟩, .string ⟨#[]⟩, .string ⟨#[]⟩] 68]
  have K_p : Blk (allocs w [.cells #[.string a0, .string a1, .string a2] 66, .cells #[.string ⟨#[]⟩, .string ⟨#[]⟩, .string ⟨#[]⟩, .string ⟨#[]⟩] 68]) (w.heap.size + 0) 66 #[.string a0, .string a1, .string a2] := allocs_at w [.cells #[.string a0, .string a1, .string a2] 66, .cells #[.string ⟨#[]⟩, .string ⟨#[]⟩, .string ⟨#[]⟩, .string ⟨#[]⟩] 68] 0 rfl
  have K_r : Blk (allocs w [.cells #[.string a0, .string a1, .string a2] 66, .cells #[.string ⟨#[]⟩, .string ⟨#[]⟩, .string ⟨#[]⟩, .string ⟨#[]⟩] 68]) (w.heap.size + 1) 68 #[.string ⟨#[]⟩, .string ⟨#[]⟩, .string ⟨#[]⟩, .string ⟨#[]⟩] := allocs_at w [.cells #[.string a0, .string a1, .string a2] 66, .cells #[.string ⟨#[]⟩, .string ⟨#[]⟩, .string ⟨#[]⟩, .string ⟨#[]⟩] 68] 1 rfl
  unfold allocs at HB K_p K_r
  simp only [List.foldl_cons, List.foldl_nil] at HB K_p K_r
  rw [Nat.add_zero] at K_p
  go_enter Tryz.func33, Tryz.ntmps33
  go_upto_region 1 with (fail)
  generalize ((w.alloc (.cells #[.string a0, .string a1, .string a2] 66)).alloc (.cells #[.string ⟨#[]⟩, .string ⟨#[]⟩, .string ⟨#[]⟩, .string ⟨#[]⟩] 68)) = w0 at *
  replace K_p := hide K_p
  replace K_r := hide K_r
  replace HB := hide HB
  have p0 := (Blk.cell K_p.out 0).trans (rfl : _ = some (Value.string a0))
  have p1 := (Blk.cell K_p.out 1).trans (rfl : _ = some (Value.string a1))
  have p2 := (Blk.cell K_p.out 2).trans (rfl : _ = some (Value.string a2))
  go_wp2_with fail
  refine (HGV.out _ (HS.out.below HB.out (Nat.le_refl _))).mono ?_
  rintro e w1 ⟨rfl, hb⟩
  clear p0 p1 p2
  replace K_p := hide (Blk.below K_p.out hb (Blk.lt K_p.out))
  replace K_r := hide (Blk.below K_r.out hb (Blk.lt K_r.out))
  replace HB := hide (HB.out.trans (hb.mono HB.out.size))
  clear hb
  clear HGV
  by_cases h1 : n < 0
  · have r0 := (Blk.cell K_r.out 0).trans (rfl : _ = some (Value.string ⟨#[]⟩))
    have rf0 := Blk.frozen K_r.out 0
    have r1 := (Blk.cell K_r.out 1).trans (rfl : _ = some (Value.string ⟨#[]⟩))
    have rf1 := Blk.frozen K_r.out 1
    have r2 := (Blk.cell K_r.out 2).trans (rfl : _ = some (Value.string ⟨#[]⟩))
    have rf2 := Blk.frozen K_r.out 2
    have r3 := (Blk.cell K_r.out 3).trans (rfl : _ = some (Value.string ⟨#[]⟩))
    have rf3 := Blk.frozen K_r.out 3
    go_wp2_with fail
    have rc0 := (Blk.cell ((((K_r.out.set_ 0 (.string ⟨#[]⟩)).set_ 1 (.string ⟨#[]⟩)).set_ 2 (.string ⟨#[]⟩)).set_ 3 (.string ⟨#[]⟩)) 0).trans (rfl : _ = some (Value.string ⟨#[]⟩))
    have rc1 := (Blk.cell ((((K_r.out.set_ 0 (.string ⟨#[]⟩)).set_ 1 (.string ⟨#[]⟩)).set_ 2 (.string ⟨#[]⟩)).set_ 3 (.string ⟨#[]⟩)) 1).trans (rfl : _ = some (Value.string ⟨#[]⟩))
    have rc2 := (Blk.cell ((((K_r.out.set_ 0 (.string ⟨#[]⟩)).set_ 1 (.string ⟨#[]⟩)).set_ 2 (.string ⟨#[]⟩)).set_ 3 (.string ⟨#[]⟩)) 2).trans (rfl : _ = some (Value.string ⟨#[]⟩))
    have rc3 := (Blk.cell ((((K_r.out.set_ 0 (.string ⟨#[]⟩)).set_ 1 (.string ⟨#[]⟩)).set_ 2 (.string ⟨#[]⟩)).set_ 3 (.string ⟨#[]⟩)) 3).trans (rfl : _ = some (Value.string ⟨#[]⟩))
    exact bodyPost_ret (v := .tuple #[.agg #[.string ⟨#[]⟩, .string ⟨#[]⟩, .string ⟨#[]⟩, .string ⟨#[]⟩], .int .i64 2]) (by simp [results, Tryz.results33, go_sem, rc0, rc1, rc2, rc3]) rfl ⟨rfl, ((((HB.out.setCell (p := ⟨(w.heap.size + 1), 0, none⟩) (by show w.heap.size ≤ (w.heap.size + 1); omega) (.string ⟨#[]⟩)).setCell (p := ⟨(w.heap.size + 1), 1, none⟩) (by show w.heap.size ≤ (w.heap.size + 1); omega) (.string ⟨#[]⟩)).setCell (p := ⟨(w.heap.size + 1), 2, none⟩) (by show w.heap.size ≤ (w.heap.size + 1); omega) (.string ⟨#[]⟩)).setCell (p := ⟨(w.heap.size + 1), 3, none⟩) (by show w.heap.size ≤ (w.heap.size + 1); omega) (.string ⟨#[]⟩))⟩
  · have h2 : 30 < n := by omega
    clear hn
    have r0 := (Blk.cell K_r.out 0).trans (rfl : _ = some (Value.string ⟨#[]⟩))
    have rf0 := Blk.frozen K_r.out 0
    have r1 := (Blk.cell K_r.out 1).trans (rfl : _ = some (Value.string ⟨#[]⟩))
    have rf1 := Blk.frozen K_r.out 1
    have r2 := (Blk.cell K_r.out 2).trans (rfl : _ = some (Value.string ⟨#[]⟩))
    have rf2 := Blk.frozen K_r.out 2
    have r3 := (Blk.cell K_r.out 3).trans (rfl : _ = some (Value.string ⟨#[]⟩))
    have rf3 := Blk.frozen K_r.out 3
    go_wp2_with fail
    have rc0 := (Blk.cell ((((K_r.out.set_ 0 (.string ⟨#[]⟩)).set_ 1 (.string ⟨#[]⟩)).set_ 2 (.string ⟨#[]⟩)).set_ 3 (.string ⟨#[]⟩)) 0).trans (rfl : _ = some (Value.string ⟨#[]⟩))
    have rc1 := (Blk.cell ((((K_r.out.set_ 0 (.string ⟨#[]⟩)).set_ 1 (.string ⟨#[]⟩)).set_ 2 (.string ⟨#[]⟩)).set_ 3 (.string ⟨#[]⟩)) 1).trans (rfl : _ = some (Value.string ⟨#[]⟩))
    have rc2 := (Blk.cell ((((K_r.out.set_ 0 (.string ⟨#[]⟩)).set_ 1 (.string ⟨#[]⟩)).set_ 2 (.string ⟨#[]⟩)).set_ 3 (.string ⟨#[]⟩)) 2).trans (rfl : _ = some (Value.string ⟨#[]⟩))
    have rc3 := (Blk.cell ((((K_r.out.set_ 0 (.string ⟨#[]⟩)).set_ 1 (.string ⟨#[]⟩)).set_ 2 (.string ⟨#[]⟩)).set_ 3 (.string ⟨#[]⟩)) 3).trans (rfl : _ = some (Value.string ⟨#[]⟩))
    exact bodyPost_ret (v := .tuple #[.agg #[.string ⟨#[]⟩, .string ⟨#[]⟩, .string ⟨#[]⟩, .string ⟨#[]⟩], .int .i64 2]) (by simp [results, Tryz.results33, go_sem, rc0, rc1, rc2, rc3]) rfl ⟨rfl, ((((HB.out.setCell (p := ⟨(w.heap.size + 1), 0, none⟩) (by show w.heap.size ≤ (w.heap.size + 1); omega) (.string ⟨#[]⟩)).setCell (p := ⟨(w.heap.size + 1), 1, none⟩) (by show w.heap.size ≤ (w.heap.size + 1); omega) (.string ⟨#[]⟩)).setCell (p := ⟨(w.heap.size + 1), 2, none⟩) (by show w.heap.size ≤ (w.heap.size + 1); omega) (.string ⟨#[]⟩)).setCell (p := ⟨(w.heap.size + 1), 3, none⟩) (by show w.heap.size ≤ (w.heap.size + 1); omega) (.string ⟨#[]⟩))⟩
end Go.Proofs.YthmmgjieppknkaaGreatDoor

namespace Go.Proofs.YthmmgjieppknkaaGreatDoor
open Go.RowKit Go.Maps MLab
set_option maxRecDepth 100000 in
set_option maxHeartbeats 4000000 in
theorem raft_chk (w : World) (a : Nat → ByteArray) (z : Nat → Int) (hck : ∀ j, j < 3 → ∀ W, Calls Tryz.prog 35 #[.string (a j)] W fun e w' => e = .returned (.int .i64 (z j)) ∧ Below W.heap.size W w') (hz : firstE z ≠ 0) (n : Int) :
    Calls Tryz.prog 34 #[.agg #[.string (a 0), .string (a 1), .string (a 2)], .int .i64 n] w fun e w' => e = .returned (.tuple #[.agg #[.string ⟨#[]⟩, .string ⟨#[]⟩, .string ⟨#[]⟩, .string ⟨#[]⟩], .int .i64 (firstE z)]) ∧ Below w.heap.size w w' := by
  have HCK := hide hck
  have HZ := hide hz
  have HF := hide (fun j hj h0 h => firstE_at (z := z) (j := j) hj h0 h)
  have HF0 := hide (fun h => firstE_zero (z := z) h)
  obtain ⟨r, hr⟩ : ∃ r, firstE z = r := ⟨_, rfl⟩
  rw [hr] at HZ HF HF0 ⊢
  clear hck hz hr
  have HPM := hide (fun (j : Nat) (hj : j < 3) (W : World) (K : Blk W w.heap.size 66 #[.string (a 0), .string (a 1), .string (a 2)]) => (show W.cell? ⟨w.heap.size, j, none⟩ = some (.string (a j)) from by rcases (by omega : j = 0 ∨ j = 1 ∨ j = 2) with rfl | rfl | rfl <;> exact (Blk.cell K _).trans rfl))
  have HB := allocs_below w [.cells #[.string (a 0), .string (a 1), .string (a 2)] 66, .cells #[.string ⟨#[]⟩, .string ⟨#[]⟩, .string ⟨#[]⟩, .string ⟨#[]⟩] 68]
  have K_p : Blk (allocs w [.cells #[.string (a 0), .string (a 1), .string (a 2)] 66, .cells #[.string ⟨#[]⟩, .string ⟨#[]⟩, .string ⟨#[]⟩, .string ⟨#[]⟩] 68]) (w.heap.size + 0) 66 #[.string (a 0), .string (a 1), .string (a 2)] := allocs_at w [.cells #[.string (a 0), .string (a 1), .string (a 2)] 66, .cells #[.string ⟨#[]⟩, .string ⟨#[]⟩, .string ⟨#[]⟩, .string ⟨#[]⟩] 68] 0 rfl
  have K_r : Blk (allocs w [.cells #[.string (a 0), .string (a 1), .string (a 2)] 66, .cells #[.string ⟨#[]⟩, .string ⟨#[]⟩, .string ⟨#[]⟩, .string ⟨#[]⟩] 68]) (w.heap.size + 1) 68 #[.string ⟨#[]⟩, .string ⟨#[]⟩, .string ⟨#[]⟩, .string ⟨#[]⟩] := allocs_at w [.cells #[.string (a 0), .string (a 1), .string (a 2)] 66, .cells #[.string ⟨#[]⟩, .string ⟨#[]⟩, .string ⟨#[]⟩, .string ⟨#[]⟩] 68] 1 rfl
  unfold allocs at HB K_p K_r
  simp only [List.foldl_cons, List.foldl_nil] at HB K_p K_r
  rw [Nat.add_zero] at K_p
  go_enter Tryz.func34, Tryz.ntmps34
  go_upto_region 1 with (fail)
  generalize ((w.alloc (.cells #[.string (a 0), .string (a 1), .string (a 2)] 66)).alloc (.cells #[.string ⟨#[]⟩, .string ⟨#[]⟩, .string ⟨#[]⟩, .string ⟨#[]⟩] 68)) = w0 at *
  replace K_p := hide K_p
  replace K_r := hide K_r
  replace HB := hide HB
  go_wp2_with fail
  go_loopg [6] 3 (fun y iv wr => ∃ j : Nat, iv = .int .i64 (j : Int) ∧ y + j = 3 ∧ Blk wr (w.heap.size) 66 #[.string (a 0), .string (a 1), .string (a 2)] ∧ Blk wr (w.heap.size + 1) 68 #[.string ⟨#[]⟩, .string ⟨#[]⟩, .string ⟨#[]⟩, .string ⟨#[]⟩] ∧ Below w.heap.size w wr ∧ ∀ i, i < j → z i = 0)
  case atStart => exact ⟨0, rfl, rfl, K_p.out, K_r.out, HB.out, fun i hi => absurd hi (by omega)⟩
  case round =>
    clear K_p K_r HB
    obtain ⟨j, rfl, hq, hkp, hkr, hb, hr⟩ := hrel
    obtain ⟨W1, rfl⟩ : ∃ W, W = wr := ⟨_, rfl⟩
    have HQ := hide hq
    have K_p := hide hkp
    have K_r := hide hkr
    have HB := hide hb
    have hj : j ≤ 3 := by omega
    have HR := hide hr
    clear hr
    clear hq hkp hkr hb
    by_cases hlt : j < 3
    · have hji : (j : Int) < 3 := by omega
      have hj0 : (0 : Int) ≤ (j : Int) := by omega
      have hpm := HPM.out j hlt _ K_p.out
      have HCJ := hide (HCK.out j hlt)
      have HFJ := hide (fun h => HF.out j hlt HR.out h)
      obtain ⟨q, hq⟩ : ∃ q, z j = q := ⟨_, rfl⟩
      rw [hq] at HCJ HFJ
      have HQZ := hide hq
      clear hq
      by_cases hq0 : q = 0
      · subst hq0
        go_wp2_with fail
        refine (HCJ.out _).mono ?_
        rintro e w2 ⟨rfl, hb⟩
        clear hpm
        replace K_p := hide (Blk.below K_p.out hb (Blk.lt K_p.out))
        replace K_r := hide (Blk.below K_r.out hb (Blk.lt K_r.out))
        replace HB := hide (HB.out.trans (hb.mono HB.out.size))
        clear hb
        go_wp2_with fail
        go_roundg (gk - 1)
        case measure => have := HQ.out; omega
        case rel => exact ⟨j + 1, by go_num, by have := HQ.out; omega, K_p.out, K_r.out, HB.out, fun i hi => by
  rcases (by omega : i < j ∨ i = j) with h | h
  · exact HR.out i h
  · subst h; exact HQZ.out⟩
      · have hqr := HFJ.out hq0
        subst hqr
        have hq1 : (r == 0) = false := by simpa using hq0
        go_wp2_with fail
        refine (HCJ.out _).mono ?_
        rintro e w2 ⟨rfl, hb⟩
        clear hpm
        replace K_p := hide (Blk.below K_p.out hb (Blk.lt K_p.out))
        replace K_r := hide (Blk.below K_r.out hb (Blk.lt K_r.out))
        replace HB := hide (HB.out.trans (hb.mono HB.out.size))
        clear hb
        have r0 := (Blk.cell K_r.out 0).trans (rfl : _ = some (Value.string ⟨#[]⟩))
        have rf0 := Blk.frozen K_r.out 0
        have r1 := (Blk.cell K_r.out 1).trans (rfl : _ = some (Value.string ⟨#[]⟩))
        have rf1 := Blk.frozen K_r.out 1
        have r2 := (Blk.cell K_r.out 2).trans (rfl : _ = some (Value.string ⟨#[]⟩))
        have rf2 := Blk.frozen K_r.out 2
        have r3 := (Blk.cell K_r.out 3).trans (rfl : _ = some (Value.string ⟨#[]⟩))
        have rf3 := Blk.frozen K_r.out 3
        go_wp2_with fail
        have rc0 := (Blk.cell ((((K_r.out.set_ 0 (.string ⟨#[]⟩)).set_ 1 (.string ⟨#[]⟩)).set_ 2 (.string ⟨#[]⟩)).set_ 3 (.string ⟨#[]⟩)) 0).trans (rfl : _ = some (Value.string ⟨#[]⟩))
        have rc1 := (Blk.cell ((((K_r.out.set_ 0 (.string ⟨#[]⟩)).set_ 1 (.string ⟨#[]⟩)).set_ 2 (.string ⟨#[]⟩)).set_ 3 (.string ⟨#[]⟩)) 1).trans (rfl : _ = some (Value.string ⟨#[]⟩))
        have rc2 := (Blk.cell ((((K_r.out.set_ 0 (.string ⟨#[]⟩)).set_ 1 (.string ⟨#[]⟩)).set_ 2 (.string ⟨#[]⟩)).set_ 3 (.string ⟨#[]⟩)) 2).trans (rfl : _ = some (Value.string ⟨#[]⟩))
        have rc3 := (Blk.cell ((((K_r.out.set_ 0 (.string ⟨#[]⟩)).set_ 1 (.string ⟨#[]⟩)).set_ 2 (.string ⟨#[]⟩)).set_ 3 (.string ⟨#[]⟩)) 3).trans (rfl : _ = some (Value.string ⟨#[]⟩))
        exact bodyPost_ret (v := .tuple #[.agg #[.string ⟨#[]⟩, .string ⟨#[]⟩, .string ⟨#[]⟩, .string ⟨#[]⟩], .int .i64 r]) (by simp [results, Tryz.results34, go_sem, rc0, rc1, rc2, rc3]) rfl ⟨rfl, ((((HB.out.setCell (p := ⟨(w.heap.size + 1), 0, none⟩) (by show w.heap.size ≤ (w.heap.size + 1); omega) (.string ⟨#[]⟩)).setCell (p := ⟨(w.heap.size + 1), 1, none⟩) (by show w.heap.size ≤ (w.heap.size + 1); omega) (.string ⟨#[]⟩)).setCell (p := ⟨(w.heap.size + 1), 2, none⟩) (by show w.heap.size ≤ (w.heap.size + 1); omega) (.string ⟨#[]⟩)).setCell (p := ⟨(w.heap.size + 1), 3, none⟩) (by show w.heap.size ≤ (w.heap.size + 1); omega) (.string ⟨#[]⟩))⟩
    · have hji : ¬ (j : Int) < 3 := by omega
      exact absurd (HF0.out fun i hi => HR.out i (by omega)) HZ.out
set_option maxRecDepth 100000 in
set_option maxHeartbeats 4000000 in
theorem raft_rng (w : World) (a : Nat → ByteArray) (s t : Nat → Int) (hck : ∀ j, j < 3 → ∀ W, Calls Tryz.prog 35 #[.string (a j)] W fun e w' => e = .returned (.int .i64 0) ∧ Below W.heap.size W w') (ho0 : ∀ j, j < 3 → ∀ W, Calls Tryz.prog 36 #[.string (a j), .string ⟨#[48]⟩] W fun e w' => e = .returned (.int .i64 (s j)) ∧ Below W.heap.size W w') (ho1 : ∀ j, j < 3 → ∀ W, Calls Tryz.prog 36 #[.string (a j), .string ⟨#[49]⟩] W fun e w' => e = .returned (.int .i64 (t j)) ∧ Below W.heap.size W w') (hz : badE s t = 2) (n : Int) :
    Calls Tryz.prog 34 #[.agg #[.string (a 0), .string (a 1), .string (a 2)], .int .i64 n] w fun e w' => e = .returned (.tuple #[.agg #[.string ⟨#[]⟩, .string ⟨#[]⟩, .string ⟨#[]⟩, .string ⟨#[]⟩], .int .i64 2]) ∧ Below w.heap.size w w' := by
  have HCK := hide hck
  have HO0 := hide ho0
  have HO1 := hide ho1
  have HZ := hide hz
  have HF := hide (fun j hj h => badE_at (s := s) (t := t) (j := j) hj h)
  have HF0 := hide (fun h => badE_zero (s := s) (t := t) h)
  clear hck ho0 ho1 hz
  have HPM := hide (fun (j : Nat) (hj : j < 3) (W : World) (K : Blk W w.heap.size 66 #[.string (a 0), .string (a 1), .string (a 2)]) => (show W.cell? ⟨w.heap.size, j, none⟩ = some (.string (a j)) from by rcases (by omega : j = 0 ∨ j = 1 ∨ j = 2) with rfl | rfl | rfl <;> exact (Blk.cell K _).trans rfl))
  have HB := allocs_below w [.cells #[.string (a 0), .string (a 1), .string (a 2)] 66, .cells #[.string ⟨#[]⟩, .string ⟨#[]⟩, .string ⟨#[]⟩, .string ⟨#[]⟩] 68]
  have K_p : Blk (allocs w [.cells #[.string (a 0), .string (a 1), .string (a 2)] 66, .cells #[.string ⟨#[]⟩, .string ⟨#[]⟩, .string ⟨#[]⟩, .string ⟨#[]⟩] 68]) (w.heap.size + 0) 66 #[.string (a 0), .string (a 1), .string (a 2)] := allocs_at w [.cells #[.string (a 0), .string (a 1), .string (a 2)] 66, .cells #[.string ⟨#[]⟩, .string ⟨#[]⟩, .string ⟨#[]⟩, .string ⟨#[]⟩] 68] 0 rfl
  have K_r : Blk (allocs w [.cells #[.string (a 0), .string (a 1), .string (a 2)] 66, .cells #[.string ⟨#[]⟩, .string ⟨#[]⟩, .string ⟨#[]⟩, .string ⟨#[]⟩] 68]) (w.heap.size + 1) 68 #[.string ⟨#[]⟩, .string ⟨#[]⟩, .string ⟨#[]⟩, .string ⟨#[]⟩] := allocs_at w [.cells #[.string (a 0), .string (a 1), .string (a 2)] 66, .cells #[.string ⟨#[]⟩, .string ⟨#[]⟩, .string ⟨#[]⟩, .string ⟨#[]⟩] 68] 1 rfl
  unfold allocs at HB K_p K_r
  simp only [List.foldl_cons, List.foldl_nil] at HB K_p K_r
  rw [Nat.add_zero] at K_p
  go_enter Tryz.func34, Tryz.ntmps34
  go_upto_region 1 with (fail)
  generalize ((w.alloc (.cells #[.string (a 0), .string (a 1), .string (a 2)] 66)).alloc (.cells #[.string ⟨#[]⟩, .string ⟨#[]⟩, .string ⟨#[]⟩, .string ⟨#[]⟩] 68)) = w0 at *
  replace K_p := hide K_p
  replace K_r := hide K_r
  replace HB := hide HB
  go_wp2_with fail
  go_loopg [6] 3 (fun y iv wr => ∃ j : Nat, iv = .int .i64 (j : Int) ∧ y + j = 3 ∧ Blk wr (w.heap.size) 66 #[.string (a 0), .string (a 1), .string (a 2)] ∧ Blk wr (w.heap.size + 1) 68 #[.string ⟨#[]⟩, .string ⟨#[]⟩, .string ⟨#[]⟩, .string ⟨#[]⟩] ∧ Below w.heap.size w wr)
  case atStart => exact ⟨0, rfl, rfl, K_p.out, K_r.out, HB.out⟩
  case round =>
    clear K_p K_r HB
    obtain ⟨j, rfl, hq, hkp, hkr, hb⟩ := hrel
    obtain ⟨W1, rfl⟩ : ∃ W, W = wr := ⟨_, rfl⟩
    have HQ := hide hq
    have K_p := hide hkp
    have K_r := hide hkr
    have HB := hide hb
    have hj : j ≤ 3 := by omega
    clear hq hkp hkr hb
    by_cases hlt : j < 3
    · have hji : (j : Int) < 3 := by omega
      have hj0 : (0 : Int) ≤ (j : Int) := by omega
      have hpm := HPM.out j hlt _ K_p.out
      have HCJ := hide (HCK.out j hlt)
      go_wp2_with fail
      refine (HCJ.out _).mono ?_
      rintro e w2 ⟨rfl, hb⟩
      clear hpm
      replace K_p := hide (Blk.below K_p.out hb (Blk.lt K_p.out))
      replace K_r := hide (Blk.below K_r.out hb (Blk.lt K_r.out))
      replace HB := hide (HB.out.trans (hb.mono HB.out.size))
      clear hb
      go_wp2_with fail
      go_roundg (gk - 1)
      case measure => have := HQ.out; omega
      case rel => exact ⟨j + 1, by go_num, by have := HQ.out; omega, K_p.out, K_r.out, HB.out⟩
    · have hji : ¬ (j : Int) < 3 := by omega
      go_wp2_with fail
      go_loopg [8] 3 (fun y iv wr => ∃ j : Nat, iv = .int .i64 (j : Int) ∧ y + j = 3 ∧ Blk wr (w.heap.size) 66 #[.string (a 0), .string (a 1), .string (a 2)] ∧ Blk wr (w.heap.size + 1) 68 #[.string ⟨#[]⟩, .string ⟨#[]⟩, .string ⟨#[]⟩, .string ⟨#[]⟩] ∧ Below w.heap.size w wr ∧ ∀ k, k < j → ¬ (s k < 0 ∨ 0 < t k))
      case atStart => exact ⟨0, rfl, rfl, K_p.out, K_r.out, HB.out, fun k hk => absurd hk (by omega)⟩
      case round =>
        clear K_p K_r HB
        obtain ⟨i, rfl, hq, hkp, hkr, hb, hr⟩ := hrel
        obtain ⟨W2, rfl⟩ : ∃ W, W = wr := ⟨_, rfl⟩
        have HQ2 := hide hq
        have K_p := hide hkp
        have K_r := hide hkr
        have HB := hide hb
        have hi : i ≤ 3 := by omega
        have HR2 := hide hr
        clear hr
        clear hq hkp hkr hb
        by_cases hlt2 : i < 3
        · have hii : (i : Int) < 3 := by omega
          have hi0 : (0 : Int) ≤ (i : Int) := by omega
          have hpm := HPM.out i hlt2 _ K_p.out
          have HSJ := hide (HO0.out i hlt2)
          have HTJ := hide (HO1.out i hlt2)
          have HFJ := hide (fun h => HF.out i hlt2 h)
          obtain ⟨p, hp⟩ : ∃ p, s i = p := ⟨_, rfl⟩
          obtain ⟨q, hq⟩ : ∃ q, t i = q := ⟨_, rfl⟩
          rw [hp] at HSJ HFJ
          rw [hq] at HTJ HFJ
          have HPZ := hide hp
          have HQZ := hide hq
          clear hp hq
          by_cases g1 : p < 0
          · go_wp2_with fail
            refine (HSJ.out _).mono ?_
            rintro e w2 ⟨rfl, hb⟩
            clear hpm
            replace K_p := hide (Blk.below K_p.out hb (Blk.lt K_p.out))
            replace K_r := hide (Blk.below K_r.out hb (Blk.lt K_r.out))
            replace HB := hide (HB.out.trans (hb.mono HB.out.size))
            clear hb
            have r0 := (Blk.cell K_r.out 0).trans (rfl : _ = some (Value.string ⟨#[]⟩))
            have rf0 := Blk.frozen K_r.out 0
            have r1 := (Blk.cell K_r.out 1).trans (rfl : _ = some (Value.string ⟨#[]⟩))
            have rf1 := Blk.frozen K_r.out 1
            have r2 := (Blk.cell K_r.out 2).trans (rfl : _ = some (Value.string ⟨#[]⟩))
            have rf2 := Blk.frozen K_r.out 2
            have r3 := (Blk.cell K_r.out 3).trans (rfl : _ = some (Value.string ⟨#[]⟩))
            have rf3 := Blk.frozen K_r.out 3
            go_wp2_with fail
            have rc0 := (Blk.cell ((((K_r.out.set_ 0 (.string ⟨#[]⟩)).set_ 1 (.string ⟨#[]⟩)).set_ 2 (.string ⟨#[]⟩)).set_ 3 (.string ⟨#[]⟩)) 0).trans (rfl : _ = some (Value.string ⟨#[]⟩))
            have rc1 := (Blk.cell ((((K_r.out.set_ 0 (.string ⟨#[]⟩)).set_ 1 (.string ⟨#[]⟩)).set_ 2 (.string ⟨#[]⟩)).set_ 3 (.string ⟨#[]⟩)) 1).trans (rfl : _ = some (Value.string ⟨#[]⟩))
            have rc2 := (Blk.cell ((((K_r.out.set_ 0 (.string ⟨#[]⟩)).set_ 1 (.string ⟨#[]⟩)).set_ 2 (.string ⟨#[]⟩)).set_ 3 (.string ⟨#[]⟩)) 2).trans (rfl : _ = some (Value.string ⟨#[]⟩))
            have rc3 := (Blk.cell ((((K_r.out.set_ 0 (.string ⟨#[]⟩)).set_ 1 (.string ⟨#[]⟩)).set_ 2 (.string ⟨#[]⟩)).set_ 3 (.string ⟨#[]⟩)) 3).trans (rfl : _ = some (Value.string ⟨#[]⟩))
            exact bodyPost_ret (v := .tuple #[.agg #[.string ⟨#[]⟩, .string ⟨#[]⟩, .string ⟨#[]⟩, .string ⟨#[]⟩], .int .i64 2]) (by simp [results, Tryz.results34, go_sem, rc0, rc1, rc2, rc3]) rfl ⟨rfl, ((((HB.out.setCell (p := ⟨(w.heap.size + 1), 0, none⟩) (by show w.heap.size ≤ (w.heap.size + 1); omega) (.string ⟨#[]⟩)).setCell (p := ⟨(w.heap.size + 1), 1, none⟩) (by show w.heap.size ≤ (w.heap.size + 1); omega) (.string ⟨#[]⟩)).setCell (p := ⟨(w.heap.size + 1), 2, none⟩) (by show w.heap.size ≤ (w.heap.size + 1); omega) (.string ⟨#[]⟩)).setCell (p := ⟨(w.heap.size + 1), 3, none⟩) (by show w.heap.size ≤ (w.heap.size + 1); omega) (.string ⟨#[]⟩))⟩
          · by_cases g2 : 0 < q
            · go_wp2_with fail
              refine (HSJ.out _).mono ?_
              rintro e w2 ⟨rfl, hb⟩
              clear hpm
              replace K_p := hide (Blk.below K_p.out hb (Blk.lt K_p.out))
              replace K_r := hide (Blk.below K_r.out hb (Blk.lt K_r.out))
              replace HB := hide (HB.out.trans (hb.mono HB.out.size))
              clear hb
              have hpm := HPM.out i hlt2 _ K_p.out
              go_wp2_with fail
              refine (HTJ.out _).mono ?_
              rintro e w3 ⟨rfl, hb⟩
              clear hpm
              replace K_p := hide (Blk.below K_p.out hb (Blk.lt K_p.out))
              replace K_r := hide (Blk.below K_r.out hb (Blk.lt K_r.out))
              replace HB := hide (HB.out.trans (hb.mono HB.out.size))
              clear hb
              have r0 := (Blk.cell K_r.out 0).trans (rfl : _ = some (Value.string ⟨#[]⟩))
              have rf0 := Blk.frozen K_r.out 0
              have r1 := (Blk.cell K_r.out 1).trans (rfl : _ = some (Value.string ⟨#[]⟩))
              have rf1 := Blk.frozen K_r.out 1
              have r2 := (Blk.cell K_r.out 2).trans (rfl : _ = some (Value.string ⟨#[]⟩))
              have rf2 := Blk.frozen K_r.out 2
              have r3 := (Blk.cell K_r.out 3).trans (rfl : _ = some (Value.string ⟨#[]⟩))
              have rf3 := Blk.frozen K_r.out 3
              go_wp2_with fail
              have rc0 := (Blk.cell ((((K_r.out.set_ 0 (.string ⟨#[]⟩)).set_ 1 (.string ⟨#[]⟩)).set_ 2 (.string ⟨#[]⟩)).set_ 3 (.string ⟨#[]⟩)) 0).trans (rfl : _ = some (Value.string ⟨#[]⟩))
              have rc1 := (Blk.cell ((((K_r.out.set_ 0 (.string ⟨#[]⟩)).set_ 1 (.string ⟨#[]⟩)).set_ 2 (.string ⟨#[]⟩)).set_ 3 (.string ⟨#[]⟩)) 1).trans (rfl : _ = some (Value.string ⟨#[]⟩))
              have rc2 := (Blk.cell ((((K_r.out.set_ 0 (.string ⟨#[]⟩)).set_ 1 (.string ⟨#[]⟩)).set_ 2 (.string ⟨#[]⟩)).set_ 3 (.string ⟨#[]⟩)) 2).trans (rfl : _ = some (Value.string ⟨#[]⟩))
              have rc3 := (Blk.cell ((((K_r.out.set_ 0 (.string ⟨#[]⟩)).set_ 1 (.string ⟨#[]⟩)).set_ 2 (.string ⟨#[]⟩)).set_ 3 (.string ⟨#[]⟩)) 3).trans (rfl : _ = some (Value.string ⟨#[]⟩))
              exact bodyPost_ret (v := .tuple #[.agg #[.string ⟨#[]⟩, .string ⟨#[]⟩, .string ⟨#[]⟩, .string ⟨#[]⟩], .int .i64 2]) (by simp [results, Tryz.results34, go_sem, rc0, rc1, rc2, rc3]) rfl ⟨rfl, ((((HB.out.setCell (p := ⟨(w.heap.size + 1), 0, none⟩) (by show w.heap.size ≤ (w.heap.size + 1); omega) (.string ⟨#[]⟩)).setCell (p := ⟨(w.heap.size + 1), 1, none⟩) (by show w.heap.size ≤ (w.heap.size + 1); omega) (.string ⟨#[]⟩)).setCell (p := ⟨(w.heap.size + 1), 2, none⟩) (by show w.heap.size ≤ (w.heap.size + 1); omega) (.string ⟨#[]⟩)).setCell (p := ⟨(w.heap.size + 1), 3, none⟩) (by show w.heap.size ≤ (w.heap.size + 1); omega) (.string ⟨#[]⟩))⟩
            · go_wp2_with fail
              refine (HSJ.out _).mono ?_
              rintro e w2 ⟨rfl, hb⟩
              clear hpm
              replace K_p := hide (Blk.below K_p.out hb (Blk.lt K_p.out))
              replace K_r := hide (Blk.below K_r.out hb (Blk.lt K_r.out))
              replace HB := hide (HB.out.trans (hb.mono HB.out.size))
              clear hb
              have hpm := HPM.out i hlt2 _ K_p.out
              go_wp2_with fail
              refine (HTJ.out _).mono ?_
              rintro e w3 ⟨rfl, hb⟩
              clear hpm
              replace K_p := hide (Blk.below K_p.out hb (Blk.lt K_p.out))
              replace K_r := hide (Blk.below K_r.out hb (Blk.lt K_r.out))
              replace HB := hide (HB.out.trans (hb.mono HB.out.size))
              clear hb
              go_wp2_with fail
              go_roundg (gk - 1)
              case measure => have := HQ2.out; omega
              case rel => exact ⟨i + 1, by go_num, by have := HQ2.out; omega, K_p.out, K_r.out, HB.out, fun k hk => by
  rcases (by omega : k < i ∨ k = i) with h | h
  · exact HR2.out k h
  · subst h; rw [HPZ.out, HQZ.out]; omega⟩
        · have hii : ¬ (i : Int) < 3 := by omega
          exact absurd (HF0.out fun k hk => HR2.out k (by omega)) (by rw [HZ.out]; omega)
set_option maxRecDepth 100000 in
set_option maxHeartbeats 4000000 in
theorem raft_lots (w : World) (a : Nat → ByteArray) (s t : Nat → Int) (hck : ∀ j, j < 3 → ∀ W, Calls Tryz.prog 35 #[.string (a j)] W fun e w' => e = .returned (.int .i64 0) ∧ Below W.heap.size W w') (ho0 : ∀ j, j < 3 → ∀ W, Calls Tryz.prog 36 #[.string (a j), .string ⟨#[48]⟩] W fun e w' => e = .returned (.int .i64 (s j)) ∧ Below W.heap.size W w') (ho1 : ∀ j, j < 3 → ∀ W, Calls Tryz.prog 36 #[.string (a j), .string ⟨#[49]⟩] W fun e w' => e = .returned (.int .i64 (t j)) ∧ Below W.heap.size W w') (hsn : ∀ j, j < 3 → ¬ s j < 0) (htn : ∀ j, j < 3 → ¬ 0 < t j) (n : Int) (hn : n < 0 ∨ 30 < n) :
    Calls Tryz.prog 34 #[.agg #[.string (a 0), .string (a 1), .string (a 2)], .int .i64 n] w fun e w' => e = .returned (.tuple #[.agg #[.string ⟨#[]⟩, .string ⟨#[]⟩, .string ⟨#[]⟩, .string ⟨#[]⟩], .int .i64 2]) ∧ Below w.heap.size w w' := by
  have HCK := hide hck
  have HO0 := hide ho0
  have HO1 := hide ho1
  have HSN := hide hsn
  have HTN := hide htn
  have HN := hide hn
  clear hck ho0 ho1 hsn htn hn
  have HPM := hide (fun (j : Nat) (hj : j < 3) (W : World) (K : Blk W w.heap.size 66 #[.string (a 0), .string (a 1), .string (a 2)]) => (show W.cell? ⟨w.heap.size, j, none⟩ = some (.string (a j)) from by rcases (by omega : j = 0 ∨ j = 1 ∨ j = 2) with rfl | rfl | rfl <;> exact (Blk.cell K _).trans rfl))
  have HB := allocs_below w [.cells #[.string (a 0), .string (a 1), .string (a 2)] 66, .cells #[.string ⟨#[]⟩, .string ⟨#[]⟩, .string ⟨#[]⟩, .string ⟨#[]⟩] 68]
  have K_p : Blk (allocs w [.cells #[.string (a 0), .string (a 1), .string (a 2)] 66, .cells #[.string ⟨#[]⟩, .string ⟨#[]⟩, .string ⟨#[]⟩, .string ⟨#[]⟩] 68]) (w.heap.size + 0) 66 #[.string (a 0), .string (a 1), .string (a 2)] := allocs_at w [.cells #[.string (a 0), .string (a 1), .string (a 2)] 66, .cells #[.string ⟨#[]⟩, .string ⟨#[]⟩, .string ⟨#[]⟩, .string ⟨#[]⟩] 68] 0 rfl
  have K_r : Blk (allocs w [.cells #[.string (a 0), .string (a 1), .string (a 2)] 66, .cells #[.string ⟨#[]⟩, .string ⟨#[]⟩, .string ⟨#[]⟩, .string ⟨#[]⟩] 68]) (w.heap.size + 1) 68 #[.string ⟨#[]⟩, .string ⟨#[]⟩, .string ⟨#[]⟩, .string ⟨#[]⟩] := allocs_at w [.cells #[.string (a 0), .string (a 1), .string (a 2)] 66, .cells #[.string ⟨#[]⟩, .string ⟨#[]⟩, .string ⟨#[]⟩, .string ⟨#[]⟩] 68] 1 rfl
  unfold allocs at HB K_p K_r
  simp only [List.foldl_cons, List.foldl_nil] at HB K_p K_r
  rw [Nat.add_zero] at K_p
  go_enter Tryz.func34, Tryz.ntmps34
  go_upto_region 1 with (fail)
  generalize ((w.alloc (.cells #[.string (a 0), .string (a 1), .string (a 2)] 66)).alloc (.cells #[.string ⟨#[]⟩, .string ⟨#[]⟩, .string ⟨#[]⟩, .string ⟨#[]⟩] 68)) = w0 at *
  replace K_p := hide K_p
  replace K_r := hide K_r
  replace HB := hide HB
  go_wp2_with fail
  go_loopg [6] 3 (fun y iv wr => ∃ j : Nat, iv = .int .i64 (j : Int) ∧ y + j = 3 ∧ Blk wr (w.heap.size) 66 #[.string (a 0), .string (a 1), .string (a 2)] ∧ Blk wr (w.heap.size + 1) 68 #[.string ⟨#[]⟩, .string ⟨#[]⟩, .string ⟨#[]⟩, .string ⟨#[]⟩] ∧ Below w.heap.size w wr)
  case atStart => exact ⟨0, rfl, rfl, K_p.out, K_r.out, HB.out⟩
  case round =>
    clear K_p K_r HB
    obtain ⟨j, rfl, hq, hkp, hkr, hb⟩ := hrel
    obtain ⟨W1, rfl⟩ : ∃ W, W = wr := ⟨_, rfl⟩
    have HQ := hide hq
    have K_p := hide hkp
    have K_r := hide hkr
    have HB := hide hb
    have hj : j ≤ 3 := by omega
    clear hq hkp hkr hb
    by_cases hlt : j < 3
    · have hji : (j : Int) < 3 := by omega
      have hj0 : (0 : Int) ≤ (j : Int) := by omega
      have hpm := HPM.out j hlt _ K_p.out
      have HCJ := hide (HCK.out j hlt)
      go_wp2_with fail
      refine (HCJ.out _).mono ?_
      rintro e w2 ⟨rfl, hb⟩
      clear hpm
      replace K_p := hide (Blk.below K_p.out hb (Blk.lt K_p.out))
      replace K_r := hide (Blk.below K_r.out hb (Blk.lt K_r.out))
      replace HB := hide (HB.out.trans (hb.mono HB.out.size))
      clear hb
      go_wp2_with fail
      go_roundg (gk - 1)
      case measure => have := HQ.out; omega
      case rel => exact ⟨j + 1, by go_num, by have := HQ.out; omega, K_p.out, K_r.out, HB.out⟩
    · have hji : ¬ (j : Int) < 3 := by omega
      go_wp2_with fail
      go_loopg [8] 3 (fun y iv wr => ∃ j : Nat, iv = .int .i64 (j : Int) ∧ y + j = 3 ∧ Blk wr (w.heap.size) 66 #[.string (a 0), .string (a 1), .string (a 2)] ∧ Blk wr (w.heap.size + 1) 68 #[.string ⟨#[]⟩, .string ⟨#[]⟩, .string ⟨#[]⟩, .string ⟨#[]⟩] ∧ Below w.heap.size w wr)
      case atStart => exact ⟨0, rfl, rfl, K_p.out, K_r.out, HB.out⟩
      case round =>
        clear K_p K_r HB
        obtain ⟨i, rfl, hq, hkp, hkr, hb⟩ := hrel
        obtain ⟨W2, rfl⟩ : ∃ W, W = wr := ⟨_, rfl⟩
        have HQ2 := hide hq
        have K_p := hide hkp
        have K_r := hide hkr
        have HB := hide hb
        have hi : i ≤ 3 := by omega
        clear hq hkp hkr hb
        by_cases hlt2 : i < 3
        · have hii : (i : Int) < 3 := by omega
          have hi0 : (0 : Int) ≤ (i : Int) := by omega
          have hpm := HPM.out i hlt2 _ K_p.out
          have HSJ := hide (HO0.out i hlt2)
          have HTJ := hide (HO1.out i hlt2)
          have hs0 := HSN.out i hlt2
          have ht0 := HTN.out i hlt2
          obtain ⟨s0, hs0e⟩ : ∃ z, s i = z := ⟨_, rfl⟩
          obtain ⟨t0, ht0e⟩ : ∃ z, t i = z := ⟨_, rfl⟩
          rw [hs0e] at hs0 HSJ
          rw [ht0e] at ht0 HTJ
          clear hs0e ht0e
          go_wp2_with fail
          refine (HSJ.out _).mono ?_
          rintro e w2 ⟨rfl, hb⟩
          clear hpm
          replace K_p := hide (Blk.below K_p.out hb (Blk.lt K_p.out))
          replace K_r := hide (Blk.below K_r.out hb (Blk.lt K_r.out))
          replace HB := hide (HB.out.trans (hb.mono HB.out.size))
          clear hb
          have hpm := HPM.out i hlt2 _ K_p.out
          go_wp2_with fail
          refine (HTJ.out _).mono ?_
          rintro e w3 ⟨rfl, hb⟩
          clear hpm
          replace K_p := hide (Blk.below K_p.out hb (Blk.lt K_p.out))
          replace K_r := hide (Blk.below K_r.out hb (Blk.lt K_r.out))
          replace HB := hide (HB.out.trans (hb.mono HB.out.size))
          clear hb
          go_wp2_with fail
          go_roundg (gk - 1)
          case measure => have := HQ2.out; omega
          case rel => exact ⟨i + 1, by go_num, by have := HQ2.out; omega, K_p.out, K_r.out, HB.out⟩
        · have hii : ¬ (i : Int) < 3 := by omega
          by_cases h1 : n < 0
          · have r0 := (Blk.cell K_r.out 0).trans (rfl : _ = some (Value.string ⟨#[]⟩))
            have rf0 := Blk.frozen K_r.out 0
            have r1 := (Blk.cell K_r.out 1).trans (rfl : _ = some (Value.string ⟨#[]⟩))
            have rf1 := Blk.frozen K_r.out 1
            have r2 := (Blk.cell K_r.out 2).trans (rfl : _ = some (Value.string ⟨#[]⟩))
            have rf2 := Blk.frozen K_r.out 2
            have r3 := (Blk.cell K_r.out 3).trans (rfl : _ = some (Value.string ⟨#[]⟩))
            have rf3 := Blk.frozen K_r.out 3
            go_wp2_with fail
            have rc0 := (Blk.cell ((((K_r.out.set_ 0 (.string ⟨#[]⟩)).set_ 1 (.string ⟨#[]⟩)).set_ 2 (.string ⟨#[]⟩)).set_ 3 (.string ⟨#[]⟩)) 0).trans (rfl : _ = some (Value.string ⟨#[]⟩))
            have rc1 := (Blk.cell ((((K_r.out.set_ 0 (.string ⟨#[]⟩)).set_ 1 (.string ⟨#[]⟩)).set_ 2 (.string ⟨#[]⟩)).set_ 3 (.string ⟨#[]⟩)) 1).trans (rfl : _ = some (Value.string ⟨#[]⟩))
            have rc2 := (Blk.cell ((((K_r.out.set_ 0 (.string ⟨#[]⟩)).set_ 1 (.string ⟨#[]⟩)).set_ 2 (.string ⟨#[]⟩)).set_ 3 (.string ⟨#[]⟩)) 2).trans (rfl : _ = some (Value.string ⟨#[]⟩))
            have rc3 := (Blk.cell ((((K_r.out.set_ 0 (.string ⟨#[]⟩)).set_ 1 (.string ⟨#[]⟩)).set_ 2 (.string ⟨#[]⟩)).set_ 3 (.string ⟨#[]⟩)) 3).trans (rfl : _ = some (Value.string ⟨#[]⟩))
            exact bodyPost_ret (v := .tuple #[.agg #[.string ⟨#[]⟩, .string ⟨#[]⟩, .string ⟨#[]⟩, .string ⟨#[]⟩], .int .i64 2]) (by simp [results, Tryz.results34, go_sem, rc0, rc1, rc2, rc3]) rfl ⟨rfl, ((((HB.out.setCell (p := ⟨(w.heap.size + 1), 0, none⟩) (by show w.heap.size ≤ (w.heap.size + 1); omega) (.string ⟨#[]⟩)).setCell (p := ⟨(w.heap.size + 1), 1, none⟩) (by show w.heap.size ≤ (w.heap.size + 1); omega) (.string ⟨#[]⟩)).setCell (p := ⟨(w.heap.size + 1), 2, none⟩) (by show w.heap.size ≤ (w.heap.size + 1); omega) (.string ⟨#[]⟩)).setCell (p := ⟨(w.heap.size + 1), 3, none⟩) (by show w.heap.size ≤ (w.heap.size + 1); omega) (.string ⟨#[]⟩))⟩
          · have h2 : 30 < n := by have := HN.out; omega
            have r0 := (Blk.cell K_r.out 0).trans (rfl : _ = some (Value.string ⟨#[]⟩))
            have rf0 := Blk.frozen K_r.out 0
            have r1 := (Blk.cell K_r.out 1).trans (rfl : _ = some (Value.string ⟨#[]⟩))
            have rf1 := Blk.frozen K_r.out 1
            have r2 := (Blk.cell K_r.out 2).trans (rfl : _ = some (Value.string ⟨#[]⟩))
            have rf2 := Blk.frozen K_r.out 2
            have r3 := (Blk.cell K_r.out 3).trans (rfl : _ = some (Value.string ⟨#[]⟩))
            have rf3 := Blk.frozen K_r.out 3
            go_wp2_with fail
            have rc0 := (Blk.cell ((((K_r.out.set_ 0 (.string ⟨#[]⟩)).set_ 1 (.string ⟨#[]⟩)).set_ 2 (.string ⟨#[]⟩)).set_ 3 (.string ⟨#[]⟩)) 0).trans (rfl : _ = some (Value.string ⟨#[]⟩))
            have rc1 := (Blk.cell ((((K_r.out.set_ 0 (.string ⟨#[]⟩)).set_ 1 (.string ⟨#[]⟩)).set_ 2 (.string ⟨#[]⟩)).set_ 3 (.string ⟨#[]⟩)) 1).trans (rfl : _ = some (Value.string ⟨#[]⟩))
            have rc2 := (Blk.cell ((((K_r.out.set_ 0 (.string ⟨#[]⟩)).set_ 1 (.string ⟨#[]⟩)).set_ 2 (.string ⟨#[]⟩)).set_ 3 (.string ⟨#[]⟩)) 2).trans (rfl : _ = some (Value.string ⟨#[]⟩))
            have rc3 := (Blk.cell ((((K_r.out.set_ 0 (.string ⟨#[]⟩)).set_ 1 (.string ⟨#[]⟩)).set_ 2 (.string ⟨#[]⟩)).set_ 3 (.string ⟨#[]⟩)) 3).trans (rfl : _ = some (Value.string ⟨#[]⟩))
            exact bodyPost_ret (v := .tuple #[.agg #[.string ⟨#[]⟩, .string ⟨#[]⟩, .string ⟨#[]⟩, .string ⟨#[]⟩], .int .i64 2]) (by simp [results, Tryz.results34, go_sem, rc0, rc1, rc2, rc3]) rfl ⟨rfl, ((((HB.out.setCell (p := ⟨(w.heap.size + 1), 0, none⟩) (by show w.heap.size ≤ (w.heap.size + 1); omega) (.string ⟨#[]⟩)).setCell (p := ⟨(w.heap.size + 1), 1, none⟩) (by show w.heap.size ≤ (w.heap.size + 1); omega) (.string ⟨#[]⟩)).setCell (p := ⟨(w.heap.size + 1), 2, none⟩) (by show w.heap.size ≤ (w.heap.size + 1); omega) (.string ⟨#[]⟩)).setCell (p := ⟨(w.heap.size + 1), 3, none⟩) (by show w.heap.size ≤ (w.heap.size + 1); omega) (.string ⟨#[]⟩))⟩
end Go.Proofs.YthmmgjieppknkaaGreatDoor

namespace Go.Proofs.YthmmgjieppknkaaGreatDoor
open Go.RowKit Go.Maps MLab
theorem grow_next {w0 w w1 : World} {row : Option Nat} {R : Prop} (h : w0.grownBy w row ∧ R) (k : Below w.heap.size w w1) : w0.grownBy w1 row := only_trans h.1 (only_of_below k row)
theorem grow_next2 {w0 w w1 : World} {row : Option Nat} {R : Prop} (h : w0.grownBy w row ∧ R) (k : w.grownBy w1 row) : w0.grownBy w1 row := only_trans h.1 k
theorem NR.fresh {w : World} {base B : Nat} {v sl : Value} {L : List (Sw × Rat)} (h : ChR w base v L) (hB : w.heap.size ≤ B) (hf : FrV B sl) : NR v sl := by
  obtain ⟨xs, ho, _⟩ := h
  intro g o n c e e2
  have h1 := hf g o n c e
  have h2 := (ho.lt g e2.symm).2
  omega
theorem NR.old {W w : World} {v sl : Value} {L : List (Sw × Rat)} {l : List Bool} (h : SlL W sl (bcl l)) (hc : ChR w W.heap.size v L) : NR v sl := by
  obtain ⟨xs, ho, _⟩ := hc
  intro g o n c e e2
  subst e
  have h1 := h.lt_of
  have := (ho.lt g e2.symm).1
  omega
theorem right_len {x : Sw} (h : RightS x) : x.last.length ≤ 4 := (rightI_zero h).2.2.2.2.2.2.1
set_option maxRecDepth 100000 in
set_option maxHeartbeats 8000000 in
theorem raft_any (w : World) (a : Nat → ByteArray) (s t : Nat → Int) (hck : ∀ j, j < 3 → ∀ W, Calls Tryz.prog 35 #[.string (a j)] W fun e w' => e = .returned (.int .i64 0) ∧ Below W.heap.size W w') (ho0 : ∀ j, j < 3 → ∀ W, Calls Tryz.prog 36 #[.string (a j), .string ⟨#[48]⟩] W fun e w' => e = .returned (.int .i64 (s j)) ∧ Below W.heap.size W w') (ho1 : ∀ j, j < 3 → ∀ W, Calls Tryz.prog 36 #[.string (a j), .string ⟨#[49]⟩] W fun e w' => e = .returned (.int .i64 (t j)) ∧ Below W.heap.size W w') (hsn : ∀ j, j < 3 → ¬ s j < 0) (htn : ∀ j, j < 3 → ¬ 0 < t j) (c : Nat → Rat) (D n : Nat) (ha : ∀ j, j < 3 → (a j).data.toList = RT (c j)) (hn : n ≤ 12) (hc : GrC D n c) :
    Calls Tryz.prog 34 #[.agg #[.string (a 0), .string (a 1), .string (a 2)], .int .i64 (n : Int)] w fun e w' => e = .returned (.tuple #[.agg #[.string ⟨(RT (modeQ c n 0)).toArray⟩, .string ⟨(RT (modeQ c n 1)).toArray⟩, .string ⟨(RT (modeQ c n 2)).toArray⟩, .string ⟨(RT (modeQ c n 3)).toArray⟩], .int .i64 0]) ∧ Below w.heap.size w w' := by
  have HCK := hide hck
  have HO0 := hide ho0
  have HO1 := hide ho1
  have HSN := hide hsn
  have HTN := hide htn
  have HA := hide ha
  have HC := hide hc
  have hl0 : ¬ (n : Int) < 0 := by omega
  have hl1 : ¬ (30 : Int) < (n : Int) := by omega
  have HN := hide hn
  clear hck ho0 ho1 hsn htn ha hc hn
  have HPM := hide (fun (j : Nat) (hj : j < 3) (W : World) (K : Blk W w.heap.size 66 #[.string (a 0), .string (a 1), .string (a 2)]) => (show W.cell? ⟨w.heap.size, j, none⟩ = some (.string (a j)) from by rcases (by omega : j = 0 ∨ j = 1 ∨ j = 2) with rfl | rfl | rfl <;> exact (Blk.cell K _).trans rfl))
  have HB := allocs_below w [.cells #[.string (a 0), .string (a 1), .string (a 2)] 66, .cells #[.string ⟨#[]⟩, .string ⟨#[]⟩, .string ⟨#[]⟩, .string ⟨#[]⟩] 68]
  have K_p : Blk (allocs w [.cells #[.string (a 0), .string (a 1), .string (a 2)] 66, .cells #[.string ⟨#[]⟩, .string ⟨#[]⟩, .string ⟨#[]⟩, .string ⟨#[]⟩] 68]) (w.heap.size + 0) 66 #[.string (a 0), .string (a 1), .string (a 2)] := allocs_at w [.cells #[.string (a 0), .string (a 1), .string (a 2)] 66, .cells #[.string ⟨#[]⟩, .string ⟨#[]⟩, .string ⟨#[]⟩, .string ⟨#[]⟩] 68] 0 rfl
  have K_r : Blk (allocs w [.cells #[.string (a 0), .string (a 1), .string (a 2)] 66, .cells #[.string ⟨#[]⟩, .string ⟨#[]⟩, .string ⟨#[]⟩, .string ⟨#[]⟩] 68]) (w.heap.size + 1) 68 #[.string ⟨#[]⟩, .string ⟨#[]⟩, .string ⟨#[]⟩, .string ⟨#[]⟩] := allocs_at w [.cells #[.string (a 0), .string (a 1), .string (a 2)] 66, .cells #[.string ⟨#[]⟩, .string ⟨#[]⟩, .string ⟨#[]⟩, .string ⟨#[]⟩] 68] 1 rfl
  unfold allocs at HB K_p K_r
  simp only [List.foldl_cons, List.foldl_nil] at HB K_p K_r
  rw [Nat.add_zero] at K_p
  go_enter Tryz.func34, Tryz.ntmps34
  go_upto_region 1 with (fail)
  generalize ((w.alloc (.cells #[.string (a 0), .string (a 1), .string (a 2)] 66)).alloc (.cells #[.string ⟨#[]⟩, .string ⟨#[]⟩, .string ⟨#[]⟩, .string ⟨#[]⟩] 68)) = w0 at *
  replace K_p := hide K_p
  replace K_r := hide K_r
  replace HB := hide HB
  go_wp2_with fail
  go_loopg [6] 3 (fun y iv wr => ∃ j : Nat, iv = .int .i64 (j : Int) ∧ y + j = 3 ∧ Blk wr (w.heap.size) 66 #[.string (a 0), .string (a 1), .string (a 2)] ∧ Blk wr (w.heap.size + 1) 68 #[.string ⟨#[]⟩, .string ⟨#[]⟩, .string ⟨#[]⟩, .string ⟨#[]⟩] ∧ Below w.heap.size w wr)
  case atStart => exact ⟨0, rfl, rfl, K_p.out, K_r.out, HB.out⟩
  case round =>
    clear K_p K_r HB
    obtain ⟨j, rfl, hq, hkp, hkr, hb⟩ := hrel
    obtain ⟨W1, rfl⟩ : ∃ W, W = wr := ⟨_, rfl⟩
    have HQ := hide hq
    have K_p := hide hkp
    have K_r := hide hkr
    have HB := hide hb
    have hj : j ≤ 3 := by omega
    clear hq hkp hkr hb
    by_cases hlt : j < 3
    · have hji : (j : Int) < 3 := by omega
      have hj0 : (0 : Int) ≤ (j : Int) := by omega
      have hpm := HPM.out j hlt _ K_p.out
      have HCJ := hide (HCK.out j hlt)
      go_wp2_with fail
      refine (HCJ.out _).mono ?_
      rintro e w2 ⟨rfl, hb⟩
      clear hpm
      replace K_p := hide (Blk.below K_p.out hb (Blk.lt K_p.out))
      replace K_r := hide (Blk.below K_r.out hb (Blk.lt K_r.out))
      replace HB := hide (HB.out.trans (hb.mono HB.out.size))
      clear hb
      go_wp2_with fail
      go_roundg (gk - 1)
      case measure => have := HQ.out; omega
      case rel => exact ⟨j + 1, by go_num, by have := HQ.out; omega, K_p.out, K_r.out, HB.out⟩
    · have hji : ¬ (j : Int) < 3 := by omega
      go_wp2_with fail
      go_loopg [8] 3 (fun y iv wr => ∃ j : Nat, iv = .int .i64 (j : Int) ∧ y + j = 3 ∧ Blk wr (w.heap.size) 66 #[.string (a 0), .string (a 1), .string (a 2)] ∧ Blk wr (w.heap.size + 1) 68 #[.string ⟨#[]⟩, .string ⟨#[]⟩, .string ⟨#[]⟩, .string ⟨#[]⟩] ∧ Below w.heap.size w wr)
      case atStart => exact ⟨0, rfl, rfl, K_p.out, K_r.out, HB.out⟩
      case round =>
        clear K_p K_r HB
        obtain ⟨i, rfl, hq, hkp, hkr, hb⟩ := hrel
        obtain ⟨W2, rfl⟩ : ∃ W, W = wr := ⟨_, rfl⟩
        have HQ2 := hide hq
        have K_p := hide hkp
        have K_r := hide hkr
        have HB := hide hb
        have hi : i ≤ 3 := by omega
        clear hq hkp hkr hb
        by_cases hlt2 : i < 3
        · have hii : (i : Int) < 3 := by omega
          have hi0 : (0 : Int) ≤ (i : Int) := by omega
          have hpm := HPM.out i hlt2 _ K_p.out
          have HSJ := hide (HO0.out i hlt2)
          have HTJ := hide (HO1.out i hlt2)
          have hs0 := HSN.out i hlt2
          have ht0 := HTN.out i hlt2
          obtain ⟨s0, hs0e⟩ : ∃ z, s i = z := ⟨_, rfl⟩
          obtain ⟨t0, ht0e⟩ : ∃ z, t i = z := ⟨_, rfl⟩
          rw [hs0e] at hs0 HSJ
          rw [ht0e] at ht0 HTJ
          clear hs0e ht0e
          go_wp2_with fail
          refine (HSJ.out _).mono ?_
          rintro e w2 ⟨rfl, hb⟩
          clear hpm
          replace K_p := hide (Blk.below K_p.out hb (Blk.lt K_p.out))
          replace K_r := hide (Blk.below K_r.out hb (Blk.lt K_r.out))
          replace HB := hide (HB.out.trans (hb.mono HB.out.size))
          clear hb
          have hpm := HPM.out i hlt2 _ K_p.out
          go_wp2_with fail
          refine (HTJ.out _).mono ?_
          rintro e w3 ⟨rfl, hb⟩
          clear hpm
          replace K_p := hide (Blk.below K_p.out hb (Blk.lt K_p.out))
          replace K_r := hide (Blk.below K_r.out hb (Blk.lt K_r.out))
          replace HB := hide (HB.out.trans (hb.mono HB.out.size))
          clear hb
          go_wp2_with fail
          go_roundg (gk - 1)
          case measure => have := HQ2.out; omega
          case rel => exact ⟨i + 1, by go_num, by have := HQ2.out; omega, K_p.out, K_r.out, HB.out⟩
        · have hii : ¬ (i : Int) < 3 := by omega
          go_upto_region 15 with (fail)
          have hch := ChR.one W2 (w.heap.size + 2) (by have := Blk.lt K_r.out; omega)
          replace K_p := K_p.out.alloc (.cells #[.int .i64 0, .int .i64 0, .slice none 0 0, .int .i64 0, .string ⟨#[49]⟩] 127)
          replace K_r := K_r.out.alloc (.cells #[.int .i64 0, .int .i64 0, .slice none 0 0, .int .i64 0, .string ⟨#[49]⟩] 127)
          replace HB := HB.out.alloc HB.out.size (.cells #[.int .i64 0, .int .i64 0, .slice none 0 0, .int .i64 0, .string ⟨#[49]⟩] 127)
          generalize W2.alloc (.cells #[.int .i64 0, .int .i64 0, .slice none 0 0, .int .i64 0, .string ⟨#[49]⟩] 127) = w4 at *
          replace K_p := hide K_p
          replace K_r := hide K_r
          replace HB := hide HB
          have HCH := hide hch
          clear hch HCK HO0 HO1 HSN HTN
          go_wp2_with fail
          go_loopg [9, 10] n (fun z lv iv wr => ∃ (k : Nat) (L : List (Sw × Rat)), iv = .int .i64 (k : Int) ∧ z + k = n ∧ RefI D c k L ∧ ChR wr (w.heap.size + 2) lv L ∧ Blk wr (w.heap.size) 66 #[.string (a 0), .string (a 1), .string (a 2)] ∧ Blk wr (w.heap.size + 1) 68 #[.string ⟨#[]⟩, .string ⟨#[]⟩, .string ⟨#[]⟩, .string ⟨#[]⟩] ∧ Below w.heap.size w wr)
          case atStart => exact ⟨0, _, rfl, rfl, RefI.start D c, HCH.out, K_p.out, K_r.out, HB.out⟩
          case round =>
            clear HCH K_p K_r HB
            obtain ⟨k, L, rfl, hq, hri, hch, hkp, hkr, hb⟩ := hrel
            obtain ⟨W1, rfl⟩ : ∃ W, W = wr := ⟨_, rfl⟩
            obtain ⟨g0, hg0⟩ : ∃ g : Nat, g = gk := ⟨_, rfl⟩
            obtain ⟨LN, hLN⟩ : ∃ N, L.length = N := ⟨_, rfl⟩
            have hpw : LN ≤ 4096 := by have h1 := hri.2.2.2; have h2 : 2 ^ k ≤ 2 ^ 12 := Nat.pow_le_pow_right (by omega) (by have := HN.out; omega); omega
            obtain ⟨A0, cap0, rfl⟩ := hch.shape
            rw [hLN] at hch ⊢
            have HLN := hide hLN
            have HQ := hide hq
            have HRI := hide hri
            have HCH := hide hch
            have K_p := hide hkp
            have K_r := hide hkr
            have HB := hide hb
            have HG0 := hide hg0
            have HKN := hide (show k ≤ n by omega)
            have HPW := hide hpw
            clear hq hri hch hkp hkr hb hg0 hLN hpw
            by_cases hlt : k < n
            · have hki : (k : Int) < (n : Int) := by omega
              have HK1 := hide (show k + 1 ≤ n by omega)
              go_wp2_with fail
              go_loopg [11, 12] LN (fun z nv iv wr => ∃ (i : Nat) (M : List (Sw × Rat)), iv = .int .i64 (i : Int) ∧ z + i = LN ∧ RmidI D c k i L M ∧ ChR wr W1.heap.size nv M ∧ Below W1.heap.size W1 wr)
              case atStart => exact ⟨0, [], rfl, rfl, RmidI.start D c k L, ChR.nil _ _, Below.refl _ _⟩
              case round =>
                obtain ⟨i, M, rfl, hq, hmid, hcm, hb⟩ := hrel
                obtain ⟨W2, rfl⟩ : ∃ W, W = wr := ⟨_, rfl⟩
                obtain ⟨A1, cap1, rfl⟩ := hcm.shape
                obtain ⟨MN, hMN⟩ : ∃ N, M.length = N := ⟨_, rfl⟩
                rw [hMN] at hcm ⊢
                have HMN := hide hMN
                have HQ2 := hide hq
                have HMID := hide hmid
                have HCM := hide hcm
                have HBL := hide hb
                clear hq hmid hcm hb hMN
                by_cases hlt2 : i < LN
                · have hii : (i : Int) < (LN : Int) := by omega
                  have hi0 : (0 : Int) ≤ (i : Int) := by omega
                  obtain ⟨⟨x, p⟩, hxp⟩ : ∃ y, L[i]? = some y := ⟨_, List.getElem?_eq_getElem (by rw [HLN.out]; exact hlt2)⟩
                  obtain ⟨g, cap, hform, hbg, hgl⟩ := HCH.out.form (by rw [HLN.out]; omega)
                  simp only [Value.slice.injEq] at hform
                  obtain ⟨rfl, -, rfl⟩ := hform
                  obtain ⟨A2, n2, c2, ⟨n0, n1, n2e, n3, n4⟩, hsl, -, -⟩ := HCH.out.at hxp
                  unfold tv at n4
                  have m0 := (bcell HBL.out _ _ (block_lt_of_cell n0)).trans n0
                  have m1 := (bcell HBL.out _ _ (block_lt_of_cell n1)).trans n1
                  have m2 := (bcell HBL.out _ _ (block_lt_of_cell n2e)).trans n2e
                  have m3 := (bcell HBL.out _ _ (block_lt_of_cell n3)).trans n3
                  have m4 := (bcell HBL.out _ _ (block_lt_of_cell n4)).trans n4
                  have HXP := hide hxp
                  have HSL0 := hide hsl
                  have HSL := hide (hsl.below HBL.out)
                  have HRS := hide (show RightS x from HRI.out.2.2.1 _ (List.mem_of_getElem? hxp))
                  clear hxp hsl n0 n1 n2e n3 n4 hbg hgl
                  obtain ⟨hz1, hz2⟩ := rmid_sz HC.out HK1.out HRI.out HMID.out HXP.out
                  have HZ1 := hide hz1
                  have HZ2 := hide hz2
                  clear hz1 hz2
                  have K_pb := hide (Blk.below K_p.out HBL.out (Blk.lt K_p.out))
                  have HB2 := hide (HB.out.trans (HBL.out.mono HB.out.size))
                  have HBB := hide (show W1.heap.size ≤ W2.heap.size from HBL.out.size)
                  go_upto_region 23 with (fail)
                  have hkx := Blk.new W2 127 #[.int .i64 (x.mode : Int), .int .i64 (x.run : Int), .slice A2 n2 c2, .int .i64 (x.rej : Int), .string ⟨(RT p).toArray⟩]
                  have hal : Below W2.heap.size W2 (W2.alloc (.cells #[.int .i64 (x.mode : Int), .int .i64 (x.run : Int), .slice A2 n2 c2, .int .i64 (x.rej : Int), .string ⟨(RT p).toArray⟩] 127)) := (Below.refl _ _).alloc (Nat.le_refl _) _
                  generalize W2.alloc (.cells #[.int .i64 (x.mode : Int), .int .i64 (x.run : Int), .slice A2 n2 c2, .int .i64 (x.rej : Int), .string ⟨(RT p).toArray⟩] 127) = w5 at hkx hal ⊢
                  have K_x := hide hkx
                  have HSL5 := hide (HSL.out.below hal)
                  have HCM5 := hide (HCM.out.below hal)
                  have K_p5 := hide (Blk.below K_pb.out hal (Blk.lt K_pb.out))
                  have HB5 := hide (HBL.out.trans (hal.mono HBL.out.size))
                  clear hkx hal m0 m1 m2 m3 m4
                  by_cases h3 : x.mode = 3
                  · have hx := good_stop HRS.out h3
                    have hlast : x.last = [] := by have := HRS.out; rcases right_cases this with ⟨_, _, rfl, _⟩ | ⟨_, _, rfl, _⟩ | rfl | rfl <;> first | rfl | (simp at h3)
                    have hn20 : n2 = 0 := by obtain ⟨A, c, hv, _⟩ := HSL5.out; simp only [Value.slice.injEq] at hv; rw [hv.2.1, hlast]; rfl
                    clear hx hlast
                    subst hn20
                    have hm3 : ((x.mode : Int) == 3) = true := by rw [h3]; rfl
                    have H3 := hide h3
                    clear h3
                    have x0 := (Blk.cell K_x.out 0).trans (rfl : _ = some (Value.int .i64 (x.mode : Int)))
                    have x1 := (Blk.cell K_x.out 1).trans (rfl : _ = some (Value.int .i64 (x.run : Int)))
                    have x2 := (Blk.cell K_x.out 2).trans (rfl : _ = some (Value.slice A2 0 c2))
                    have x3 := (Blk.cell K_x.out 3).trans (rfl : _ = some (Value.int .i64 (x.rej : Int)))
                    have x4 := (Blk.cell K_x.out 4).trans (rfl : _ = some (Value.string ⟨(RT p).toArray⟩))
                    go_wp2_with fail
                    refine (radded_any _ W1.heap.size _ M x A2 0 c2 p HCM5.out HSL5.out (NR.zero _ _ _) (by have := HB5.out.size; omega) (by have := HMID.out.2.2.2; have := HPW.out; omega) (Nat.le_trans (right_len HRS.out) (by omega)) (fun y hy => Nat.le_trans (right_len (HMID.out.2.2.1 y hy)) (by omega)) HZ1.out HZ2.out).mono ?_
                    rintro e w6 ⟨v2, M2, rfl, hadd, hch2, hgr, -⟩
                    have HCN := hide hch2
                    have HBN := hide (HB5.out.grown hgr HB5.out.size (fun k e => by obtain ⟨xs, ho, _⟩ := HCM5.out; exact (ho.lt k e).1))
                    have HADD := hide hadd
                    clear hch2 hgr hadd x0 x1 x2 x3 x4
                    have hpw := HPW.out
                    go_wp2_with fail
                    go_roundg (gk - 1)
                    case measure => have := HQ2.out; omega
                    case rel => exact ⟨i + 1, M2, by go_num, by have := HQ2.out; omega, rmid_stop HRI.out HMID.out HXP.out H3.out HADD.out, HCN.out, HBN.out⟩
                  · have hm3 : ((x.mode : Int) == 3) = false := by simp; omega
                    have hm2 : x.mode < 3 := by have := okP_right HRS.out; omega
                    have hxm0 : (0 : Int) ≤ (x.mode : Int) := by omega
                    have hxm3 : (x.mode : Int) < 3 := by omega
                    have H3 := hide h3
                    have hpm := HPM.out x.mode hm2 _ K_p5.out
                    have hta := HA.out x.mode hm2
                    obtain ⟨tx, htx⟩ : ∃ tx, a x.mode = tx := ⟨_, rfl⟩
                    rw [htx] at hpm hta
                    have HTA := hide hta
                    clear h3 htx hta hm2
                    obtain ⟨z1, z2, z3, z4, z5⟩ := rmid_parts HC.out HK1.out HRI.out HMID.out HXP.out H3.out
                    have HT1 := hide (fun (W : World) => rqtimes_any W ⟨(RT p).toArray⟩ tx p (c x.mode) rfl HTA.out (m := 500) (by omega) HZ1.out z1)
                    have HMI := hide (fun (W : World) => rqminus_any W ⟨#[49]⟩ tx 1 (c x.mode) RT_one.symm HTA.out (m := 500) (by omega) (sz_one (by omega)) z1)
                    have HT2 := hide (fun (W : World) => rqtimes_any W ⟨(RT p).toArray⟩ ⟨(RT (1 - c x.mode)).toArray⟩ p (1 - c x.mode) rfl rfl (m := 500) (by omega) HZ1.out z2)
                    have HGO := hide (fun (W : World) (ok : Bool) (h : SlL W (.slice A2 n2 c2) (bcl x.last)) => rgoes_any W x ok (.slice A2 n2 c2) h HRS.out)
                    have Z3 := hide z3
                    have Z4 := hide z4
                    have Z5 := hide z5
                    clear z1 z2 z3 z4 z5
                    have x0 := (Blk.cell K_x.out 0).trans (rfl : _ = some (Value.int .i64 (x.mode : Int)))
                    have x1 := (Blk.cell K_x.out 1).trans (rfl : _ = some (Value.int .i64 (x.run : Int)))
                    have x2 := (Blk.cell K_x.out 2).trans (rfl : _ = some (Value.slice A2 n2 c2))
                    have x3 := (Blk.cell K_x.out 3).trans (rfl : _ = some (Value.int .i64 (x.rej : Int)))
                    have x4 := (Blk.cell K_x.out 4).trans (rfl : _ = some (Value.string ⟨(RT p).toArray⟩))
                    go_upto_region 26 with (fail)
                    clear hpm hm3 hxm0 hxm3
                    have HNX := hide (show some W2.heap.size ≠ (Value.slice A1 MN cap1).ownBlock from fun e => by obtain ⟨xs, ho, _⟩ := HCM.out; have := (ho.lt _ e.symm).2; omega)
                    have hne : some W2.heap.size ≠ (Value.slice A1 MN cap1).ownBlock := HNX.out
                    have SK : ∀ w', w5.grownBy w' (Value.slice A1 MN cap1).ownBlock → w5.grownBy w' (Value.slice A1 MN cap1).ownBlock ∧ w'.cell? ⟨W2.heap.size, 0, none⟩ = some (.int .i64 (x.mode : Int)) ∧ w'.cell? ⟨W2.heap.size, 1, none⟩ = some (.int .i64 (x.run : Int)) ∧ w'.cell? ⟨W2.heap.size, 2, none⟩ = some (.slice A2 n2 c2) ∧ w'.cell? ⟨W2.heap.size, 3, none⟩ = some (.int .i64 (x.rej : Int)) ∧ w'.cell? ⟨W2.heap.size, 4, none⟩ = some (.string ⟨(RT p).toArray⟩) := fun w' h => ⟨h, h.cell x0 hne, h.cell x1 hne, h.cell x2 hne, h.cell x3 hne, h.cell x4 hne⟩
                    go_region_held3 (fun w' => w5.grownBy w' (Value.slice A1 MN cap1).ownBlock ∧ w'.cell? ⟨W2.heap.size, 0, none⟩ = some (.int .i64 (x.mode : Int)) ∧ w'.cell? ⟨W2.heap.size, 1, none⟩ = some (.int .i64 (x.run : Int)) ∧ w'.cell? ⟨W2.heap.size, 2, none⟩ = some (.slice A2 n2 c2) ∧ w'.cell? ⟨W2.heap.size, 3, none⟩ = some (.int .i64 (x.rej : Int)) ∧ w'.cell? ⟨W2.heap.size, 4, none⟩ = some (.string ⟨(RT p).toArray⟩)) (first | exact SK _ (only_drew (only_refl _ _)) | exact SK _ (only_refl _ _) | exact SK _ (grow_next (by assumption) (by assumption)) | exact SK _ (grow_next2 (by assumption) (by assumption)))
                      (first
                        | (go_at_call 59; refine (HGO.out _ _ (HSL5.out.below ((Below.refl _ _).drew))).mono ?_; rintro e wg ⟨ug, rfl, hst, hbG⟩; obtain ⟨sg, rfl, hsg, hfr⟩ := hst; obtain ⟨Ag, Ng, cg, rfl⟩ := hsg.shape3)
                        | (go_at_call 49; refine (HT1.out _).mono ?_; rintro e wt ⟨rfl, hbT⟩)
                        | (go_at_call 68; have hbG0 : Below w5.heap.size w5 wg := ((Below.refl _ w5).drew).trans hbG; have hbA := hbG0.trans (hbT.mono hbG0.size); refine (radded_any wt W1.heap.size _ M (goesS x true) Ag Ng cg (p * c x.mode) (HCM5.out.below hbA) (hsg.below hbT) (NR.fresh HCM5.out (Nat.le_refl _) hfr) (by have := HB5.out.size; have := hbA.size; omega) (by have := HMID.out.2.2.2; have := HPW.out; omega) (Nat.le_trans (right_len (goesS_ok HRS.out true).2) (by omega)) (fun y hy => Nat.le_trans (right_len (HMID.out.2.2.1 y hy)) (by omega)) Z3.out (HZ2.out)).mono ?_; rintro e w9 ⟨v2, M1, rfl, hadd, hch2, hgr, hown⟩))
                    have hbG0 : Below w5.heap.size w5 wg := ((Below.refl _ w5).drew).trans hbG
                    have hbA := hbG0.trans (hbT.mono hbG0.size)
                    have hgA : w5.grownBy w9 (Value.slice A1 MN cap1).ownBlock := only_trans (only_of_below hbA _) hgr
                    have hks := Blk.grown K_x.out hgA hne
                    have hsl9 := HSL5.out.off (NR.old HSL0.out HCM5.out) hgA
                    have hx9 : some W2.heap.size ≠ v2.ownBlock := hown.elim (fun h => by rw [h]; exact hne) (fun ⟨q, h, hq⟩ => by rw [h]; intro e; have h1 := hbA.size; have h2 := Blk.lt K_x.out; have h3 : W2.heap.size = q := (by simpa using e); omega)
                    have HNX9 := hide hx9
                    have HB9 := hide (HB5.out.grown hgA HB5.out.size (fun k e => by obtain ⟨xs, ho, _⟩ := HCM5.out; exact (ho.lt k e).1))
                    have HADD1 := hide hadd
                    have HCM9 := hide hch2
                    have HSL9 := hide hsl9
                    clear hadd hch2 hgr hgA hsl9 SK hbG hbT hsg hfr hne hx9 hown hbG0 hbA x0 x1 x2 x3 x4
                    clear K_x
                    have K_x := hide hks
                    clear hks
                    obtain ⟨A9, cap9, rfl⟩ := HCM9.out.shape
                    obtain ⟨N9, hN9⟩ : ∃ N, M1.length = N := ⟨_, rfl⟩
                    rw [hN9] at HCM9 HNX9 ⊢
                    clear hN9
                    have x0 := (Blk.cell K_x.out 0).trans (rfl : _ = some (Value.int .i64 (x.mode : Int)))
                    have x1 := (Blk.cell K_x.out 1).trans (rfl : _ = some (Value.int .i64 (x.run : Int)))
                    have x2 := (Blk.cell K_x.out 2).trans (rfl : _ = some (Value.slice A2 n2 c2))
                    have x3 := (Blk.cell K_x.out 3).trans (rfl : _ = some (Value.int .i64 (x.rej : Int)))
                    have x4 := (Blk.cell K_x.out 4).trans (rfl : _ = some (Value.string ⟨(RT p).toArray⟩))
                    go_upto_region 27 with (fail)
                    have hne : some W2.heap.size ≠ (Value.slice A9 N9 cap9).ownBlock := HNX9.out
                    have SK : ∀ w', w9.grownBy w' (Value.slice A9 N9 cap9).ownBlock → w9.grownBy w' (Value.slice A9 N9 cap9).ownBlock ∧ w'.cell? ⟨W2.heap.size, 0, none⟩ = some (.int .i64 (x.mode : Int)) ∧ w'.cell? ⟨W2.heap.size, 1, none⟩ = some (.int .i64 (x.run : Int)) ∧ w'.cell? ⟨W2.heap.size, 2, none⟩ = some (.slice A2 n2 c2) ∧ w'.cell? ⟨W2.heap.size, 3, none⟩ = some (.int .i64 (x.rej : Int)) ∧ w'.cell? ⟨W2.heap.size, 4, none⟩ = some (.string ⟨(RT p).toArray⟩) := fun w' h => ⟨h, h.cell x0 hne, h.cell x1 hne, h.cell x2 hne, h.cell x3 hne, h.cell x4 hne⟩
                    go_region_held3 (fun w' => w9.grownBy w' (Value.slice A9 N9 cap9).ownBlock ∧ w'.cell? ⟨W2.heap.size, 0, none⟩ = some (.int .i64 (x.mode : Int)) ∧ w'.cell? ⟨W2.heap.size, 1, none⟩ = some (.int .i64 (x.run : Int)) ∧ w'.cell? ⟨W2.heap.size, 2, none⟩ = some (.slice A2 n2 c2) ∧ w'.cell? ⟨W2.heap.size, 3, none⟩ = some (.int .i64 (x.rej : Int)) ∧ w'.cell? ⟨W2.heap.size, 4, none⟩ = some (.string ⟨(RT p).toArray⟩)) (first | exact SK _ (only_drew (only_refl _ _)) | exact SK _ (only_refl _ _) | exact SK _ (grow_next (by assumption) (by assumption)) | exact SK _ (grow_next2 (by assumption) (by assumption)))
                      (first
                        | (go_at_call 59; refine (HGO.out _ _ (HSL9.out.below ((Below.refl _ _).drew))).mono ?_; rintro e wg ⟨ug, rfl, hst, hbG⟩; obtain ⟨sg, rfl, hsg, hfr⟩ := hst; obtain ⟨Ag, Ng, cg, rfl⟩ := hsg.shape3)
                        | (go_at_call 48; refine (HMI.out _).mono ?_; rintro e wm ⟨rfl, hbM⟩)
                        | (go_at_call 49; refine (HT2.out _).mono ?_; rintro e wt ⟨rfl, hbT2⟩; have hbT := hbM.trans (hbT2.mono hbM.size))
                        | (go_at_call 68; have hbG0 : Below w9.heap.size w9 wg := ((Below.refl _ w9).drew).trans hbG; have hbA := hbG0.trans (hbT.mono hbG0.size); refine (radded_any wt W1.heap.size _ M1 (goesS x false) Ag Ng cg (p * (1 - c x.mode)) (HCM9.out.below hbA) (hsg.below hbT) (NR.fresh HCM9.out (Nat.le_refl _) hfr) (by have := HB9.out.size; have := hbA.size; omega) (by have := addL_len HADD1.out; have := HMID.out.2.2.2; have := HPW.out; omega) (Nat.le_trans (right_len (goesS_ok HRS.out false).2) (by omega)) (fun y hy => Nat.le_trans (right_len (HADD1.out.keys HMID.out.2.2.1 (goesS_ok HRS.out true).2 y hy)) (by omega)) Z4.out (Z5.out M1 HADD1.out)).mono ?_; rintro e wa ⟨v2, M2, rfl, hadd, hch2, hgr, hown⟩))
                    have hbG0 : Below w9.heap.size w9 wg := ((Below.refl _ w9).drew).trans hbG
                    have hbA := hbG0.trans (hbT.mono hbG0.size)
                    have hgA : w9.grownBy wa (Value.slice A9 N9 cap9).ownBlock := only_trans (only_of_below hbA _) hgr
                    have HBN := hide (HB9.out.grown hgA HB9.out.size (fun k e => by obtain ⟨xs, ho, _⟩ := HCM9.out; exact (ho.lt k e).1))
                    have HADD2 := hide hadd
                    have HCN := hide hch2
                    clear hadd hch2 hgr hgA SK hbG hbT hsg hfr hne hown hbG0 hbA x0 x1 x2 x3 x4
                    have hpw := HPW.out
                    go_wp2_with fail
                    go_roundg (gk - 1)
                    case measure => have := HQ2.out; omega
                    case rel => exact ⟨i + 1, M2, by go_num, by have := HQ2.out; omega, rmid_go HC.out HRI.out HMID.out HXP.out H3.out HADD1.out HADD2.out, HCN.out, HBN.out⟩
                · have hii : ¬ (i : Int) < (LN : Int) := by omega
                  have hiL : i = L.length := by rw [HLN.out]; have := HQ2.out; omega
                  have HB2 := hide (HB.out.trans (HBL.out.mono HB.out.size))
                  have K_p2 := hide (Blk.below K_p.out HBL.out (Blk.lt K_p.out))
                  have K_r2 := hide (Blk.below K_r.out HBL.out (Blk.lt K_r.out))
                  have hw2 : w.heap.size + 2 ≤ W1.heap.size := by have := Blk.lt K_r.out; omega
                  have HW2 := hide hw2
                  clear hw2
                  go_wp2_with fail
                  go_roundg (g0 - 1)
                  case measure => have := HQ.out; have := HG0.out; omega
                  case rel => exact ⟨k + 1, M, by go_num, by have := HQ.out; have := HG0.out; omega, rmid_done HRI.out (by rw [← hiL]; exact HMID.out), HCM.out.base HW2.out, K_p2.out, K_r2.out, HB2.out⟩
            · have hki : ¬ (k : Int) < (n : Int) := by omega
              have hkn : k = n := by have := HKN.out; omega
              subst hkn
              clear K_p
              have HBW := hide (Below.refl W1.heap.size W1)
              have HLR := hide (Blk.lt K_r.out)
              go_upto_region 30 with (fail)
              have hbs_o : w.heap.size ≤ W1.heap.size := HB.out.size
              have lt_o_r : (w.heap.size + 1) < W1.heap.size := Blk.lt K_r.out
              replace K_r := K_r.out.alloc (.cells #[.string ⟨#[48]⟩, .string ⟨#[48]⟩, .string ⟨#[48]⟩, .string ⟨#[48]⟩] 68)
              replace HB := HB.out.alloc HB.out.size (.cells #[.string ⟨#[48]⟩, .string ⟨#[48]⟩, .string ⟨#[48]⟩, .string ⟨#[48]⟩] 68)
              have K_o := Blk.new W1 68 #[.string ⟨#[48]⟩, .string ⟨#[48]⟩, .string ⟨#[48]⟩, .string ⟨#[48]⟩]
              replace HBW := HBW.out.alloc HBW.out.size (.cells #[.string ⟨#[48]⟩, .string ⟨#[48]⟩, .string ⟨#[48]⟩, .string ⟨#[48]⟩] 68)
              generalize W1.alloc (.cells #[.string ⟨#[48]⟩, .string ⟨#[48]⟩, .string ⟨#[48]⟩, .string ⟨#[48]⟩] 68) = w4 at *
              replace K_r := hide K_r
              replace K_o := hide K_o
              replace HB := hide HB
              replace HBW := hide HBW
              go_wp2_with fail
              go_loopg [16] LN (fun z iv wr => ∃ i : Nat, iv = .int .i64 (i : Int) ∧ z + i = LN ∧ Blk wr W1.heap.size 68 #[.string ⟨(RT (outR L i 0)).toArray⟩, .string ⟨(RT (outR L i 1)).toArray⟩, .string ⟨(RT (outR L i 2)).toArray⟩, .string ⟨(RT (outR L i 3)).toArray⟩] ∧ Below W1.heap.size W1 wr ∧ Blk wr (w.heap.size + 1) 68 #[.string ⟨#[]⟩, .string ⟨#[]⟩, .string ⟨#[]⟩, .string ⟨#[]⟩] ∧ Below w.heap.size w wr)
              case atStart => exact ⟨0, rfl, rfl, by simp only [outR_zero]; rw [RT_zero]; exact K_o.out, HBW.out, K_r.out, HB.out⟩
              case round =>
                clear K_o K_r HB HBW
                obtain ⟨i, rfl, hq, hko, hbw, hkr, hb⟩ := hrel
                obtain ⟨W3, rfl⟩ : ∃ W, W = wr := ⟨_, rfl⟩
                have HQ3 := hide hq
                have K_o := hide hko
                have HBW := hide hbw
                have K_r := hide hkr
                have HB := hide hb
                clear hq hko hbw hkr hb
                by_cases hlt2 : i < LN
                · have hii : (i : Int) < (LN : Int) := by omega
                  have hi0 : (0 : Int) ≤ (i : Int) := by omega
                  obtain ⟨⟨x, p⟩, hxp⟩ : ∃ y, L[i]? = some y := ⟨_, List.getElem?_eq_getElem (by rw [HLN.out]; exact hlt2)⟩
                  obtain ⟨g, cap, hform, hbg, hgl⟩ := HCH.out.form (by rw [HLN.out]; omega)
                  simp only [Value.slice.injEq] at hform
                  obtain ⟨rfl, -, rfl⟩ := hform
                  obtain ⟨A2, n2, c2, ⟨n0, -, -, -, n4⟩, -, -, -⟩ := HCH.out.at hxp
                  unfold tv at n4
                  have m0 := (bcell HBW.out _ _ (block_lt_of_cell n0)).trans n0
                  have m4 := (bcell HBW.out _ _ (block_lt_of_cell n4)).trans n4
                  clear n0 n4
                  have HXP := hide hxp
                  have hxm : x.mode < 4 := by have := okP_right (show RightS x from HRI.out.2.2.1 _ (List.mem_of_getElem? hxp)); omega
                  have hxm0 : (0 : Int) ≤ (x.mode : Int) := by omega
                  have hxm4 : (x.mode : Int) < 4 := by omega
                  have hoc : W3.cell? ⟨W1.heap.size, x.mode, none⟩ = some (.string ⟨(RT (outR L i x.mode)).toArray⟩) := by rcases (by omega : x.mode = 0 ∨ x.mode = 1 ∨ x.mode = 2 ∨ x.mode = 3) with e | e | e | e <;> rw [e] <;> exact (Blk.cell K_o.out _).trans rfl
                  have hof : W3.frozen? ⟨W1.heap.size, x.mode, none⟩ = false := Blk.frozen K_o.out _
                  have HLT := hide (Blk.lt K_o.out)
                  have HXM := hide hxm
                  have HOC := hide hoc
                  have HOF := hide hof
                  obtain ⟨hz1, hz2⟩ := outR_sz HC.out (Nat.le_refl _) HRI.out hxp x.mode
                  have HPL := hide (fun (W : World) => rqplus_any W ⟨(RT (outR L i x.mode)).toArray⟩ ⟨(RT p).toArray⟩ (outR L i x.mode) p rfl rfl (m := 500) (by omega) hz2 hz1)
                  clear hxp hz1 hz2 hbg hgl hxm
                  go_upto_region 34 with (fail)
                  go_region_with (refine (HPL.out _).mono ?_; rintro e wy ⟨rfl, hbW⟩; have hby : Below W3.heap.size W3 wy := ((Below.refl _ W3).drew).trans hbW; have my := (bcell hby _ _ (block_lt_of_cell HOC.out)).trans HOC.out; have hfy : wy.frozen? ⟨W1.heap.size, x.mode, none⟩ = false := (World.frozen?_of_block (hby.block W1.heap.size HLT.out)).trans HOF.out; go_wp2_with fail)
                  all_goals (
                    have hko := Blk.below K_o.out hby (Blk.lt K_o.out)
                    have HKO := hide hko
                    have HBV := hide (HBW.out.trans (hby.mono HBW.out.size))
                    have HKR := hide (Blk.below K_r.out hby (Blk.lt K_r.out))
                    have HBY := hide (HB.out.trans (hby.mono HB.out.size))
                    have HST := hide (outR_step HXP.out)
                    have HBR := hide (show w.heap.size + 1 < W1.heap.size from HLR.out)
                    clear hko
                    have hpw := HPW.out
                    go_wp2_with fail
                    go_roundg (gk - 1)
                    case measure => have := HQ3.out; omega
                    case rel => exact ⟨i + 1, by go_num, by have := HQ3.out; omega, (by simp only [HST.out]; have h4 := HXM.out; rcases (by omega : x.mode = 0 ∨ x.mode = 1 ∨ x.mode = 2 ∨ x.mode = 3) with e | e | e | e <;> rw [e] <;> exact HKO.out.set_ _ _), HBV.out.setCell (p := ⟨W1.heap.size, x.mode, none⟩) (by show W1.heap.size ≤ W1.heap.size; omega) _, HKR.out.far (by show w.heap.size + 1 ≠ W1.heap.size; have := HBR.out; omega) _, HBY.out.setCell (p := ⟨W1.heap.size, x.mode, none⟩) (by show w.heap.size ≤ W1.heap.size; have := HBR.out; omega) _⟩
                  )
                · have hii : ¬ (i : Int) < (LN : Int) := by omega
                  have hiL : i = L.length := by rw [HLN.out]; have := HQ3.out; omega
                  have ko := K_o.out
                  rw [hiL, outR_done HRI.out 0, outR_done HRI.out 1, outR_done HRI.out 2, outR_done HRI.out 3] at ko
                  clear K_o hiL
                  have K_o := hide ko
                  clear ko
                  have r0 := (Blk.cell K_r.out 0).trans (rfl : _ = some (Value.string ⟨#[]⟩))
                  have rf0 := Blk.frozen K_r.out 0
                  have r1 := (Blk.cell K_r.out 1).trans (rfl : _ = some (Value.string ⟨#[]⟩))
                  have rf1 := Blk.frozen K_r.out 1
                  have r2 := (Blk.cell K_r.out 2).trans (rfl : _ = some (Value.string ⟨#[]⟩))
                  have rf2 := Blk.frozen K_r.out 2
                  have r3 := (Blk.cell K_r.out 3).trans (rfl : _ = some (Value.string ⟨#[]⟩))
                  have rf3 := Blk.frozen K_r.out 3
                  have o0 := (Blk.cell K_o.out 0).trans (rfl : _ = some (Value.string ⟨(RT (modeQ c k 0)).toArray⟩))
                  have o1 := (Blk.cell K_o.out 1).trans (rfl : _ = some (Value.string ⟨(RT (modeQ c k 1)).toArray⟩))
                  have o2 := (Blk.cell K_o.out 2).trans (rfl : _ = some (Value.string ⟨(RT (modeQ c k 2)).toArray⟩))
                  have o3 := (Blk.cell K_o.out 3).trans (rfl : _ = some (Value.string ⟨(RT (modeQ c k 3)).toArray⟩))
                  go_wp2_with fail
                  have rc0 := (Blk.cell ((((K_r.out.set_ 0 (.string ⟨(RT (modeQ c k 0)).toArray⟩)).set_ 1 (.string ⟨(RT (modeQ c k 1)).toArray⟩)).set_ 2 (.string ⟨(RT (modeQ c k 2)).toArray⟩)).set_ 3 (.string ⟨(RT (modeQ c k 3)).toArray⟩)) 0).trans (rfl : _ = some (Value.string ⟨(RT (modeQ c k 0)).toArray⟩))
                  have rc1 := (Blk.cell ((((K_r.out.set_ 0 (.string ⟨(RT (modeQ c k 0)).toArray⟩)).set_ 1 (.string ⟨(RT (modeQ c k 1)).toArray⟩)).set_ 2 (.string ⟨(RT (modeQ c k 2)).toArray⟩)).set_ 3 (.string ⟨(RT (modeQ c k 3)).toArray⟩)) 1).trans (rfl : _ = some (Value.string ⟨(RT (modeQ c k 1)).toArray⟩))
                  have rc2 := (Blk.cell ((((K_r.out.set_ 0 (.string ⟨(RT (modeQ c k 0)).toArray⟩)).set_ 1 (.string ⟨(RT (modeQ c k 1)).toArray⟩)).set_ 2 (.string ⟨(RT (modeQ c k 2)).toArray⟩)).set_ 3 (.string ⟨(RT (modeQ c k 3)).toArray⟩)) 2).trans (rfl : _ = some (Value.string ⟨(RT (modeQ c k 2)).toArray⟩))
                  have rc3 := (Blk.cell ((((K_r.out.set_ 0 (.string ⟨(RT (modeQ c k 0)).toArray⟩)).set_ 1 (.string ⟨(RT (modeQ c k 1)).toArray⟩)).set_ 2 (.string ⟨(RT (modeQ c k 2)).toArray⟩)).set_ 3 (.string ⟨(RT (modeQ c k 3)).toArray⟩)) 3).trans (rfl : _ = some (Value.string ⟨(RT (modeQ c k 3)).toArray⟩))
                  exact bodyPost_ret (v := .tuple #[.agg #[.string ⟨(RT (modeQ c k 0)).toArray⟩, .string ⟨(RT (modeQ c k 1)).toArray⟩, .string ⟨(RT (modeQ c k 2)).toArray⟩, .string ⟨(RT (modeQ c k 3)).toArray⟩], .int .i64 0]) (by simp [results, Tryz.results34, go_sem, rc0, rc1, rc2, rc3]) rfl ⟨rfl, ((((HB.out.setCell (p := ⟨(w.heap.size + 1), 0, none⟩) (by show w.heap.size ≤ (w.heap.size + 1); omega) (.string ⟨(RT (modeQ c k 0)).toArray⟩)).setCell (p := ⟨(w.heap.size + 1), 1, none⟩) (by show w.heap.size ≤ (w.heap.size + 1); omega) (.string ⟨(RT (modeQ c k 1)).toArray⟩)).setCell (p := ⟨(w.heap.size + 1), 2, none⟩) (by show w.heap.size ≤ (w.heap.size + 1); omega) (.string ⟨(RT (modeQ c k 2)).toArray⟩)).setCell (p := ⟨(w.heap.size + 1), 3, none⟩) (by show w.heap.size ≤ (w.heap.size + 1); omega) (.string ⟨(RT (modeQ c k 3)).toArray⟩))⟩
end Go.Proofs.YthmmgjieppknkaaGreatDoor

namespace Go.Proofs.YthmmgjieppknkaaGreatDoor
open Go.RowKit Go.Shelf Go.Maps MLab
theorem badE_out {c : Nat → Rat} (h : ¬ ∀ j, j < 3 → 0 ≤ c j ∧ c j ≤ 1) : badE (fun j => (c j).num.sign) (fun j => ((c j).num - ((c j).den : Int)).sign) = 2 := by
  have : ∃ j, j < 3 ∧ ¬ (0 ≤ c j ∧ c j ≤ 1) := by
    refine Classical.byContradiction fun hn => h fun j hj => Classical.byContradiction fun h2 => hn ⟨j, hj, h2⟩
  obtain ⟨j, hj, h2⟩ := this
  refine badE_at hj ?_
  by_cases h3 : 0 ≤ c j
  · exact .inr (one_sign.2 fun h4 => h2 ⟨h3, h4⟩)
  · exact .inl (num_sign.2 h3)
end Go.Proofs.YthmmgjieppknkaaGreatDoor

namespace Go.Proofs.YthmmgjieppknkaaGreatDoor
open Go.RowKit Go.Shelf Go.Maps MLab
set_option maxRecDepth 100000 in
set_option maxHeartbeats 1000000 in
theorem rslashL_any (w : World) (s : ByteArray) (l : List UInt8) (hl : s.data.toList = l) (hsz : s.size ≤ 9223372036854775807) :
    Calls Tryz.prog 70 #[.string s] w fun e w' => e = .returned (.int .i64 (slR l)) ∧ w = w' := by
  have hlen : s.size = l.length := by rw [Lib.size_eq, hl]
  have HL := hide hl
  have HLEN := hide hlen
  clear hl hlen
  go_enter Tryz.func70, Tryz.ntmps70
  go_wp2_with fail
  go_loopg [3] s.size (fun q iv wr => ∃ j : Nat, iv = .int .i64 (j : Int) ∧ q + j = s.size ∧ (∀ k, k < j → l[k]? ≠ some 47) ∧ wr = w)
  case atStart => exact ⟨0, rfl, rfl, fun k h => by omega, rfl⟩
  case round =>
    obtain ⟨j, rfl, hq, hok, rfl⟩ := hrel
    have hj : j ≤ s.size := by omega
    have HQ := hide hq
    have HOK := hide hok
    clear hq hok
    by_cases hlt : j < s.size
    · have hji : (j : Int) < (s.size : Int) := by omega
      have hg : l[j]? = some (s[j]'hlt) := by
        rw [← HL.out, Array.getElem?_toList]
        exact Array.getElem?_eq_getElem hlt
      have HGT := hide hg
      clear hg
      by_cases hz : ((s[j]'hlt).toNat : Int) = 47
      · have hz2 : (((s[j]'hlt).toNat : Int) == 47) = true := by rw [hz]; rfl
        have HZ := hide hz
        go_wp2_with fail
        go_ret
        refine ⟨?_, rfl⟩
        have hb : s[j]'hlt = 47 := by
          have := HZ.out
          apply UInt8.toNat_inj.1
          show (s[j]'hlt).toNat = 47
          omega
        have h1 : sl l = j := sl_eq (by rw [HGT.out, hb]) HOK.out
        rw [slR, h1, if_pos (by rw [← HLEN.out]; exact hlt)]; rfl
      · have hz2 : (((s[j]'hlt).toNat : Int) == 47) = false := by rw [beq_eq_false_iff_ne]; exact hz
        have HZ := hide hz
        go_wp2_with fail
        go_roundg (gk - 1)
        case measure => have := HQ.out; omega
        case rel =>
          refine ⟨j + 1, by go_num, by have := HQ.out; omega, fun k hk => ?_, rfl⟩
          by_cases e : k = j
          · rw [e, HGT.out]
            intro h
            injection h with h
            exact HZ.out (by rw [h]; rfl)
          · exact HOK.out k (by omega)
    · have hji : ¬ (j : Int) < (s.size : Int) := by omega
      go_wp2_with fail
      go_ret
      refine ⟨?_, rfl⟩
      have h1 : sl l = l.length := sl_none (fun k => by
        by_cases hk : k < l.length
        · exact HOK.out k (by have := HLEN.out; omega)
        · rw [List.getElem?_eq_none (by omega)]; simp)
      rw [slR, h1, if_neg (by omega)]; rfl
set_option maxRecDepth 100000 in
theorem rsplitL_any (w : World) (s : ByteArray) (l : List UInt8) (hl : s.data.toList = l) (hsz : s.size ≤ 9223372036854775807) :
    Calls Tryz.prog 62 #[.string s] w fun e w' => e = .returned (.tuple #[.string ⟨(numL l).toArray⟩, .string ⟨(denL l).toArray⟩]) ∧ Below w.heap.size w w' := by
  have hlen : s.size = l.length := by rw [Lib.size_eq, hl]
  have HS := hide (rslashL_any w s l hl hsz)
  by_cases hz : sl l < l.length
  · have hsl : slR l = (sl l : Int) := by rw [slR, if_pos hz]
    obtain ⟨k, hk⟩ : ∃ k, sl l = k := ⟨_, rfl⟩
    rw [hk] at hsl hz
    have e1 : s.extract 0 k = ⟨(numL l).toArray⟩ := by
      apply ByteArray.ext
      apply Array.ext'
      rw [Lib.extract_data, hl, numL, hk]; simp
    have e2 : s.extract (k + 1) s.size = ⟨(denL l).toArray⟩ := by
      apply ByteArray.ext
      apply Array.ext'
      rw [Lib.extract_data, hl, denL, hk, if_pos hz, List.take_of_length_le (by simp; omega)]
    have hk0 : ¬ (k : Int) < 0 := by omega
    have hk1 : (k : Int) ≤ (s.size : Int) := by omega
    have hk2 : (k : Int) + 1 ≤ (s.size : Int) := by omega
    have hkn : ((k : Int) + 1).toNat = k + 1 := by omega
    have hkz : (k : Int) < (s.size : Int) := by omega
    have HSL := hide hsl
    have E1 := hide e1
    have E2 := hide e2
    clear hsl e1 e2 hl hk hz hlen
    go_enter Tryz.func62, Tryz.ntmps62
    go_wp2_with fail
    refine HS.out.mono ?_
    rw [HSL.out]
    rintro e w1 ⟨rfl, rfl⟩
    go_upto_region 4 with (fail)
    go_quiet (fail)
    go_wp2_with fail
    go_ret2
    exact ⟨by rw [← E1.out, ← E2.out]; rfl, below_drewN (Below.refl _ _) _⟩
  · have hsl : slR l = -1 := by rw [slR, if_neg hz]
    have e1 : s = ⟨(numL l).toArray⟩ := by
      apply ByteArray.ext
      apply Array.ext'
      have := sl_le l
      rw [hl, numL, List.take_of_length_le (by omega)]
    have e2 : denL l = [49] := by rw [denL, if_neg hz]
    have HSL := hide hsl
    have E1 := hide e1
    have E2 := hide e2
    clear hsl e1 e2 hl hz hlen
    go_enter Tryz.func62, Tryz.ntmps62
    go_wp2_with fail
    refine HS.out.mono ?_
    rw [HSL.out]
    rintro e w1 ⟨rfl, rfl⟩
    go_wp2_with fail
    go_ret2
    exact ⟨by rw [← E1.out, E2.out]; rfl, Below.refl _ _⟩
def pl1 (s : ByteArray) : Bool := decide (s.size ≤ 12) && (decide ((numL s.data.toList).length ≤ 8) && decide ((denL s.data.toList).length ≤ 8))
def plB (a : Nat → ByteArray) : Bool := pl1 (a 0) && (pl1 (a 1) && pl1 (a 2))
theorem plB_no {a : Nat → ByteArray} {j : Nat} (hj : j < 3) (h : pl1 (a j) = false) : plB a = false := by
  unfold plB
  rcases (by omega : j = 0 ∨ j = 1 ∨ j = 2) with rfl | rfl | rfl <;> simp [h]
theorem plB_yes {a : Nat → ByteArray} (h : ∀ j, j < 3 → pl1 (a j) = true) : plB a = true := by
  unfold plB
  rw [h 0 (by omega), h 1 (by omega), h 2 (by omega)]; rfl
theorem plB_size {a : Nat → ByteArray} (h : plB a = true) : ∀ j, j < 3 → (a j).size ≤ 12 := by
  unfold plB pl1 at h
  simp at h
  intro j hj
  rcases (by omega : j = 0 ∨ j = 1 ∨ j = 2) with rfl | rfl | rfl
  · exact h.1.1
  · exact h.2.1.1
  · exact h.2.2.1
set_option maxRecDepth 100000 in
set_option maxHeartbeats 2000000 in
theorem rplain_any (w : World) (a : Nat → ByteArray) (hz : ∀ j, j < 3 → (a j).size ≤ 9223372036854775807) :
    Calls Tryz.prog 32 #[.agg #[.string (a 0), .string (a 1), .string (a 2)]] w fun e w' => e = .returned (.bool (plB a)) ∧ Below w.heap.size w w' := by
  have HI := hide (fun (j : Nat) (hj : j < 3) W => idx_rat (a := a) hj W)
  have HSP := hide (fun (j : Nat) (hj : j < 3) (W : World) => rsplitL_any W (a j) _ rfl (hz j hj))
  have HNO := hide (fun j hj h => plB_no (a := a) (j := j) hj h)
  have HYE := hide (fun h => plB_yes (a := a) h)
  obtain ⟨R, hR⟩ : ∃ R, plB a = R := ⟨_, rfl⟩
  rw [hR] at HNO HYE ⊢
  have HZ := hide hz
  clear hR hz
  have HB := allocs_below w [.cells #[.string (a 0), .string (a 1), .string (a 2)] 66]
  have K_p : Blk (allocs w [.cells #[.string (a 0), .string (a 1), .string (a 2)] 66]) (w.heap.size + 0) 66 #[.string (a 0), .string (a 1), .string (a 2)] := allocs_at w [.cells #[.string (a 0), .string (a 1), .string (a 2)] 66] 0 rfl
  unfold allocs at HB K_p
  simp only [List.foldl_cons, List.foldl_nil] at HB K_p
  rw [Nat.add_zero] at K_p
  go_enter Tryz.func32, Tryz.ntmps32
  go_upto_region 1 with (fail)
  generalize (w.alloc (.cells #[.string (a 0), .string (a 1), .string (a 2)] 66)) = w0 at *
  replace K_p := hide K_p
  replace HB := hide HB
  have p0 := (Blk.cell K_p.out 0).trans (rfl : _ = some (Value.string (a 0)))
  have p1 := (Blk.cell K_p.out 1).trans (rfl : _ = some (Value.string (a 1)))
  have p2 := (Blk.cell K_p.out 2).trans (rfl : _ = some (Value.string (a 2)))
  go_wp2_with fail
  go_loopg [8] 3 (fun y iv wr => ∃ j : Nat, iv = .int .i64 (j : Int) ∧ y + j = 3 ∧ Below w.heap.size w wr ∧ ∀ i, i < j → pl1 (a i) = true)
  case atStart => exact ⟨0, rfl, rfl, HB.out, fun i hi => absurd hi (by omega)⟩
  case round =>
    obtain ⟨j, rfl, hq, hb, hr⟩ := hrel
    have HQ := hide hq
    have HB := hide hb
    have HR := hide hr
    have hj : j ≤ 3 := by omega
    clear hq hb hr K_p p0 p1 p2
    by_cases hlt : j < 3
    · have hji : (j : Int) < 3 := by omega
      have hx := HI.out j hlt
      have HSJ := hide (HSP.out j hlt)
      have HNJ := hide (HNO.out j hlt)
      have hzj := HZ.out j hlt
      obtain ⟨s, hs⟩ : ∃ s, a j = s := ⟨_, rfl⟩
      rw [hs] at hx HSJ HNJ hzj
      have HSS := hide hs
      obtain ⟨n, hn⟩ : ∃ n, (numL s.data.toList).length = n := ⟨_, rfl⟩
      obtain ⟨m, hm⟩ : ∃ n, (denL s.data.toList).length = n := ⟨_, rfl⟩
      have s1 : (⟨(numL s.data.toList).toArray⟩ : ByteArray).size = n := by rw [Lib.size_eq]; exact hn
      have s2 : (⟨(denL s.data.toList).toArray⟩ : ByteArray).size = m := by rw [Lib.size_eq]; exact hm
      obtain ⟨N, hN⟩ : ∃ N : ByteArray, (⟨(numL s.data.toList).toArray⟩ : ByteArray) = N := ⟨_, rfl⟩
      obtain ⟨M, hM⟩ : ∃ N : ByteArray, (⟨(denL s.data.toList).toArray⟩ : ByteArray) = N := ⟨_, rfl⟩
      rw [hN] at s1 HSJ
      rw [hM] at s2 HSJ
      have hpl : pl1 s = (decide (s.size ≤ 12) && (decide (n ≤ 8) && decide (m ≤ 8))) := by unfold pl1; rw [hn, hm]
      have HPL := hide hpl
      clear hs hn hm hN hM hpl
      by_cases c1 : 12 < s.size
      · have hRf := HNJ.out (by rw [HPL.out]; simp; omega)
        subst hRf
        go_wp2_with fail
        refine (HSJ.out _).mono ?_
        rintro e w2 ⟨rfl, hb2⟩
        have HB2 := hide (HB.out.trans (hb2.mono HB.out.size))
        clear hb2
        go_wp2_with fail
        go_ret
        exact ⟨rfl, HB2.out⟩
      · by_cases c2 : 8 < n
        · have hRf := HNJ.out (by rw [HPL.out]; simp; omega)
          subst hRf
          go_wp2_with fail
          refine (HSJ.out _).mono ?_
          rintro e w2 ⟨rfl, hb2⟩
          have HB2 := hide (HB.out.trans (hb2.mono HB.out.size))
          clear hb2
          go_wp2_with fail
          go_ret
          exact ⟨rfl, HB2.out⟩
        · by_cases c3 : 8 < m
          · have hRf := HNJ.out (by rw [HPL.out]; simp; omega)
            subst hRf
            go_wp2_with fail
            refine (HSJ.out _).mono ?_
            rintro e w2 ⟨rfl, hb2⟩
            have HB2 := hide (HB.out.trans (hb2.mono HB.out.size))
            clear hb2
            go_wp2_with fail
            go_ret
            exact ⟨rfl, HB2.out⟩
          · go_wp2_with fail
            refine (HSJ.out _).mono ?_
            rintro e w2 ⟨rfl, hb2⟩
            have HB2 := hide (HB.out.trans (hb2.mono HB.out.size))
            clear hb2
            go_wp2_with fail
            go_roundg (gk - 1)
            case measure => have := HQ.out; omega
            case rel => exact ⟨j + 1, by go_num, by have := HQ.out; omega, HB2.out, fun i hi => by
  rcases (by omega : i < j ∨ i = j) with h | h
  · exact HR.out i h
  · subst h; rw [HSS.out, HPL.out]; simp; omega⟩
    · have hji : ¬ (j : Int) < 3 := by omega
      have hRt := HYE.out (fun i hi => HR.out i (by omega))
      subst hRt
      go_wp2_with fail
      go_ret
      exact ⟨rfl, HB.out⟩
theorem lenD {d k : Nat} (h : (Lib.decDigits d).length ≤ k) (hk : 1 ≤ k) : d < 10 ^ k := (dec_length_le hk).1 h
theorem short12 {q : Rat} (hl : (RT q).length ≤ 12) : Sz 12 12 q := by
  unfold RT at hl
  split at hl
  · rename_i h1
    have h2 : (Lib.decDigits q.num.natAbs).length ≤ 12 := by rw [T_length] at hl; omega
    exact ⟨lenD h2 (by omega), by rw [h1]; exact Nat.pow_pos (by omega)⟩
  · rw [List.length_append, List.length_cons, T_length] at hl
    exact ⟨lenD (by omega) (by omega), Nat.le_of_lt (lenD (by omega) (by omega))⟩
theorem sz_zero (m : Nat) : Sz m m 0 := ⟨by show 0 < 10 ^ m; exact Nat.pow_pos (by omega), by show 1 ≤ 10 ^ m; exact Nat.pow_pos (by omega)⟩
theorem powU {n m : Nat} (h : n ≤ m) : 10 ^ n ≤ 10 ^ m := Nat.pow_le_pow_right (by omega) h
theorem pow2U {a b c : Nat} (h : a * b ≤ c) : (10 ^ a) ^ b ≤ 10 ^ c := by
  rw [← Nat.pow_mul]
  exact powU h
theorem dens_pow {x y z k : Nat} (hx : x ≤ 10 ^ 12) (hy : y ≤ 10 ^ 12) (hz : z ≤ 10 ^ 12) (h1 : 0 < x) (h2 : 0 < y) (h3 : 0 < z) (hk : k ≤ 12) : (x * y * z) ^ k ≤ 10 ^ 499 := by
  have h : x * y * z ≤ 10 ^ 36 := by
    have := Nat.mul_le_mul (Nat.mul_le_mul hx hy) hz
    rwa [← Nat.pow_add, ← Nat.pow_add] at this
  have hp : 0 < x * y * z := Nat.mul_pos (Nat.mul_pos h1 h2) h3
  have a := Nat.pow_le_pow_right hp hk
  have b := Nat.pow_le_pow_left h 12
  exact Nat.le_trans a (Nat.le_trans b (pow2U (a := 36) (b := 12) (c := 499) (by omega)))
def AfP (W : World) (R : Nat → ByteArray) (z : Int) (e : Ending) (w' : World) : Prop := e = .returned (.tuple #[.agg #[.string (R 0), .string (R 1), .string (R 2), .string (R 3)], .int .i64 z]) ∧ Below W.heap.size W w'
theorem aft_both (a : Nat → ByteArray) (n : Int) (hz : ∀ j, j < 3 → (a j).size ≤ 12) (hn : ¬ (12 < n ∧ n ≤ 30)) : ∃ (R : Nat → ByteArray) (z : Int),
    (∀ W, Std W → Calls Tryz.prog 33 #[.agg #[.string (a 0), .string (a 1), .string (a 2)], .int .i64 n] W (AfP W R z)) ∧
    (∀ W, Calls Tryz.prog 34 #[.agg #[.string (a 0), .string (a 1), .string (a 2)], .int .i64 n] W (AfP W R z)) := by
  have hck1 : ∀ j, j < 3 → ∀ W, Std W → Calls Tryz.prog 101 #[.string (a j)] W fun e w' => e = .returned (.int .i64 (chkR (a j).data.toList)) ∧ Below W.heap.size W w' := fun j hj W hS => rcheck_any W (a j) _ rfl (by have := hz j hj; omega) hS
  have hck2 : ∀ j, j < 3 → ∀ W, Calls Tryz.prog 35 #[.string (a j)] W fun e w' => e = .returned (.int .i64 (chkR (a j).data.toList)) ∧ Below W.heap.size W w' := fun j hj W => rrcheck_any W (a j) _ rfl (by have := hz j hj; omega)
  by_cases hF : firstE (fun j => chkR (a j).data.toList) = 0
  · have h0 := zero_firstE hF
    have hq : ∀ j, j < 3 → ∃ q, (a j).data.toList = RT q ∧ Fit q := fun j hj => chkR_zero (h0 j hj)
    obtain ⟨q0, e0, f0⟩ := hq 0 (by omega)
    obtain ⟨q1, e1, f1⟩ := hq 1 (by omega)
    obtain ⟨q2, e2, f2⟩ := hq 2 (by omega)
    obtain ⟨c, hc⟩ : ∃ c : Nat → Rat, c = fun j => if j = 0 then q0 else if j = 1 then q1 else q2 := ⟨_, rfl⟩
    have hc3 : ∀ j, c j = q0 ∨ c j = q1 ∨ c j = q2 := fun j => by
      rw [hc]; dsimp only
      split
      · exact .inl rfl
      · split
        · exact .inr (.inl rfl)
        · exact .inr (.inr rfl)
    have ha : ∀ j, j < 3 → (a j).data.toList = RT (c j) := fun j hj => by
      rw [hc]
      rcases (by omega : j = 0 ∨ j = 1 ∨ j = 2) with rfl | rfl | rfl
      · exact e0
      · exact e1
      · exact e2
    have hsz : ∀ j, j < 3 → Sz 12 12 (c j) := fun j hj => short12 (by rw [← ha j hj, ← Lib.size_eq]; exact hz j hj)
    have hfit : ∀ j, j < 3 → Fit (c j) := fun j hj => (hsz j hj).fit (by omega) (by omega)
    have hgv := fun (W : World) (hS : Std W) => given_any W c a ha (fun j hj => by have := hz j hj; omega) hfit hS
    have hck3 : ∀ j, j < 3 → ∀ W, Calls Tryz.prog 35 #[.string (a j)] W fun e w' => e = .returned (.int .i64 0) ∧ Below W.heap.size W w' := fun j hj W => by have h := hck2 j hj W; rw [h0 j hj] at h; exact h
    have ho0 : ∀ j, j < 3 → ∀ W, Calls Tryz.prog 36 #[.string (a j), .string ⟨#[48]⟩] W fun e w' => e = .returned (.int .i64 (c j).num.sign) ∧ Below W.heap.size W w' := fun j hj W => by
      have h := rqorder_any W (a j) ⟨#[48]⟩ (c j) 0 (ha j hj) RT_zero.symm (m := 12) (by omega) (hsz j hj) (sz_zero 12)
      rw [show ((c j).num * ((0 : Rat).den : Int) - (0 : Rat).num * ((c j).den : Int)) = (c j).num by simp] at h
      exact h
    have ho1 : ∀ j, j < 3 → ∀ W, Calls Tryz.prog 36 #[.string (a j), .string ⟨#[49]⟩] W fun e w' => e = .returned (.int .i64 ((c j).num - ((c j).den : Int)).sign) ∧ Below W.heap.size W w' := fun j hj W => by
      have h := rqorder_any W (a j) ⟨#[49]⟩ (c j) 1 (ha j hj) RT_one.symm (m := 12) (by omega) (hsz j hj) (sz_one (by omega))
      rw [show ((c j).num * ((1 : Rat).den : Int) - (1 : Rat).num * ((c j).den : Int)) = (c j).num - ((c j).den : Int) by simp] at h
      exact h
    by_cases hr : ∀ j, j < 3 → 0 ≤ c j ∧ c j ≤ 1
    · rw [badE_in hr] at hgv
      have hsn : ∀ j, j < 3 → ¬ (c j).num.sign < 0 := fun j hj h => num_sign.1 h (hr j hj).1
      have htn : ∀ j, j < 3 → ¬ 0 < ((c j).num - ((c j).den : Int)).sign := fun j hj h => one_sign.1 h (hr j hj).2
      by_cases hb : n < 0 ∨ 30 < n
      · refine ⟨fun _ => ⟨#[]⟩, 2, fun W hS => swaft_lots W _ _ _ n hb (fun W hS => hgv W hS) hS, fun W => raft_lots W a _ _ hck3 ho0 ho1 hsn htn n hb⟩
      · obtain ⟨k, rfl⟩ : ∃ k : Nat, n = (k : Int) := ⟨n.toNat, by omega⟩
        have hk : k ≤ 12 := by omega
        have hg : GrC ((c 0).den * (c 1).den * (c 2).den) k c := by
          have h01 : ∀ m, 0 ≤ c m ∧ c m ≤ 1 := fun m => by
            have a0 := hr 0 (by omega)
            have a1 := hr 1 (by omega)
            have a2 := hr 2 (by omega)
            rw [hc] at a0 a1 a2
            rcases hc3 m with e | e | e <;> rw [e]
            · exact a0
            · exact a1
            · exact a2
          refine grC_of (fun m => (h01 m).1) (fun m => (h01 m).2) ?_
          exact dens_pow (hsz 0 (by omega)).2 (hsz 1 (by omega)).2 (hsz 2 (by omega)).2 (c 0).den_pos (c 1).den_pos (c 2).den_pos hk
        refine ⟨fun j => ⟨(RT (modeQ c k j)).toArray⟩, 0, fun W hS => ?_, fun W => raft_any W a _ _ hck3 ho0 ho1 hsn htn c _ k ha hk hg⟩
        have hw : ∀ j, j < 3 → a j = ⟨(RT (c j)).toArray⟩ := fun j hj => by
          apply ByteArray.ext; apply Array.ext'; rw [ha j hj]
        have h := swaft_any W c k _ (by omega) hg
        rw [← hw 0 (by omega), ← hw 1 (by omega), ← hw 2 (by omega)] at h
        exact h (fun W hS => hgv W hS) hS
    · rw [badE_out hr] at hgv
      exact ⟨fun _ => ⟨#[]⟩, 2, fun W hS => swaft_bad W _ _ _ n 2 (by omega) (fun W hS => hgv W hS) hS, fun W => raft_rng W a _ _ hck3 ho0 ho1 (badE_out hr) n⟩
  · exact ⟨fun _ => ⟨#[]⟩, _, fun W hS => swaft_bad W _ _ _ n _ hF (fun W hS => given_chk W a _ hck1 hF hS) hS, fun W => raft_chk W a _ hck2 hF n⟩
set_option maxRecDepth 100000 in
set_option maxHeartbeats 4000000 in
theorem chances55_any (w : World) (t0 t1 t2 : ByteArray) (lots : Int) (hz0 : t0.size ≤ maxLen) (hz1 : t1.size ≤ maxLen) (hz2 : t2.size ≤ maxLen) (hs : Std w) :
    Calls Tryz.prog 6 #[.agg #[.string t0, .string t1, .string t2], .int .i64 lots] w fun e w' => e = .returned (.bool true) ∧ Below w.heap.size w w' := by
  unfold maxLen at hz0 hz1 hz2
  obtain ⟨a, ha⟩ : ∃ a : Nat → ByteArray, a = fun j => if j = 0 then t0 else if j = 1 then t1 else t2 := ⟨_, rfl⟩
  have a0 : t0 = a 0 := by rw [ha]; rfl
  have a1 : t1 = a 1 := by rw [ha]; rfl
  have a2 : t2 = a 2 := by rw [ha]; rfl
  have hz : ∀ j, j < 3 → (a j).size ≤ 9223372036854775807 := fun j hj => by
    rcases (by omega : j = 0 ∨ j = 1 ∨ j = 2) with rfl | rfl | rfl
    · rw [← a0]; omega
    · rw [← a1]; omega
    · rw [← a2]; omega
  rw [a0, a1, a2]
  clear ha a0 a1 a2 hz0 hz1 hz2
  have HS := hide hs
  have HPL := hide (fun W => rplain_any W a hz)
  have HSZ := hide (fun h => plB_size (a := a) h)
  obtain ⟨p, hp⟩ : ∃ p, plB a = p := ⟨_, rfl⟩
  rw [hp] at HPL HSZ
  have HAW := hide (fun W hS => awake55_any W hS)
  clear hs hz hp
  cases p with
  | false =>
    have HB := allocs_below w [.cells #[.string (a 0), .string (a 1), .string (a 2)] 66]
    have K_p : Blk (allocs w [.cells #[.string (a 0), .string (a 1), .string (a 2)] 66]) (w.heap.size + 0) 66 #[.string (a 0), .string (a 1), .string (a 2)] := allocs_at w [.cells #[.string (a 0), .string (a 1), .string (a 2)] 66] 0 rfl
    unfold allocs at HB K_p
    simp only [List.foldl_cons, List.foldl_nil] at HB K_p
    rw [Nat.add_zero] at K_p
    go_enter Tryz.func6, Tryz.ntmps6
    go_upto_region 1 with (fail)
    generalize (w.alloc (.cells #[.string (a 0), .string (a 1), .string (a 2)] 66)) = w0 at *
    replace K_p := hide K_p
    replace HB := hide HB
    have p0 := (Blk.cell K_p.out 0).trans (rfl : _ = some (Value.string (a 0)))
    have p1 := (Blk.cell K_p.out 1).trans (rfl : _ = some (Value.string (a 1)))
    have p2 := (Blk.cell K_p.out 2).trans (rfl : _ = some (Value.string (a 2)))
    go_wp2_with fail
    refine (HPL.out _).mono ?_
    rintro e w1 ⟨rfl, hb⟩
    clear p0 p1 p2
    replace K_p := hide (Blk.below K_p.out hb (Blk.lt K_p.out))
    replace HB := hide (HB.out.trans (hb.mono HB.out.size))
    clear hb
    go_wp2_with fail
    refine (HAW.out _ (HS.out.below HB.out (Nat.le_refl _))).mono ?_
    rintro e w2 ⟨rfl, hb⟩
    replace K_p := hide (Blk.below K_p.out hb (Blk.lt K_p.out))
    replace HB := hide (HB.out.trans (hb.mono HB.out.size))
    clear hb
    go_wp2_with fail
    go_ret
    exact ⟨rfl, HB.out⟩
  | true =>
    by_cases hl : 12 < lots
    · by_cases hl2 : lots ≤ 30
      · have HB := allocs_below w [.cells #[.string (a 0), .string (a 1), .string (a 2)] 66]
        have K_p : Blk (allocs w [.cells #[.string (a 0), .string (a 1), .string (a 2)] 66]) (w.heap.size + 0) 66 #[.string (a 0), .string (a 1), .string (a 2)] := allocs_at w [.cells #[.string (a 0), .string (a 1), .string (a 2)] 66] 0 rfl
        unfold allocs at HB K_p
        simp only [List.foldl_cons, List.foldl_nil] at HB K_p
        rw [Nat.add_zero] at K_p
        go_enter Tryz.func6, Tryz.ntmps6
        go_upto_region 1 with (fail)
        generalize (w.alloc (.cells #[.string (a 0), .string (a 1), .string (a 2)] 66)) = w0 at *
        replace K_p := hide K_p
        replace HB := hide HB
        have p0 := (Blk.cell K_p.out 0).trans (rfl : _ = some (Value.string (a 0)))
        have p1 := (Blk.cell K_p.out 1).trans (rfl : _ = some (Value.string (a 1)))
        have p2 := (Blk.cell K_p.out 2).trans (rfl : _ = some (Value.string (a 2)))
        go_wp2_with fail
        refine (HPL.out _).mono ?_
        rintro e w1 ⟨rfl, hb⟩
        clear p0 p1 p2
        replace K_p := hide (Blk.below K_p.out hb (Blk.lt K_p.out))
        replace HB := hide (HB.out.trans (hb.mono HB.out.size))
        clear hb
        go_wp2_with fail
        refine (HAW.out _ (HS.out.below HB.out (Nat.le_refl _))).mono ?_
        rintro e w2 ⟨rfl, hb⟩
        replace K_p := hide (Blk.below K_p.out hb (Blk.lt K_p.out))
        replace HB := hide (HB.out.trans (hb.mono HB.out.size))
        clear hb
        go_wp2_with fail
        go_ret
        exact ⟨rfl, HB.out⟩
      · obtain ⟨R, z, h1, h2⟩ := aft_both a lots (HSZ.out rfl) (by omega)
        have H1 := hide h1
        have H2 := hide h2
        clear h1 h2
        unfold AfP at H1 H2
        have HB := allocs_below w [.cells #[.string (a 0), .string (a 1), .string (a 2)] 66]
        have K_p : Blk (allocs w [.cells #[.string (a 0), .string (a 1), .string (a 2)] 66]) (w.heap.size + 0) 66 #[.string (a 0), .string (a 1), .string (a 2)] := allocs_at w [.cells #[.string (a 0), .string (a 1), .string (a 2)] 66] 0 rfl
        unfold allocs at HB K_p
        simp only [List.foldl_cons, List.foldl_nil] at HB K_p
        rw [Nat.add_zero] at K_p
        go_enter Tryz.func6, Tryz.ntmps6
        go_upto_region 1 with (fail)
        generalize (w.alloc (.cells #[.string (a 0), .string (a 1), .string (a 2)] 66)) = w0 at *
        replace K_p := hide K_p
        replace HB := hide HB
        have p0 := (Blk.cell K_p.out 0).trans (rfl : _ = some (Value.string (a 0)))
        have p1 := (Blk.cell K_p.out 1).trans (rfl : _ = some (Value.string (a 1)))
        have p2 := (Blk.cell K_p.out 2).trans (rfl : _ = some (Value.string (a 2)))
        go_wp2_with fail
        refine (HPL.out _).mono ?_
        rintro e w1 ⟨rfl, hb⟩
        clear p0 p1 p2
        replace K_p := hide (Blk.below K_p.out hb (Blk.lt K_p.out))
        replace HB := hide (HB.out.trans (hb.mono HB.out.size))
        clear hb
        have p0 := (Blk.cell K_p.out 0).trans (rfl : _ = some (Value.string (a 0)))
        have p1 := (Blk.cell K_p.out 1).trans (rfl : _ = some (Value.string (a 1)))
        have p2 := (Blk.cell K_p.out 2).trans (rfl : _ = some (Value.string (a 2)))
        go_wp2_with fail
        refine (H1.out _ (HS.out.below HB.out (Nat.le_refl _))).mono ?_
        rintro e w2 ⟨rfl, hb⟩
        clear p0 p1 p2
        replace K_p := hide (Blk.below K_p.out hb (Blk.lt K_p.out))
        replace HB := hide (HB.out.trans (hb.mono HB.out.size))
        clear hb
        go_upto_region 4 with (fail)
        have hbs_x : w.heap.size ≤ w2.heap.size := HB.out.size
        have lt_x_p : w.heap.size < w2.heap.size := Blk.lt K_p.out
        replace K_p := K_p.out.alloc (.cells #[.string (R 0), .string (R 1), .string (R 2), .string (R 3)] 68)
        replace HB := HB.out.alloc HB.out.size (.cells #[.string (R 0), .string (R 1), .string (R 2), .string (R 3)] 68)
        have K_x := Blk.new w2 68 #[.string (R 0), .string (R 1), .string (R 2), .string (R 3)]
        generalize w2.alloc (.cells #[.string (R 0), .string (R 1), .string (R 2), .string (R 3)] 68) = w3 at *
        replace K_p := hide K_p
        replace K_x := hide K_x
        replace HB := hide HB
        have p0 := (Blk.cell K_p.out 0).trans (rfl : _ = some (Value.string (a 0)))
        have p1 := (Blk.cell K_p.out 1).trans (rfl : _ = some (Value.string (a 1)))
        have p2 := (Blk.cell K_p.out 2).trans (rfl : _ = some (Value.string (a 2)))
        go_wp2_with fail
        refine (H2.out _).mono ?_
        rintro e w4 ⟨rfl, hb⟩
        clear p0 p1 p2
        replace K_p := hide (Blk.below K_p.out hb (Blk.lt K_p.out))
        replace K_x := hide (Blk.below K_x.out hb (Blk.lt K_x.out))
        replace HB := hide (HB.out.trans (hb.mono HB.out.size))
        clear hb
        go_upto_region 5 with (fail)
        have hbs_y : w.heap.size ≤ w4.heap.size := HB.out.size
        have lt_y_p : w.heap.size < w4.heap.size := Blk.lt K_p.out
        have lt_y_x : w2.heap.size < w4.heap.size := Blk.lt K_x.out
        replace K_p := K_p.out.alloc (.cells #[.string (R 0), .string (R 1), .string (R 2), .string (R 3)] 68)
        replace K_x := K_x.out.alloc (.cells #[.string (R 0), .string (R 1), .string (R 2), .string (R 3)] 68)
        replace HB := HB.out.alloc HB.out.size (.cells #[.string (R 0), .string (R 1), .string (R 2), .string (R 3)] 68)
        have K_y := Blk.new w4 68 #[.string (R 0), .string (R 1), .string (R 2), .string (R 3)]
        generalize w4.alloc (.cells #[.string (R 0), .string (R 1), .string (R 2), .string (R 3)] 68) = w5 at *
        replace K_p := hide K_p
        replace K_x := hide K_x
        replace K_y := hide K_y
        replace HB := hide HB
        go_wp2_with fail
        go_loopg [34] 4 (fun y iv wr => ∃ j : Nat, iv = .int .i64 (j : Int) ∧ y + j = 4 ∧ Below w5.heap.size w5 wr)
        case atStart => exact ⟨0, rfl, rfl, Below.refl _ _⟩
        case round =>
          obtain ⟨j, rfl, hq, hb⟩ := hrel
          obtain ⟨W1, rfl⟩ : ∃ W, W = wr := ⟨_, rfl⟩
          have HQ := hide hq
          have HBL := hide hb
          have hj : j ≤ 4 := by omega
          have HBW := hide (HB.out.trans (hb.mono HB.out.size))
          clear hq hb
          by_cases hlt : j < 4
          · have hji : (j : Int) < 4 := by omega
            have hj0 : (0 : Int) ≤ (j : Int) := by omega
            have hx : ∃ u : ByteArray, W1.cell? ⟨w2.heap.size, j, none⟩ = some (.string u) ∧ W1.cell? ⟨w4.heap.size, j, none⟩ = some (.string u) := by
              have kx := Blk.below K_x.out HBL.out (Blk.lt K_x.out)
              have ky := Blk.below K_y.out HBL.out (Blk.lt K_y.out)
              rcases (by omega : j = 0 ∨ j = 1 ∨ j = 2 ∨ j = 3) with rfl | rfl | rfl | rfl <;> exact ⟨_, (Blk.cell kx _).trans rfl, (Blk.cell ky _).trans rfl⟩
            obtain ⟨u, hx1, hx2⟩ := hx
            go_upto_region 8 with (fail)
            go_region
            all_goals (
              go_wp2_with fail
              go_roundg (gk - 1)
              case measure => have := HQ.out; omega
              case rel => exact ⟨j + 1, by go_num, by have := HQ.out; omega, HBL.out.drew⟩
            )
          · have hji : ¬ (j : Int) < 4 := by omega
            go_wp2_with fail
            refine (HAW.out _ (HS.out.below HBW.out (Nat.le_refl _))).mono ?_
            rintro e w6 ⟨rfl, hb⟩
            have HX := hide (HBW.out.trans (hb.mono HBW.out.size))
            clear hb
            go_wp2_with fail
            go_ret
            exact ⟨rfl, HX.out⟩
    · obtain ⟨R, z, h1, h2⟩ := aft_both a lots (HSZ.out rfl) (by omega)
      have H1 := hide h1
      have H2 := hide h2
      clear h1 h2
      unfold AfP at H1 H2
      have HB := allocs_below w [.cells #[.string (a 0), .string (a 1), .string (a 2)] 66]
      have K_p : Blk (allocs w [.cells #[.string (a 0), .string (a 1), .string (a 2)] 66]) (w.heap.size + 0) 66 #[.string (a 0), .string (a 1), .string (a 2)] := allocs_at w [.cells #[.string (a 0), .string (a 1), .string (a 2)] 66] 0 rfl
      unfold allocs at HB K_p
      simp only [List.foldl_cons, List.foldl_nil] at HB K_p
      rw [Nat.add_zero] at K_p
      go_enter Tryz.func6, Tryz.ntmps6
      go_upto_region 1 with (fail)
      generalize (w.alloc (.cells #[.string (a 0), .string (a 1), .string (a 2)] 66)) = w0 at *
      replace K_p := hide K_p
      replace HB := hide HB
      have p0 := (Blk.cell K_p.out 0).trans (rfl : _ = some (Value.string (a 0)))
      have p1 := (Blk.cell K_p.out 1).trans (rfl : _ = some (Value.string (a 1)))
      have p2 := (Blk.cell K_p.out 2).trans (rfl : _ = some (Value.string (a 2)))
      go_wp2_with fail
      refine (HPL.out _).mono ?_
      rintro e w1 ⟨rfl, hb⟩
      clear p0 p1 p2
      replace K_p := hide (Blk.below K_p.out hb (Blk.lt K_p.out))
      replace HB := hide (HB.out.trans (hb.mono HB.out.size))
      clear hb
      have p0 := (Blk.cell K_p.out 0).trans (rfl : _ = some (Value.string (a 0)))
      have p1 := (Blk.cell K_p.out 1).trans (rfl : _ = some (Value.string (a 1)))
      have p2 := (Blk.cell K_p.out 2).trans (rfl : _ = some (Value.string (a 2)))
      go_wp2_with fail
      refine (H1.out _ (HS.out.below HB.out (Nat.le_refl _))).mono ?_
      rintro e w2 ⟨rfl, hb⟩
      clear p0 p1 p2
      replace K_p := hide (Blk.below K_p.out hb (Blk.lt K_p.out))
      replace HB := hide (HB.out.trans (hb.mono HB.out.size))
      clear hb
      go_upto_region 4 with (fail)
      have hbs_x : w.heap.size ≤ w2.heap.size := HB.out.size
      have lt_x_p : w.heap.size < w2.heap.size := Blk.lt K_p.out
      replace K_p := K_p.out.alloc (.cells #[.string (R 0), .string (R 1), .string (R 2), .string (R 3)] 68)
      replace HB := HB.out.alloc HB.out.size (.cells #[.string (R 0), .string (R 1), .string (R 2), .string (R 3)] 68)
      have K_x := Blk.new w2 68 #[.string (R 0), .string (R 1), .string (R 2), .string (R 3)]
      generalize w2.alloc (.cells #[.string (R 0), .string (R 1), .string (R 2), .string (R 3)] 68) = w3 at *
      replace K_p := hide K_p
      replace K_x := hide K_x
      replace HB := hide HB
      have p0 := (Blk.cell K_p.out 0).trans (rfl : _ = some (Value.string (a 0)))
      have p1 := (Blk.cell K_p.out 1).trans (rfl : _ = some (Value.string (a 1)))
      have p2 := (Blk.cell K_p.out 2).trans (rfl : _ = some (Value.string (a 2)))
      go_wp2_with fail
      refine (H2.out _).mono ?_
      rintro e w4 ⟨rfl, hb⟩
      clear p0 p1 p2
      replace K_p := hide (Blk.below K_p.out hb (Blk.lt K_p.out))
      replace K_x := hide (Blk.below K_x.out hb (Blk.lt K_x.out))
      replace HB := hide (HB.out.trans (hb.mono HB.out.size))
      clear hb
      go_upto_region 5 with (fail)
      have hbs_y : w.heap.size ≤ w4.heap.size := HB.out.size
      have lt_y_p : w.heap.size < w4.heap.size := Blk.lt K_p.out
      have lt_y_x : w2.heap.size < w4.heap.size := Blk.lt K_x.out
      replace K_p := K_p.out.alloc (.cells #[.string (R 0), .string (R 1), .string (R 2), .string (R 3)] 68)
      replace K_x := K_x.out.alloc (.cells #[.string (R 0), .string (R 1), .string (R 2), .string (R 3)] 68)
      replace HB := HB.out.alloc HB.out.size (.cells #[.string (R 0), .string (R 1), .string (R 2), .string (R 3)] 68)
      have K_y := Blk.new w4 68 #[.string (R 0), .string (R 1), .string (R 2), .string (R 3)]
      generalize w4.alloc (.cells #[.string (R 0), .string (R 1), .string (R 2), .string (R 3)] 68) = w5 at *
      replace K_p := hide K_p
      replace K_x := hide K_x
      replace K_y := hide K_y
      replace HB := hide HB
      go_wp2_with fail
      go_loopg [34] 4 (fun y iv wr => ∃ j : Nat, iv = .int .i64 (j : Int) ∧ y + j = 4 ∧ Below w5.heap.size w5 wr)
      case atStart => exact ⟨0, rfl, rfl, Below.refl _ _⟩
      case round =>
        obtain ⟨j, rfl, hq, hb⟩ := hrel
        obtain ⟨W1, rfl⟩ : ∃ W, W = wr := ⟨_, rfl⟩
        have HQ := hide hq
        have HBL := hide hb
        have hj : j ≤ 4 := by omega
        have HBW := hide (HB.out.trans (hb.mono HB.out.size))
        clear hq hb
        by_cases hlt : j < 4
        · have hji : (j : Int) < 4 := by omega
          have hj0 : (0 : Int) ≤ (j : Int) := by omega
          have hx : ∃ u : ByteArray, W1.cell? ⟨w2.heap.size, j, none⟩ = some (.string u) ∧ W1.cell? ⟨w4.heap.size, j, none⟩ = some (.string u) := by
            have kx := Blk.below K_x.out HBL.out (Blk.lt K_x.out)
            have ky := Blk.below K_y.out HBL.out (Blk.lt K_y.out)
            rcases (by omega : j = 0 ∨ j = 1 ∨ j = 2 ∨ j = 3) with rfl | rfl | rfl | rfl <;> exact ⟨_, (Blk.cell kx _).trans rfl, (Blk.cell ky _).trans rfl⟩
          obtain ⟨u, hx1, hx2⟩ := hx
          go_upto_region 8 with (fail)
          go_region
          all_goals (
            go_wp2_with fail
            go_roundg (gk - 1)
            case measure => have := HQ.out; omega
            case rel => exact ⟨j + 1, by go_num, by have := HQ.out; omega, HBL.out.drew⟩
          )
        · have hji : ¬ (j : Int) < 4 := by omega
          go_wp2_with fail
          refine (HAW.out _ (HS.out.below HBW.out (Nat.le_refl _))).mono ?_
          rintro e w6 ⟨rfl, hb⟩
          have HX := hide (HBW.out.trans (hb.mono HBW.out.size))
          clear hb
          go_wp2_with fail
          go_ret
          exact ⟨rfl, HX.out⟩
end Go.Proofs.YthmmgjieppknkaaGreatDoor
