/- Contracts and plain laws that the statements of this seat share (part Eaaf). -/
import Derived.Test.YthmmgjieppknkaaGreatDoorEaaa
import Derived.Test.YthmmgjieppknkaaGreatDoorEaab
import Derived.Test.YthmmgjieppknkaaGreatDoorEaac
import Derived.Test.YthmmgjieppknkaaGreatDoorEaad
import Derived.Test.YthmmgjieppknkaaGreatDoorEaae
import Derived.Test.YthmmgjieppknkaaGreatDoorKaa
import Derived.Test.YthmmgjieppknkaaGreatDoorKab
import Derived.Test.YthmmgjieppknkaaGreatDoorKac
import Derived.Test.YthmmgjieppknkaaGreatDoorKad
import Derived.Test.YthmmgjieppknkaaGreatDoorKai
import Derived.Test.YthmmgjieppknkaaGreatDoorKak
import Derived.Test.YthmmgjieppknkaaGreatDoorKal
import Derived.Test.YthmmgjieppknkaaGreatDoorKam
import Derived.Test.YthmmgjieppknkaaGreatDoorKaq
import Derived.Test.YthmmgjieppknkaaGreatDoorKas
import Derived.Test.YthmmgjieppknkaaGreatDoorKat
import Derived.Test.YthmmgjieppknkaaGreatDoorKau
import Derived.Test.YthmmgjieppknkaaGreatDoorKax
import Derived.RangeFuncSeq
import Derived.Lib.ItoaNum
import Derived.Lib.ItoaLen
import Derived.Lib.Atoi
import Derived.Lib.AtoiAll
import Derived.Lib.Strings
import Derived.Lib.SlTrimSet
import Derived.Shelf.Abstract
import Derived.Deep.RegionHeld3
import Derived.Laws.ResultCell
import Derived.ChangeKeysEq
import Derived.DeepKeys
import Derived.Test.YthmmgjieppknkaaGreatDoorChecked
import Derived.WalkKit
import Derived.WalkSpells
import Derived.WalkLawsBesides
import Derived.Lib.Hide
import Derived.IntWalk
import Derived.BigQuiet
import Derived.Deep.QuietTactic
import Derived.Deep.LoopGhost
import Derived.Deep.DeepCutAuto
import Derived.Deep.DeepFit
import Derived.Deep.Light
import Derived.Outline
import Derived.Laws.Rows
import Derived.Laws.NewBlocks
import Derived.Laws.CopyOwn
import Derived.Laws.Tables
import Derived.Deep.RegionWith
import Derived.Deep.RegionLaw
import Derived.RegionTactic
import Derived.Lib.Builder
import Derived.Lib.AppendStr
import Derived.Laws.Externs
import Derived.WalkSmall
import Derived.Lib.AtoiErrMem
import Derived.Shelf.Strings.SlTrimAscii
import Derived.Shelf.Strings.Builder1
import Derived.Shelf.Strings.Trim
import Derived.Shelf.Small.Utf8
import Derived.Shelf.Small.Strs
import Derived.Shelf.Strings.BuilderF
import Derived.Shelf.Strings.BuilderK
import Derived.Shelf.Strconv.Atoi
import Derived.Shelf.Strconv.Itoa0
import Derived.Shelf.Strconv.Itoa1
import Derived.Shelf.LaysM
import Derived.Shelf.Strconv.Itoa2
import Derived.Shelf.Strconv.Itoa3
import Derived.Shelf.Strings.Search1
import Derived.Shelf.Strings.Search2
import Derived.Shelf.Strings.Cut
import Derived.Shelf.Strings.Shaped
import Derived.Shelf.Strings.Prefix
import Derived.Shelf.Strings.Runes
import Derived.Shelf.Strings.AsciiSet
import Derived.Shelf.Bits.Mul64
import Derived.Shelf.Unicode.DecodeSlow
import Derived.Test.YthmmgjieppknkaaGreatDoorProg
import Derived.Maps.OwnOps
import Derived.Deep.RegionHeld
import Derived.RangeFuncNested
import Derived.RangeFuncBox
import Derived.RangeFuncBound
import Derived.RangeFuncCalls
import Derived.RangeFuncLeaves
import Derived.Shelf.RegionOpen
import Derived.OwnWalkIn
import Derived.TacticsInMore
import Derived.LoopNIn
import Derived.LoopIn
import Derived.DeepKeys4
import Derived.Deep.AppendLies
import Derived.Maps.AppendAt
import Derived.OwnWalk
import Derived.Maps.RangeWalk
import Derived.Laws.OwnMore
namespace Go.Proofs.YthmmgjieppknkaaGreatDoor
open Go.RowKit Go.Shelf Go.Maps MLab
def firstE (z : Nat → Int) : Int := if z 0 ≠ 0 then z 0 else if z 1 ≠ 0 then z 1 else z 2
theorem firstE_at {z : Nat → Int} {j : Nat} (hj : j < 3) (h0 : ∀ i, i < j → z i = 0) (h : z j ≠ 0) : firstE z = z j := by
  unfold firstE
  rcases (by omega : j = 0 ∨ j = 1 ∨ j = 2) with rfl | rfl | rfl
  · rw [if_pos h]
  · rw [if_neg (by simp [h0 0 (by omega)]), if_pos h]
  · rw [if_neg (by simp [h0 0 (by omega)]), if_neg (by simp [h0 1 (by omega)])]
theorem firstE_zero {z : Nat → Int} (h : ∀ i, i < 3 → z i = 0) : firstE z = 0 := by
  unfold firstE
  rw [if_neg (by simp [h 0 (by omega)]), if_neg (by simp [h 1 (by omega)]), h 2 (by omega)]
theorem zero_firstE {z : Nat → Int} (h : firstE z = 0) : ∀ i, i < 3 → z i = 0 := by
  unfold firstE at h
  split at h
  · rename_i h1; exact absurd h h1
  · split at h
    · rename_i h1; exact absurd h h1
    · rename_i h0 h1
      intro i hi
      rcases (by omega : i = 0 ∨ i = 1 ∨ i = 2) with rfl | rfl | rfl
      · exact Classical.not_not.1 h0
      · exact Classical.not_not.1 h1
      · exact h
set_option maxRecDepth 100000 in
set_option maxHeartbeats 2000000 in
theorem given_chk (w : World) (a : Nat → ByteArray) (z : Nat → Int) (hck : ∀ j, j < 3 → ∀ W, Std W → Calls Tryz.prog 101 #[.string (a j)] W fun e w' => e = .returned (.int .i64 (z j)) ∧ Below W.heap.size W w') (hz : firstE z ≠ 0) (hs : Std w) :
    Calls Tryz.prog 63 #[.agg #[.string (a 0), .string (a 1), .string (a 2)]] w fun e w' => e = .returned (.int .i64 (firstE z)) ∧ Below w.heap.size w w' := by
  have HI := hide (fun (j : Nat) (hj : j < 3) W => idx_rat (a := a) hj W)
  have HCK := hide hck
  have HZ := hide hz
  have HS := hide hs
  have HF := hide (fun j hj h0 h => firstE_at (z := z) (j := j) hj h0 h)
  have HF0 := hide (fun h => firstE_zero (z := z) h)
  obtain ⟨r, hr⟩ : ∃ r, firstE z = r := ⟨_, rfl⟩
  rw [hr] at HZ HF HF0 ⊢
  clear hck hz hs hr
  have HB := allocs_below w [.cells #[.string (a 0), .string (a 1), .string (a 2)] 66]
  have K_p : Blk (allocs w [.cells #[.string (a 0), .string (a 1), .string (a 2)] 66]) (w.heap.size + 0) 66 #[.string (a 0), .string (a 1), .string (a 2)] := allocs_at w [.cells #[.string (a 0), .string (a 1), .string (a 2)] 66] 0 rfl
  unfold allocs at HB K_p
  simp only [List.foldl_cons, List.foldl_nil] at HB K_p
  rw [Nat.add_zero] at K_p
  go_enter Tryz.func63, Tryz.ntmps63
  go_upto_region 1 with (fail)
  generalize (w.alloc (.cells #[.string (a 0), .string (a 1), .string (a 2)] 66)) = w0 at *
  replace K_p := hide K_p
  replace HB := hide HB
  have p0 := (Blk.cell K_p.out 0).trans (rfl : _ = some (Value.string (a 0)))
  have p1 := (Blk.cell K_p.out 1).trans (rfl : _ = some (Value.string (a 1)))
  have p2 := (Blk.cell K_p.out 2).trans (rfl : _ = some (Value.string (a 2)))
  go_wp2_with fail
  go_loopg [13] 3 (fun y iv wr => ∃ j : Nat, iv = .int .i64 (j : Int) ∧ y + j = 3 ∧ Below w.heap.size w wr ∧ ∀ i, i < j → z i = 0)
  case atStart => exact ⟨0, rfl, rfl, HB.out, fun i hi => absurd hi (by omega)⟩
  case round =>
    obtain ⟨j, rfl, hq, hb, hr⟩ := hrel
    have HQ := hide hq
    have HB := hide hb
    have HR := hide hr
    have hj : j ≤ 3 := by omega
    clear hq hb hr
    by_cases hlt : j < 3
    · have hji : (j : Int) < 3 := by omega
      have hx := HI.out j hlt
      have HCJ := hide (HCK.out j hlt)
      have HFJ := hide (fun h => HF.out j hlt HR.out h)
      obtain ⟨q, hq⟩ : ∃ q, z j = q := ⟨_, rfl⟩
      rw [hq] at HCJ HFJ
      have HQZ := hide hq
      clear hq
      by_cases hq0 : q = 0
      · subst hq0
        go_wp2_with fail
        refine (HCJ.out _ (HS.out.below HB.out (Nat.le_refl _))).mono ?_
        rintro e w2 ⟨rfl, hb2⟩
        have HB2 := hide (HB.out.trans (hb2.mono HB.out.size))
        clear hb2
        go_wp2_with fail
        go_roundg (gk - 1)
        case measure => have := HQ.out; omega
        case rel => exact ⟨j + 1, by go_num, by have := HQ.out; omega, HB2.out, fun i hi => by
  rcases (by omega : i < j ∨ i = j) with h | h
  · exact HR.out i h
  · subst h; exact HQZ.out⟩
      · have hqr := HFJ.out hq0
        subst hqr
        have hq1 : (r == 0) = false := by simpa using hq0
        go_wp2_with fail
        refine (HCJ.out _ (HS.out.below HB.out (Nat.le_refl _))).mono ?_
        rintro e w2 ⟨rfl, hb2⟩
        have HB2 := hide (HB.out.trans (hb2.mono HB.out.size))
        clear hb2
        go_wp2_with fail
        go_ret
        exact ⟨rfl, HB2.out⟩
    · exact absurd (HF0.out fun i hi => HR.out i (by omega)) HZ.out
end Go.Proofs.YthmmgjieppknkaaGreatDoor

namespace Go.Proofs.YthmmgjieppknkaaGreatDoor
open Go.RowKit Go.Shelf Go.Maps MLab
set_option maxRecDepth 100000 in
set_option maxHeartbeats 2000000 in
theorem swaft_bad (w : World) (a0 a1 a2 : ByteArray) (n z : Int) (hz : z ≠ 0) (hgv : ∀ W, Std W → Calls Tryz.prog 63 #[.agg #[.string a0, .string a1, .string a2]] W fun e w' => e = .returned (.int .i64 z) ∧ Below W.heap.size W w') (hs : Std w) :
    Calls Tryz.prog 33 #[.agg #[.string a0, .string a1, .string a2], .int .i64 n] w fun e w' => e = .returned (.tuple #[.agg #[.string ⟨#[]⟩, .string ⟨#[]⟩, .string ⟨#[]⟩, .string ⟨#[]⟩], .int .i64 z]) ∧ Below w.heap.size w w' := by
  have HGV := hide hgv
  have HS := hide hs
  have hz1 : (z == 0) = false := by simpa using hz
  clear hgv hs hz
  have HB := allocs_below w [.cells #[.string a0, .string a1, .string a2] 66, .cells #[.string ⟨#[]⟩, .string ⟨#[]⟩, .string ⟨#[]⟩, .string ⟨#[]⟩] 68]
  have K_p : Blk (allocs w [.cells #[.string a0, .string a1, .string a2] 66, .cells #[.string ⟨#[]⟩, .string ⟨#[]⟩, .string ⟨#[]⟩, .string ⟨#[]⟩] 68]) (w.heap.size + 0) 66 #[.string a0, .string a1, .string a2] := allocs_at w [.cells #[.string a0, .string a1, .string a2] 66, .cells #[.string ⟨#[]⟩, .string ⟨#[]⟩, .string ⟨#[]⟩, .string ⟨#[]⟩] 68] 0 rfl
  have K_r : Blk (allocs w [.cells #[.string a0, .string a1, .string a2] 66, .cells #[.string ⟨#[]⟩, .string ⟨#[]⟩, .string ⟨#[]⟩, .string ⟨#[]⟩] 68]) (w.heap.size + 1) 68 #[.string ⟨#[]⟩, .string ⟨#[]⟩, .string ⟨#[]⟩, .string ⟨#[]⟩] := allocs_at w [.cells #[.string a0, .string a1, .string a2] 66, .cells #[.string ⟨#[]⟩, .string ⟨#[]⟩, .string ⟨#[]⟩, .string ⟨#[]⟩] 68] 1 rfl
  unfold allocs at HB K_p K_r
  simp only [List.foldl_cons, List.foldl_nil] at HB K_p K_r
  rw [Nat.add_zero] at K_p
  go_enter Tryz.func33, Tryz.ntmps33
  go_upto_region 1 with (fail)
  generalize ((w.alloc (.cells #[.string a0, .string a1, .string a2] 66)).alloc (.cells #[.string ⟨#[]⟩, .string ⟨#[]⟩, .string ⟨#[]⟩, .string ⟨#[]⟩] 68)) = w0 at *
  replace K_p := hide K_p
  replace K_r := hide K_r
  replace HB := hide HB
  have p0 := (Blk.cell K_p.out 0).trans (rfl : _ = some (Value.string a0))
  have p1 := (Blk.cell K_p.out 1).trans (rfl : _ = some (Value.string a1))
  have p2 := (Blk.cell K_p.out 2).trans (rfl : _ = some (Value.string a2))
  go_wp2_with fail
  refine (HGV.out _ (HS.out.below HB.out (Nat.le_refl _))).mono ?_
  rintro e w1 ⟨rfl, hb⟩
  clear p0 p1 p2
  replace K_p := hide (Blk.below K_p.out hb (Blk.lt K_p.out))
  replace K_r := hide (Blk.below K_r.out hb (Blk.lt K_r.out))
  replace HB := hide (HB.out.trans (hb.mono HB.out.size))
  clear hb
  clear HGV
  have r0 := (Blk.cell K_r.out 0).trans (rfl : _ = some (Value.string ⟨#[]⟩))
  have rf0 := Blk.frozen K_r.out 0
  have r1 := (Blk.cell K_r.out 1).trans (rfl : _ = some (Value.string ⟨#[]⟩))
  have rf1 := Blk.frozen K_r.out 1
  have r2 := (Blk.cell K_r.out 2).trans (rfl : _ = some (Value.string ⟨#[]⟩))
  have rf2 := Blk.frozen K_r.out 2
  have r3 := (Blk.cell K_r.out 3).trans (rfl : _ = some (Value.string ⟨#[]⟩))
  have rf3 := Blk.frozen K_r.out 3
  go_wp2_with fail
  have rc0 := (Blk.cell ((((K_r.out.set_ 0 (.string ⟨#[]⟩)).set_ 1 (.string ⟨#[]⟩)).set_ 2 (.string ⟨#[]⟩)).set_ 3 (.string ⟨#[]⟩)) 0).trans (rfl : _ = some (Value.string ⟨#[]⟩))
  have rc1 := (Blk.cell ((((K_r.out.set_ 0 (.string ⟨#[]⟩)).set_ 1 (.string ⟨#[]⟩)).set_ 2 (.string ⟨#[]⟩)).set_ 3 (.string ⟨#[]⟩)) 1).trans (rfl : _ = some (Value.string ⟨#[]⟩))
  have rc2 := (Blk.cell ((((K_r.out.set_ 0 (.string ⟨#[]⟩)).set_ 1 (.string ⟨#[]⟩)).set_ 2 (.string ⟨#[]⟩)).set_ 3 (.string ⟨#[]⟩)) 2).trans (rfl : _ = some (Value.string ⟨#[]⟩))
  have rc3 := (Blk.cell ((((K_r.out.set_ 0 (.string ⟨#[]⟩)).set_ 1 (.string ⟨#[]⟩)).set_ 2 (.string ⟨#[]⟩)).set_ 3 (.string ⟨#[]⟩)) 3).trans (rfl : _ = some (Value.string ⟨#[]⟩))
  exact bodyPost_ret (v := .tuple #[.agg #[.string ⟨#[]⟩, .string ⟨#[]⟩, .string ⟨#[]⟩, .string ⟨#[]⟩], .int .i64 z]) (by simp [results, Tryz.results33, go_sem, rc0, rc1, rc2, rc3]) rfl ⟨rfl, ((((HB.out.setCell (p := ⟨(w.heap.size + 1), 0, none⟩) (by show w.heap.size ≤ (w.heap.size + 1); omega) (.string ⟨#[]⟩)).setCell (p := ⟨(w.heap.size + 1), 1, none⟩) (by show w.heap.size ≤ (w.heap.size + 1); omega) (.string ⟨#[]⟩)).setCell (p := ⟨(w.heap.size + 1), 2, none⟩) (by show w.heap.size ≤ (w.heap.size + 1); omega) (.string ⟨#[]⟩)).setCell (p := ⟨(w.heap.size + 1), 3, none⟩) (by show w.heap.size ≤ (w.heap.size + 1); omega) (.string ⟨#[]⟩))⟩
end Go.Proofs.YthmmgjieppknkaaGreatDoor

namespace Go.Proofs.YthmmgjieppknkaaGreatDoor
open Go.RowKit Go.Shelf Go.Maps MLab
theorem badE_out {c : Nat → Rat} (h : ¬ ∀ j, j < 3 → 0 ≤ c j ∧ c j ≤ 1) : badE (fun j => (c j).num.sign) (fun j => ((c j).num - ((c j).den : Int)).sign) = 2 := by
  have : ∃ j, j < 3 ∧ ¬ (0 ≤ c j ∧ c j ≤ 1) := by
    refine Classical.byContradiction fun hn => h fun j hj => Classical.byContradiction fun h2 => hn ⟨j, hj, h2⟩
  obtain ⟨j, hj, h2⟩ := this
  refine badE_at hj ?_
  by_cases h3 : 0 ≤ c j
  · exact .inr (one_sign.2 fun h4 => h2 ⟨h3, h4⟩)
  · exact .inl (num_sign.2 h3)
end Go.Proofs.YthmmgjieppknkaaGreatDoor

namespace Go.Proofs.YthmmgjieppknkaaGreatDoor
open Go.RowKit Go.Shelf Go.Maps MLab
set_option maxRecDepth 100000 in
set_option maxHeartbeats 1000000 in
theorem rslashL_any (w : World) (s : ByteArray) (l : List UInt8) (hl : s.data.toList = l) (hsz : s.size ≤ 9223372036854775807) :
    Calls Tryz.prog 70 #[.string s] w fun e w' => e = .returned (.int .i64 (slR l)) ∧ w = w' := by
  have hlen : s.size = l.length := by rw [Lib.size_eq, hl]
  have HL := hide hl
  have HLEN := hide hlen
  clear hl hlen
  go_enter Tryz.func70, Tryz.ntmps70
  go_wp2_with fail
  go_loopg [3] s.size (fun q iv wr => ∃ j : Nat, iv = .int .i64 (j : Int) ∧ q + j = s.size ∧ (∀ k, k < j → l[k]? ≠ some 47) ∧ wr = w)
  case atStart => exact ⟨0, rfl, rfl, fun k h => by omega, rfl⟩
  case round =>
    obtain ⟨j, rfl, hq, hok, rfl⟩ := hrel
    have hj : j ≤ s.size := by omega
    have HQ := hide hq
    have HOK := hide hok
    clear hq hok
    by_cases hlt : j < s.size
    · have hji : (j : Int) < (s.size : Int) := by omega
      have hg : l[j]? = some (s[j]'hlt) := by
        rw [← HL.out, Array.getElem?_toList]
        exact Array.getElem?_eq_getElem hlt
      have HGT := hide hg
      clear hg
      by_cases hz : ((s[j]'hlt).toNat : Int) = 47
      · have hz2 : (((s[j]'hlt).toNat : Int) == 47) = true := by rw [hz]; rfl
        have HZ := hide hz
        go_wp2_with fail
        go_ret
        refine ⟨?_, rfl⟩
        have hb : s[j]'hlt = 47 := by
          have := HZ.out
          apply UInt8.toNat_inj.1
          show (s[j]'hlt).toNat = 47
          omega
        have h1 : sl l = j := sl_eq (by rw [HGT.out, hb]) HOK.out
        rw [slR, h1, if_pos (by rw [← HLEN.out]; exact hlt)]; rfl
      · have hz2 : (((s[j]'hlt).toNat : Int) == 47) = false := by rw [beq_eq_false_iff_ne]; exact hz
        have HZ := hide hz
        go_wp2_with fail
        go_roundg (gk - 1)
        case measure => have := HQ.out; omega
        case rel =>
          refine ⟨j + 1, by go_num, by have := HQ.out; omega, fun k hk => ?_, rfl⟩
          by_cases e : k = j
          · rw [e, HGT.out]
            intro h
            injection h with h
            exact HZ.out (by rw [h]; rfl)
          · exact HOK.out k (by omega)
    · have hji : ¬ (j : Int) < (s.size : Int) := by omega
      go_wp2_with fail
      go_ret
      refine ⟨?_, rfl⟩
      have h1 : sl l = l.length := sl_none (fun k => by
        by_cases hk : k < l.length
        · exact HOK.out k (by have := HLEN.out; omega)
        · rw [List.getElem?_eq_none (by omega)]; simp)
      rw [slR, h1, if_neg (by omega)]; rfl
set_option maxRecDepth 100000 in
theorem rsplitL_any (w : World) (s : ByteArray) (l : List UInt8) (hl : s.data.toList = l) (hsz : s.size ≤ 9223372036854775807) :
    Calls Tryz.prog 62 #[.string s] w fun e w' => e = .returned (.tuple #[.string ⟨(numL l).toArray⟩, .string ⟨(denL l).toArray⟩]) ∧ Below w.heap.size w w' := by
  have hlen : s.size = l.length := by rw [Lib.size_eq, hl]
  have HS := hide (rslashL_any w s l hl hsz)
  by_cases hz : sl l < l.length
  · have hsl : slR l = (sl l : Int) := by rw [slR, if_pos hz]
    obtain ⟨k, hk⟩ : ∃ k, sl l = k := ⟨_, rfl⟩
    rw [hk] at hsl hz
    have e1 : s.extract 0 k = ⟨(numL l).toArray⟩ := by
      apply ByteArray.ext
      apply Array.ext'
      rw [Lib.extract_data, hl, numL, hk]; simp
    have e2 : s.extract (k + 1) s.size = ⟨(denL l).toArray⟩ := by
      apply ByteArray.ext
      apply Array.ext'
      rw [Lib.extract_data, hl, denL, hk, if_pos hz, List.take_of_length_le (by simp; omega)]
    have hk0 : ¬ (k : Int) < 0 := by omega
    have hk1 : (k : Int) ≤ (s.size : Int) := by omega
    have hk2 : (k : Int) + 1 ≤ (s.size : Int) := by omega
    have hkn : ((k : Int) + 1).toNat = k + 1 := by omega
    have hkz : (k : Int) < (s.size : Int) := by omega
    have HSL := hide hsl
    have E1 := hide e1
    have E2 := hide e2
    clear hsl e1 e2 hl hk hz hlen
    go_enter Tryz.func62, Tryz.ntmps62
    go_wp2_with fail
    refine HS.out.mono ?_
    rw [HSL.out]
    rintro e w1 ⟨rfl, rfl⟩
    go_upto_region 4 with (fail)
    go_quiet (fail)
    go_wp2_with fail
    go_ret2
    exact ⟨by rw [← E1.out, ← E2.out]; rfl, below_drewN (Below.refl _ _) _⟩
  · have hsl : slR l = -1 := by rw [slR, if_neg hz]
    have e1 : s = ⟨(numL l).toArray⟩ := by
      apply ByteArray.ext
      apply Array.ext'
      have := sl_le l
      rw [hl, numL, List.take_of_length_le (by omega)]
    have e2 : denL l = [49] := by rw [denL, if_neg hz]
    have HSL := hide hsl
    have E1 := hide e1
    have E2 := hide e2
    clear hsl e1 e2 hl hz hlen
    go_enter Tryz.func62, Tryz.ntmps62
    go_wp2_with fail
    refine HS.out.mono ?_
    rw [HSL.out]
    rintro e w1 ⟨rfl, rfl⟩
    go_wp2_with fail
    go_ret2
    exact ⟨by rw [← E1.out, E2.out]; rfl, Below.refl _ _⟩
def pl1 (s : ByteArray) : Bool := decide (s.size ≤ 12) && (decide ((numL s.data.toList).length ≤ 8) && decide ((denL s.data.toList).length ≤ 8))
def plB (a : Nat → ByteArray) : Bool := pl1 (a 0) && (pl1 (a 1) && pl1 (a 2))
theorem plB_no {a : Nat → ByteArray} {j : Nat} (hj : j < 3) (h : pl1 (a j) = false) : plB a = false := by
  unfold plB
  rcases (by omega : j = 0 ∨ j = 1 ∨ j = 2) with rfl | rfl | rfl <;> simp [h]
theorem plB_yes {a : Nat → ByteArray} (h : ∀ j, j < 3 → pl1 (a j) = true) : plB a = true := by
  unfold plB
  rw [h 0 (by omega), h 1 (by omega), h 2 (by omega)]; rfl
theorem plB_size {a : Nat → ByteArray} (h : plB a = true) : ∀ j, j < 3 → (a j).size ≤ 12 := by
  unfold plB pl1 at h
  simp at h
  intro j hj
  rcases (by omega : j = 0 ∨ j = 1 ∨ j = 2) with rfl | rfl | rfl
  · exact h.1.1
  · exact h.2.1.1
  · exact h.2.2.1
set_option maxRecDepth 100000 in
set_option maxHeartbeats 2000000 in
theorem rplain_any (w : World) (a : Nat → ByteArray) (hz : ∀ j, j < 3 → (a j).size ≤ 9223372036854775807) :
    Calls Tryz.prog 32 #[.agg #[.string (a 0), .string (a 1), .string (a 2)]] w fun e w' => e = .returned (.bool (plB a)) ∧ Below w.heap.size w w' := by
  have HI := hide (fun (j : Nat) (hj : j < 3) W => idx_rat (a := a) hj W)
  have HSP := hide (fun (j : Nat) (hj : j < 3) (W : World) => rsplitL_any W (a j) _ rfl (hz j hj))
  have HNO := hide (fun j hj h => plB_no (a := a) (j := j) hj h)
  have HYE := hide (fun h => plB_yes (a := a) h)
  obtain ⟨R, hR⟩ : ∃ R, plB a = R := ⟨_, rfl⟩
  rw [hR] at HNO HYE ⊢
  have HZ := hide hz
  clear hR hz
  have HB := allocs_below w [.cells #[.string (a 0), .string (a 1), .string (a 2)] 66]
  have K_p : Blk (allocs w [.cells #[.string (a 0), .string (a 1), .string (a 2)] 66]) (w.heap.size + 0) 66 #[.string (a 0), .string (a 1), .string (a 2)] := allocs_at w [.cells #[.string (a 0), .string (a 1), .string (a 2)] 66] 0 rfl
  unfold allocs at HB K_p
  simp only [List.foldl_cons, List.foldl_nil] at HB K_p
  rw [Nat.add_zero] at K_p
  go_enter Tryz.func32, Tryz.ntmps32
  go_upto_region 1 with (fail)
  generalize (w.alloc (.cells #[.string (a 0), .string (a 1), .string (a 2)] 66)) = w0 at *
  replace K_p := hide K_p
  replace HB := hide HB
  have p0 := (Blk.cell K_p.out 0).trans (rfl : _ = some (Value.string (a 0)))
  have p1 := (Blk.cell K_p.out 1).trans (rfl : _ = some (Value.string (a 1)))
  have p2 := (Blk.cell K_p.out 2).trans (rfl : _ = some (Value.string (a 2)))
  go_wp2_with fail
  go_loopg [8] 3 (fun y iv wr => ∃ j : Nat, iv = .int .i64 (j : Int) ∧ y + j = 3 ∧ Below w.heap.size w wr ∧ ∀ i, i < j → pl1 (a i) = true)
  case atStart => exact ⟨0, rfl, rfl, HB.out, fun i hi => absurd hi (by omega)⟩
  case round =>
    obtain ⟨j, rfl, hq, hb, hr⟩ := hrel
    have HQ := hide hq
    have HB := hide hb
    have HR := hide hr
    have hj : j ≤ 3 := by omega
    clear hq hb hr K_p p0 p1 p2
    by_cases hlt : j < 3
    · have hji : (j : Int) < 3 := by omega
      have hx := HI.out j hlt
      have HSJ := hide (HSP.out j hlt)
      have HNJ := hide (HNO.out j hlt)
      have hzj := HZ.out j hlt
      obtain ⟨s, hs⟩ : ∃ s, a j = s := ⟨_, rfl⟩
      rw [hs] at hx HSJ HNJ hzj
      have HSS := hide hs
      obtain ⟨n, hn⟩ : ∃ n, (numL s.data.toList).length = n := ⟨_, rfl⟩
      obtain ⟨m, hm⟩ : ∃ n, (denL s.data.toList).length = n := ⟨_, rfl⟩
      have s1 : (⟨(numL s.data.toList).toArray⟩ : ByteArray).size = n := by rw [Lib.size_eq]; exact hn
      have s2 : (⟨(denL s.data.toList).toArray⟩ : ByteArray).size = m := by rw [Lib.size_eq]; exact hm
      obtain ⟨N, hN⟩ : ∃ N : ByteArray, (⟨(numL s.data.toList).toArray⟩ : ByteArray) = N := ⟨_, rfl⟩
      obtain ⟨M, hM⟩ : ∃ N : ByteArray, (⟨(denL s.data.toList).toArray⟩ : ByteArray) = N := ⟨_, rfl⟩
      rw [hN] at s1 HSJ
      rw [hM] at s2 HSJ
      have hpl : pl1 s = (decide (s.size ≤ 12) && (decide (n ≤ 8) && decide (m ≤ 8))) := by unfold pl1; rw [hn, hm]
      have HPL := hide hpl
      clear hs hn hm hN hM hpl
      by_cases c1 : 12 < s.size
      · have hRf := HNJ.out (by rw [HPL.out]; simp; omega)
        subst hRf
        go_wp2_with fail
        refine (HSJ.out _).mono ?_
        rintro e w2 ⟨rfl, hb2⟩
        have HB2 := hide (HB.out.trans (hb2.mono HB.out.size))
        clear hb2
        go_wp2_with fail
        go_ret
        exact ⟨rfl, HB2.out⟩
      · by_cases c2 : 8 < n
        · have hRf := HNJ.out (by rw [HPL.out]; simp; omega)
          subst hRf
          go_wp2_with fail
          refine (HSJ.out _).mono ?_
          rintro e w2 ⟨rfl, hb2⟩
          have HB2 := hide (HB.out.trans (hb2.mono HB.out.size))
          clear hb2
          go_wp2_with fail
          go_ret
          exact ⟨rfl, HB2.out⟩
        · by_cases c3 : 8 < m
          · have hRf := HNJ.out (by rw [HPL.out]; simp; omega)
            subst hRf
            go_wp2_with fail
            refine (HSJ.out _).mono ?_
            rintro e w2 ⟨rfl, hb2⟩
            have HB2 := hide (HB.out.trans (hb2.mono HB.out.size))
            clear hb2
            go_wp2_with fail
            go_ret
            exact ⟨rfl, HB2.out⟩
          · go_wp2_with fail
            refine (HSJ.out _).mono ?_
            rintro e w2 ⟨rfl, hb2⟩
            have HB2 := hide (HB.out.trans (hb2.mono HB.out.size))
            clear hb2
            go_wp2_with fail
            go_roundg (gk - 1)
            case measure => have := HQ.out; omega
            case rel => exact ⟨j + 1, by go_num, by have := HQ.out; omega, HB2.out, fun i hi => by
  rcases (by omega : i < j ∨ i = j) with h | h
  · exact HR.out i h
  · subst h; rw [HSS.out, HPL.out]; simp; omega⟩
    · have hji : ¬ (j : Int) < 3 := by omega
      have hRt := HYE.out (fun i hi => HR.out i (by omega))
      subst hRt
      go_wp2_with fail
      go_ret
      exact ⟨rfl, HB.out⟩
theorem lenD {d k : Nat} (h : (Lib.decDigits d).length ≤ k) (hk : 1 ≤ k) : d < 10 ^ k := (dec_length_le hk).1 h
theorem short12 {q : Rat} (hl : (RT q).length ≤ 12) : Sz 12 12 q := by
  unfold RT at hl
  split at hl
  · rename_i h1
    have h2 : (Lib.decDigits q.num.natAbs).length ≤ 12 := by rw [T_length] at hl; omega
    exact ⟨lenD h2 (by omega), by rw [h1]; exact Nat.pow_pos (by omega)⟩
  · rw [List.length_append, List.length_cons, T_length] at hl
    exact ⟨lenD (by omega) (by omega), Nat.le_of_lt (lenD (by omega) (by omega))⟩
theorem sz_zero (m : Nat) : Sz m m 0 := ⟨by show 0 < 10 ^ m; exact Nat.pow_pos (by omega), by show 1 ≤ 10 ^ m; exact Nat.pow_pos (by omega)⟩
theorem powU {n m : Nat} (h : n ≤ m) : 10 ^ n ≤ 10 ^ m := Nat.pow_le_pow_right (by omega) h
theorem pow2U {a b c : Nat} (h : a * b ≤ c) : (10 ^ a) ^ b ≤ 10 ^ c := by
  rw [← Nat.pow_mul]
  exact powU h
theorem dens_pow {x y z k : Nat} (hx : x ≤ 10 ^ 12) (hy : y ≤ 10 ^ 12) (hz : z ≤ 10 ^ 12) (h1 : 0 < x) (h2 : 0 < y) (h3 : 0 < z) (hk : k ≤ 12) : (x * y * z) ^ k ≤ 10 ^ 499 := by
  have h : x * y * z ≤ 10 ^ 36 := by
    have := Nat.mul_le_mul (Nat.mul_le_mul hx hy) hz
    rwa [← Nat.pow_add, ← Nat.pow_add] at this
  have hp : 0 < x * y * z := Nat.mul_pos (Nat.mul_pos h1 h2) h3
  have a := Nat.pow_le_pow_right hp hk
  have b := Nat.pow_le_pow_left h 12
  exact Nat.le_trans a (Nat.le_trans b (pow2U (a := 36) (b := 12) (c := 499) (by omega)))
def AfP (W : World) (R : Nat → ByteArray) (z : Int) (e : Ending) (w' : World) : Prop := e = .returned (.tuple #[.agg #[.string (R 0), .string (R 1), .string (R 2), .string (R 3)], .int .i64 z]) ∧ Below W.heap.size W w'
end Go.Proofs.YthmmgjieppknkaaGreatDoor

namespace Go.Proofs.YthmmgjieppknkaaGreatDoor
open Go.RowKit Go.Shelf Go.Maps MLab
def AdR (c : Nat → Rat) (n : Nat) : Nat → ByteArray := fun j => ⟨(RT (modeQ c n j)).toArray⟩
theorem aft_two (a : Nat → ByteArray) (n : Nat) (hz : ∀ j, j < 3 → (a j).size ≤ 12) (hn : n + 1 ≤ 12) :
    (∃ z : Int, z ≠ 0 ∧ ∀ m : Nat, m ≤ 12 → ∀ W, Std W → Calls Tryz.prog 33 #[.agg #[.string (a 0), .string (a 1), .string (a 2)], .int .i64 (m : Int)] W (AfP W (fun _ => ⟨#[]⟩) z)) ∨
    ∃ (c : Nat → Rat) (D : Nat), GrC D (n + 1) c ∧ ∀ m : Nat, m ≤ n + 1 → ∀ W, Std W → Calls Tryz.prog 33 #[.agg #[.string (a 0), .string (a 1), .string (a 2)], .int .i64 (m : Int)] W (AfP W (AdR c m) 0) := by
  have hck1 : ∀ j, j < 3 → ∀ W, Std W → Calls Tryz.prog 101 #[.string (a j)] W fun e w' => e = .returned (.int .i64 (chkR (a j).data.toList)) ∧ Below W.heap.size W w' := fun j hj W hS => rcheck_any W (a j) _ rfl (by have := hz j hj; omega) hS
  by_cases hF : firstE (fun j => chkR (a j).data.toList) = 0
  · have h0 := zero_firstE hF
    have hq : ∀ j, j < 3 → ∃ q, (a j).data.toList = RT q ∧ Fit q := fun j hj => chkR_zero (h0 j hj)
    obtain ⟨q0, e0, f0⟩ := hq 0 (by omega)
    obtain ⟨q1, e1, f1⟩ := hq 1 (by omega)
    obtain ⟨q2, e2, f2⟩ := hq 2 (by omega)
    obtain ⟨c, hc⟩ : ∃ c : Nat → Rat, c = fun j => if j = 0 then q0 else if j = 1 then q1 else q2 := ⟨_, rfl⟩
    have hc3 : ∀ j, c j = q0 ∨ c j = q1 ∨ c j = q2 := fun j => by
      rw [hc]; dsimp only
      split
      · exact .inl rfl
      · split
        · exact .inr (.inl rfl)
        · exact .inr (.inr rfl)
    have ha : ∀ j, j < 3 → (a j).data.toList = RT (c j) := fun j hj => by
      rw [hc]
      rcases (by omega : j = 0 ∨ j = 1 ∨ j = 2) with rfl | rfl | rfl
      · exact e0
      · exact e1
      · exact e2
    have hsz : ∀ j, j < 3 → Sz 12 12 (c j) := fun j hj => short12 (by rw [← ha j hj, ← Lib.size_eq]; exact hz j hj)
    have hfit : ∀ j, j < 3 → Fit (c j) := fun j hj => (hsz j hj).fit (by omega) (by omega)
    have hgv := fun (W : World) (hS : Std W) => given_any W c a ha (fun j hj => by have := hz j hj; omega) hfit hS
    by_cases hr : ∀ j, j < 3 → 0 ≤ c j ∧ c j ≤ 1
    · rw [badE_in hr] at hgv
      have h01 : ∀ m, 0 ≤ c m ∧ c m ≤ 1 := fun m => by
        have a0 := hr 0 (by omega)
        have a1 := hr 1 (by omega)
        have a2 := hr 2 (by omega)
        rw [hc] at a0 a1 a2
        rcases hc3 m with e | e | e <;> rw [e]
        · exact a0
        · exact a1
        · exact a2
      have hg : ∀ k, k ≤ 12 → GrC ((c 0).den * (c 1).den * (c 2).den) k c := fun k hk => grC_of (fun m => (h01 m).1) (fun m => (h01 m).2) (dens_pow (hsz 0 (by omega)).2 (hsz 1 (by omega)).2 (hsz 2 (by omega)).2 (c 0).den_pos (c 1).den_pos (c 2).den_pos hk)
      have hw : ∀ j, j < 3 → a j = ⟨(RT (c j)).toArray⟩ := fun j hj => by
        apply ByteArray.ext; apply Array.ext'; rw [ha j hj]
      refine .inr ⟨c, _, hg (n + 1) hn, fun m hm W hS => ?_⟩
      have h := swaft_any W c m _ (by omega) (hg m (by omega))
      rw [← hw 0 (by omega), ← hw 1 (by omega), ← hw 2 (by omega)] at h
      exact h (fun W hS => hgv W hS) hS
    · rw [badE_out hr] at hgv
      exact .inl ⟨2, by omega, fun m hm W hS => swaft_bad W _ _ _ m 2 (by omega) (fun W hS => hgv W hS) hS⟩
  · exact .inl ⟨_, hF, fun m hm W hS => swaft_bad W _ _ _ m _ hF (fun W hS => given_chk W a _ hck1 hF hS) hS⟩
theorem RT_pos (q : Rat) : 0 < (⟨(RT q).toArray⟩ : ByteArray).size := by
  rw [Lib.size_eq]
  show 0 < (RT q).length
  unfold RT
  split
  · exact List.length_pos_iff.2 (T_ne _)
  · rw [List.length_append, List.length_cons]; omega
def sumM (c : Nat → Rat) (n : Nat) : Nat → Rat
  | 0 => 0
  | j + 1 => sumM c n j + modeQ c n j
theorem GrC.modes {D n : Nat} {c : Nat → Rat} (h : GrC D n c) (k : Nat) : ∀ m, 0 ≤ modeQ c k m := fun m => modeQ_nn (fun m => ⟨h.nn m, h.le m⟩) k m
theorem expE_gr {D n : Nat} {c : Nat → Rat} (h : GrC D n c) (g : Pt → Rat) : ∀ (k i : Nat) (f : Pt → Rat), (∀ p, OkP p → Gr D i (f p)) → ∀ p, OkP p → Gr D (i + k) (expE c k f p)
  | 0, i, f, hf, p, hp => hf p hp
  | k + 1, i, f, hf, p, hp => by
    rw [expE, show i + (k + 1) = (i + 1) + k by omega]
    refine expE_gr h g k (i + 1) _ (fun q hq => ?_) p hp
    unfold oneE
    have hg := h.good hq
    have h1 := (hf _ (okP_goes hq true)).mul hg
    have h2 := (hf _ (okP_goes hq false)).mul (hg.co (h.good_le q))
    rw [Rat.mul_comm] at h1 h2
    exact h1.add h2
theorem isM_gr (D m : Nat) (p : Pt) : Gr D 0 (isM m p) := by
  unfold isM
  split
  · exact Gr.one D 0
  · exact Gr.zero D 0
theorem modeQ_gr {D n : Nat} {c : Nat → Rat} (h : GrC D n c) (k m : Nat) : Gr D k (modeQ c k m) := by
  have := expE_gr h (fun _ => 0) k 0 (isM m) (fun p _ => isM_gr D m p) (begunP 0) (okP_begun (by omega))
  rwa [Nat.zero_add] at this
theorem modeQ_sz {D n : Nat} {c : Nat → Rat} (h : GrC D n c) {k : Nat} (hk : k ≤ n) (m : Nat) : Sz 500 500 (modeQ c k m) := (modeQ_gr h k m).sz500 h hk (modeQ_le (fun m => ⟨h.nn m, h.le m⟩) k m)
theorem sumM_gr {D n : Nat} {c : Nat → Rat} (h : GrC D n c) (k : Nat) : ∀ j, Gr D k (sumM c k j)
  | 0 => Gr.zero D k
  | j + 1 => (sumM_gr h k j).add (modeQ_gr h k j)
theorem sumM_four (c : Nat → Rat) (n : Nat) : sumM c n 4 = 1 := by
  show 0 + modeQ c n 0 + modeQ c n 1 + modeQ c n 2 + modeQ c n 3 = 1
  have := modeQ_sum c n
  grind
theorem sumM_le {D n : Nat} {c : Nat → Rat} (h : GrC D n c) (k : Nat) : ∀ j, j ≤ 4 → sumM c k j ≤ 1 := fun j hj => by
  have h0 := h.modes k 0
  have h1 := h.modes k 1
  have h2 := h.modes k 2
  have h3 := h.modes k 3
  have hs := sumM_four c k
  rcases (by omega : j = 0 ∨ j = 1 ∨ j = 2 ∨ j = 3 ∨ j = 4) with rfl | rfl | rfl | rfl | rfl
  · show (0 : Rat) ≤ 1; decide +kernel
  all_goals (simp only [sumM] at hs ⊢; grind)
theorem sumM_sz {D n : Nat} {c : Nat → Rat} (h : GrC D n c) {k : Nat} (hk : k ≤ n) {j : Nat} (hj : j ≤ 4) : Sz 500 500 (sumM c k j) := (sumM_gr h k j).sz500 h hk (sumM_le h k j hj)
set_option maxRecDepth 100000 in
set_option maxHeartbeats 8000000 in
theorem adds55_any (w : World) (t0 t1 t2 : ByteArray) (lots : Int) (hz0 : t0.size ≤ maxLen) (hz1 : t1.size ≤ maxLen) (hz2 : t2.size ≤ maxLen) (hl : 0 ≤ lots ∧ lots < 256) (hs : Std w) :
    Calls Tryz.prog 7 #[.agg #[.string t0, .string t1, .string t2], .int .u8 lots] w fun e w' => e = .returned (.bool true) ∧ Below w.heap.size w w' := by
  unfold maxLen at hz0 hz1 hz2
  obtain ⟨a, ha⟩ : ∃ a : Nat → ByteArray, a = fun j => if j = 0 then t0 else if j = 1 then t1 else t2 := ⟨_, rfl⟩
  have a0 : t0 = a 0 := by rw [ha]; rfl
  have a1 : t1 = a 1 := by rw [ha]; rfl
  have a2 : t2 = a 2 := by rw [ha]; rfl
  have hz : ∀ j, j < 3 → (a j).size ≤ 9223372036854775807 := fun j hj => by
    rcases (by omega : j = 0 ∨ j = 1 ∨ j = 2) with rfl | rfl | rfl
    · rw [← a0]; omega
    · rw [← a1]; omega
    · rw [← a2]; omega
  rw [a0, a1, a2]
  clear ha a0 a1 a2 hz0 hz1 hz2
  have HS := hide hs
  have HPL := hide (fun W => rplain_any W a hz)
  have HSZ := hide (fun h => plB_size (a := a) h)
  obtain ⟨p, hp⟩ : ∃ p, plB a = p := ⟨_, rfl⟩
  rw [hp] at HPL HSZ
  have HAW := hide (fun W hS => awake55_any W hS)
  have hw1 : IntKind.i64.wrap lots = lots := IntWalk.i64_in _ (by omega)
  obtain ⟨k, hk⟩ : ∃ k : Nat, lots.tmod 12 = (k : Int) := ⟨(lots.tmod 12).toNat, by have := Int.tmod_nonneg (a := lots) 12 hl.1; omega⟩
  have hk12 : k < 12 := by have := Int.tmod_lt_of_pos lots (show (0 : Int) < 12 by omega); omega
  have HK := hide hk12
  clear hs hz hp hl
  cases p with
  | false =>
    have HB := allocs_below w [.cells #[.string (a 0), .string (a 1), .string (a 2)] 66]
    have K_p : Blk (allocs w [.cells #[.string (a 0), .string (a 1), .string (a 2)] 66]) (w.heap.size + 0) 66 #[.string (a 0), .string (a 1), .string (a 2)] := allocs_at w [.cells #[.string (a 0), .string (a 1), .string (a 2)] 66] 0 rfl
    unfold allocs at HB K_p
    simp only [List.foldl_cons, List.foldl_nil] at HB K_p
    rw [Nat.add_zero] at K_p
    go_enter Tryz.func7, Tryz.ntmps7
    go_upto_region 1 with (fail)
    generalize (w.alloc (.cells #[.string (a 0), .string (a 1), .string (a 2)] 66)) = w0 at *
    replace K_p := hide K_p
    replace HB := hide HB
    have p0 := (Blk.cell K_p.out 0).trans (rfl : _ = some (Value.string (a 0)))
    have p1 := (Blk.cell K_p.out 1).trans (rfl : _ = some (Value.string (a 1)))
    have p2 := (Blk.cell K_p.out 2).trans (rfl : _ = some (Value.string (a 2)))
    go_wp2_with fail
    refine (HPL.out _).mono ?_
    rintro e w1 ⟨rfl, hb⟩
    clear p0 p1 p2
    replace K_p := hide (Blk.below K_p.out hb (Blk.lt K_p.out))
    replace HB := hide (HB.out.trans (hb.mono HB.out.size))
    clear hb
    go_wp2_with fail
    refine (HAW.out _ (HS.out.below HB.out (Nat.le_refl _))).mono ?_
    rintro e w2 ⟨rfl, hb⟩
    replace K_p := hide (Blk.below K_p.out hb (Blk.lt K_p.out))
    replace HB := hide (HB.out.trans (hb.mono HB.out.size))
    clear hb
    go_wp2_with fail
    go_ret
    exact ⟨rfl, HB.out⟩
  | true =>
    rcases aft_two a k (HSZ.out rfl) (by omega) with ⟨z, hz0, hac⟩ | ⟨c, D, hg, hac⟩
    · have hz1 : (z == 0) = false := by simpa using hz0
      have hz2 : (z != 0) = true := by simpa using hz0
      have hzz : (z == z) = true := beq_self_eq_true _
      have hw2 : IntKind.i64.wrap ((k : Int) + 1) = ((k + 1 : Nat) : Int) := (IntWalk.i64_in _ (by omega)).trans (by omega)
      obtain ⟨k1, hk1⟩ : ∃ k1, k + 1 = k1 := ⟨_, rfl⟩
      have H1 := hide (hac k (by omega))
      have H2 := hide (hac k1 (by omega))
      rw [hk1] at hw2
      clear hac hz0 hk1
      obtain ⟨R, hR⟩ : ∃ R : Nat → ByteArray, (fun _ => ⟨#[]⟩) = R := ⟨_, rfl⟩
      rw [hR] at H1 H2
      clear hR
      unfold AfP at H1 H2
      have HB := allocs_below w [.cells #[.string (a 0), .string (a 1), .string (a 2)] 66]
      have K_p : Blk (allocs w [.cells #[.string (a 0), .string (a 1), .string (a 2)] 66]) (w.heap.size + 0) 66 #[.string (a 0), .string (a 1), .string (a 2)] := allocs_at w [.cells #[.string (a 0), .string (a 1), .string (a 2)] 66] 0 rfl
      unfold allocs at HB K_p
      simp only [List.foldl_cons, List.foldl_nil] at HB K_p
      rw [Nat.add_zero] at K_p
      go_enter Tryz.func7, Tryz.ntmps7
      go_upto_region 1 with (fail)
      generalize (w.alloc (.cells #[.string (a 0), .string (a 1), .string (a 2)] 66)) = w0 at *
      replace K_p := hide K_p
      replace HB := hide HB
      have p0 := (Blk.cell K_p.out 0).trans (rfl : _ = some (Value.string (a 0)))
      have p1 := (Blk.cell K_p.out 1).trans (rfl : _ = some (Value.string (a 1)))
      have p2 := (Blk.cell K_p.out 2).trans (rfl : _ = some (Value.string (a 2)))
      go_wp2_with fail
      refine (HPL.out _).mono ?_
      rintro e w1 ⟨rfl, hb⟩
      clear p0 p1 p2
      replace K_p := hide (Blk.below K_p.out hb (Blk.lt K_p.out))
      replace HB := hide (HB.out.trans (hb.mono HB.out.size))
      clear hb
      have p0 := (Blk.cell K_p.out 0).trans (rfl : _ = some (Value.string (a 0)))
      have p1 := (Blk.cell K_p.out 1).trans (rfl : _ = some (Value.string (a 1)))
      have p2 := (Blk.cell K_p.out 2).trans (rfl : _ = some (Value.string (a 2)))
      go_wp2_with fail
      refine (H1.out _ (HS.out.below HB.out (Nat.le_refl _))).mono ?_
      rintro e w2 ⟨rfl, hb⟩
      clear p0 p1 p2
      replace K_p := hide (Blk.below K_p.out hb (Blk.lt K_p.out))
      replace HB := hide (HB.out.trans (hb.mono HB.out.size))
      clear hb
      go_upto_region 5 with (fail)
      have hbs_x : w.heap.size ≤ w2.heap.size := HB.out.size
      have lt_x_p : w.heap.size < w2.heap.size := Blk.lt K_p.out
      replace K_p := K_p.out.alloc (.cells #[.string (R 0), .string (R 1), .string (R 2), .string (R 3)] 68)
      replace HB := HB.out.alloc HB.out.size (.cells #[.string (R 0), .string (R 1), .string (R 2), .string (R 3)] 68)
      have K_x := Blk.new w2 68 #[.string (R 0), .string (R 1), .string (R 2), .string (R 3)]
      generalize w2.alloc (.cells #[.string (R 0), .string (R 1), .string (R 2), .string (R 3)] 68) = w3 at *
      replace K_p := hide K_p
      replace K_x := hide K_x
      replace HB := hide HB
      have p0 := (Blk.cell K_p.out 0).trans (rfl : _ = some (Value.string (a 0)))
      have p1 := (Blk.cell K_p.out 1).trans (rfl : _ = some (Value.string (a 1)))
      have p2 := (Blk.cell K_p.out 2).trans (rfl : _ = some (Value.string (a 2)))
      go_wp2_with fail
      refine (H2.out _ (HS.out.below HB.out (Nat.le_refl _))).mono ?_
      rintro e w4 ⟨rfl, hb⟩
      clear p0 p1 p2
      replace K_p := hide (Blk.below K_p.out hb (Blk.lt K_p.out))
      replace K_x := hide (Blk.below K_x.out hb (Blk.lt K_x.out))
      replace HB := hide (HB.out.trans (hb.mono HB.out.size))
      clear hb
      go_upto_region 6 with (fail)
      have hbs_y : w.heap.size ≤ w4.heap.size := HB.out.size
      have lt_y_p : w.heap.size < w4.heap.size := Blk.lt K_p.out
      have lt_y_x : w2.heap.size < w4.heap.size := Blk.lt K_x.out
      replace K_p := K_p.out.alloc (.cells #[.string (R 0), .string (R 1), .string (R 2), .string (R 3)] 68)
      replace K_x := K_x.out.alloc (.cells #[.string (R 0), .string (R 1), .string (R 2), .string (R 3)] 68)
      replace HB := HB.out.alloc HB.out.size (.cells #[.string (R 0), .string (R 1), .string (R 2), .string (R 3)] 68)
      have K_y := Blk.new w4 68 #[.string (R 0), .string (R 1), .string (R 2), .string (R 3)]
      generalize w4.alloc (.cells #[.string (R 0), .string (R 1), .string (R 2), .string (R 3)] 68) = w5 at *
      replace K_p := hide K_p
      replace K_x := hide K_x
      replace K_y := hide K_y
      replace HB := hide HB
      go_wp2_with fail
      refine (HAW.out _ (HS.out.below HB.out (Nat.le_refl _))).mono ?_
      rintro e w6 ⟨rfl, hb⟩
      replace K_p := hide (Blk.below K_p.out hb (Blk.lt K_p.out))
      replace K_x := hide (Blk.below K_x.out hb (Blk.lt K_x.out))
      replace K_y := hide (Blk.below K_y.out hb (Blk.lt K_y.out))
      replace HB := hide (HB.out.trans (hb.mono HB.out.size))
      clear hb
      go_wp2_with fail
      go_ret
      exact ⟨rfl, HB.out⟩
    · have hw2 : IntKind.i64.wrap ((k : Int) + 1) = ((k + 1 : Nat) : Int) := (IntWalk.i64_in _ (by omega)).trans (by omega)
      obtain ⟨k1, hk1⟩ : ∃ k1, k + 1 = k1 := ⟨_, rfl⟩
      have H1 := hide (hac k (by omega))
      have H2 := hide (hac k1 (by omega))
      rw [hk1] at hw2
      unfold AfP at H1 H2
      have HG := hide hg
      have HK1 := hide hk1
      clear hac hg hk1
      have HX1 := hide (fun j => RT_pos (modeQ c k j))
      have HX2 := hide (fun j => RT_pos (modeQ c k1 j))
      obtain ⟨X, hX⟩ : ∃ X : Nat → ByteArray, AdR c k = X := ⟨_, rfl⟩
      obtain ⟨Y, hY⟩ : ∃ X : Nat → ByteArray, AdR c k1 = X := ⟨_, rfl⟩
      have hxj : ∀ j, X j = ⟨(RT (modeQ c k j)).toArray⟩ := fun j => by rw [← hX]; rfl
      have hyj : ∀ j, Y j = ⟨(RT (modeQ c k1 j)).toArray⟩ := fun j => by rw [← hY]; rfl
      have HXP := hide (fun j => (show 0 < (X j).size by rw [hxj]; exact HX1.out j))
      have HYP := hide (fun j => (show 0 < (Y j).size by rw [hyj]; exact HX2.out j))
      rw [hX] at H1
      rw [hY] at H2
      have HCX := hide (fun (j : Nat) (W : World) => (show Calls Tryz.prog 35 #[.string (X j)] W (fun e w' => e = .returned (.int .i64 0) ∧ Below W.heap.size W w') from by
  have hsz := modeQ_sz HG.out (k := k) (by omega) j
  have h := rrcheck_any W (X j) (RT (modeQ c k j)) (by rw [hxj]) (by rw [hxj, Lib.size_eq]; have := RT_len (hsz.fit (by omega) (by omega)); show (RT (modeQ c k j)).length ≤ 200000; omega)
  rw [chkR_RT (hsz.fit (by omega) (by omega))] at h
  exact h))
      have HCY := hide (fun (j : Nat) (W : World) => (show Calls Tryz.prog 35 #[.string (Y j)] W (fun e w' => e = .returned (.int .i64 0) ∧ Below W.heap.size W w') from by
  have hsz := modeQ_sz HG.out (k := k1) (by have := HK1.out; omega) j
  have h := rrcheck_any W (Y j) (RT (modeQ c k1 j)) (by rw [hyj]) (by rw [hyj, Lib.size_eq]; have := RT_len (hsz.fit (by omega) (by omega)); show (RT (modeQ c k1 j)).length ≤ 200000; omega)
  rw [chkR_RT (hsz.fit (by omega) (by omega))] at h
  exact h))
      have HOX := hide (fun (j : Nat) (W : World) => (show Calls Tryz.prog 36 #[.string (X j), .string ⟨#[48]⟩] W (fun e w' => e = .returned (.int .i64 (modeQ c k j).num.sign) ∧ Below W.heap.size W w') from by
  have h := rqorder_any W (X j) ⟨#[48]⟩ (modeQ c k j) 0 (by rw [hxj]) RT_zero.symm (m := 500) (by omega) (modeQ_sz HG.out (by omega) j) (sz_zero 500)
  rw [show ((modeQ c k j).num * ((0 : Rat).den : Int) - (0 : Rat).num * ((modeQ c k j).den : Int)) = (modeQ c k j).num by simp] at h
  exact h))
      have HNN := hide (fun j (h : (modeQ c k j).num.sign < 0) => num_sign.1 h (HG.out.modes k j))
      have hst : modeQ c k 3 ≤ modeQ c k1 3 := by rw [← HK1.out]; exact modeQ_stop (fun m => ⟨HG.out.nn m, HG.out.le m⟩) k
      obtain ⟨sg, hsg⟩ : ∃ sg : Int, ((modeQ c k1 3).num * ((modeQ c k 3).den : Int) - (modeQ c k 3).num * ((modeQ c k1 3).den : Int)).sign = sg := ⟨_, rfl⟩
      have hsg0 : 0 ≤ sg := by rw [← hsg]; exact Int.sign_nonneg_iff.2 (by have := (Rat.le_iff _ _).1 hst; omega)
      have HOS := hide (fun (W : World) => (show Calls Tryz.prog 36 #[.string (Y 3), .string (X 3)] W (fun e w' => e = .returned (.int .i64 sg) ∧ Below W.heap.size W w') from by
  have h := rqorder_any W (Y 3) (X 3) (modeQ c k1 3) (modeQ c k 3) (by rw [hyj]) (by rw [hxj]) (m := 500) (by omega) (modeQ_sz HG.out (by have := HK1.out; omega) 3) (modeQ_sz HG.out (by omega) 3)
  rw [hsg] at h
  exact h))
      have HPS := hide (fun (j : Nat) (hj : j < 4) (W : World) => (show Calls Tryz.prog 37 #[.string ⟨(RT (sumM c k j)).toArray⟩, .string (X j)] W (fun e w' => e = .returned (.string ⟨(RT (sumM c k (j + 1))).toArray⟩) ∧ Below W.heap.size W w') from rqplus_any W _ (X j) (sumM c k j) (modeQ c k j) rfl (by rw [hxj]) (m := 500) (by omega) (sumM_sz HG.out (by omega) (by omega)) (modeQ_sz HG.out (by omega) j)))
      clear hst hsg hX hY hxj hyj HX1 HX2
      have HB := allocs_below w [.cells #[.string (a 0), .string (a 1), .string (a 2)] 66]
      have K_p : Blk (allocs w [.cells #[.string (a 0), .string (a 1), .string (a 2)] 66]) (w.heap.size + 0) 66 #[.string (a 0), .string (a 1), .string (a 2)] := allocs_at w [.cells #[.string (a 0), .string (a 1), .string (a 2)] 66] 0 rfl
      unfold allocs at HB K_p
      simp only [List.foldl_cons, List.foldl_nil] at HB K_p
      rw [Nat.add_zero] at K_p
      go_enter Tryz.func7, Tryz.ntmps7
      go_upto_region 1 with (fail)
      generalize (w.alloc (.cells #[.string (a 0), .string (a 1), .string (a 2)] 66)) = w0 at *
      replace K_p := hide K_p
      replace HB := hide HB
      have p0 := (Blk.cell K_p.out 0).trans (rfl : _ = some (Value.string (a 0)))
      have p1 := (Blk.cell K_p.out 1).trans (rfl : _ = some (Value.string (a 1)))
      have p2 := (Blk.cell K_p.out 2).trans (rfl : _ = some (Value.string (a 2)))
      go_wp2_with fail
      refine (HPL.out _).mono ?_
      rintro e w1 ⟨rfl, hb⟩
      clear p0 p1 p2
      replace K_p := hide (Blk.below K_p.out hb (Blk.lt K_p.out))
      replace HB := hide (HB.out.trans (hb.mono HB.out.size))
      clear hb
      have p0 := (Blk.cell K_p.out 0).trans (rfl : _ = some (Value.string (a 0)))
      have p1 := (Blk.cell K_p.out 1).trans (rfl : _ = some (Value.string (a 1)))
      have p2 := (Blk.cell K_p.out 2).trans (rfl : _ = some (Value.string (a 2)))
      go_wp2_with fail
      refine (H1.out _ (HS.out.below HB.out (Nat.le_refl _))).mono ?_
      rintro e w2 ⟨rfl, hb⟩
      clear p0 p1 p2
      replace K_p := hide (Blk.below K_p.out hb (Blk.lt K_p.out))
      replace HB := hide (HB.out.trans (hb.mono HB.out.size))
      clear hb
      go_upto_region 5 with (fail)
      have hbs_x : w.heap.size ≤ w2.heap.size := HB.out.size
      have lt_x_p : w.heap.size < w2.heap.size := Blk.lt K_p.out
      replace K_p := K_p.out.alloc (.cells #[.string (X 0), .string (X 1), .string (X 2), .string (X 3)] 68)
      replace HB := HB.out.alloc HB.out.size (.cells #[.string (X 0), .string (X 1), .string (X 2), .string (X 3)] 68)
      have K_x := Blk.new w2 68 #[.string (X 0), .string (X 1), .string (X 2), .string (X 3)]
      generalize w2.alloc (.cells #[.string (X 0), .string (X 1), .string (X 2), .string (X 3)] 68) = w3 at *
      replace K_p := hide K_p
      replace K_x := hide K_x
      replace HB := hide HB
      have p0 := (Blk.cell K_p.out 0).trans (rfl : _ = some (Value.string (a 0)))
      have p1 := (Blk.cell K_p.out 1).trans (rfl : _ = some (Value.string (a 1)))
      have p2 := (Blk.cell K_p.out 2).trans (rfl : _ = some (Value.string (a 2)))
      go_wp2_with fail
      refine (H2.out _ (HS.out.below HB.out (Nat.le_refl _))).mono ?_
      rintro e w4 ⟨rfl, hb⟩
      clear p0 p1 p2
      replace K_p := hide (Blk.below K_p.out hb (Blk.lt K_p.out))
      replace K_x := hide (Blk.below K_x.out hb (Blk.lt K_x.out))
      replace HB := hide (HB.out.trans (hb.mono HB.out.size))
      clear hb
      go_upto_region 6 with (fail)
      have hbs_y : w.heap.size ≤ w4.heap.size := HB.out.size
      have lt_y_p : w.heap.size < w4.heap.size := Blk.lt K_p.out
      have lt_y_x : w2.heap.size < w4.heap.size := Blk.lt K_x.out
      replace K_p := K_p.out.alloc (.cells #[.string (Y 0), .string (Y 1), .string (Y 2), .string (Y 3)] 68)
      replace K_x := K_x.out.alloc (.cells #[.string (Y 0), .string (Y 1), .string (Y 2), .string (Y 3)] 68)
      replace HB := HB.out.alloc HB.out.size (.cells #[.string (Y 0), .string (Y 1), .string (Y 2), .string (Y 3)] 68)
      have K_y := Blk.new w4 68 #[.string (Y 0), .string (Y 1), .string (Y 2), .string (Y 3)]
      generalize w4.alloc (.cells #[.string (Y 0), .string (Y 1), .string (Y 2), .string (Y 3)] 68) = w5 at *
      replace K_p := hide K_p
      replace K_x := hide K_x
      replace K_y := hide K_y
      replace HB := hide HB
      go_wp2_with fail
      go_loopg [10, 44] 4 (fun z sv iv wr => ∃ j : Nat, iv = .int .i64 (j : Int) ∧ z + j = 4 ∧ sv = .string ⟨(RT (sumM c k j)).toArray⟩ ∧ Blk wr w2.heap.size 68 #[.string (X 0), .string (X 1), .string (X 2), .string (X 3)] ∧ Blk wr w4.heap.size 68 #[.string (Y 0), .string (Y 1), .string (Y 2), .string (Y 3)] ∧ Below w.heap.size w wr)
      case atStart => exact ⟨0, rfl, rfl, by show _ = Value.string ⟨(RT 0).toArray⟩; rw [RT_zero], K_x.out, K_y.out, HB.out⟩
      case round =>
        clear K_x K_y K_p HB
        obtain ⟨j, rfl, hq, rfl, hkx, hky, hb⟩ := hrel
        obtain ⟨W1, rfl⟩ : ∃ W, W = wr := ⟨_, rfl⟩
        have HQ := hide hq
        have K_x := hide hkx
        have K_y := hide hky
        have HB := hide hb
        have hj : j ≤ 4 := by omega
        clear hq hkx hky hb
        by_cases hlt : j < 4
        · have hji : (j : Int) < 4 := by omega
          have hj0 : (0 : Int) ≤ (j : Int) := by omega
          have HXJ := hide (fun (W : World) (K : Blk W w2.heap.size 68 #[.string (X 0), .string (X 1), .string (X 2), .string (X 3)]) => (show W.cell? ⟨w2.heap.size, j, none⟩ = some (.string (X j)) from by rcases (by omega : j = 0 ∨ j = 1 ∨ j = 2 ∨ j = 3) with rfl | rfl | rfl | rfl <;> exact (Blk.cell K _).trans rfl))
          have HYJ := hide (fun (W : World) (K : Blk W w4.heap.size 68 #[.string (Y 0), .string (Y 1), .string (Y 2), .string (Y 3)]) => (show W.cell? ⟨w4.heap.size, j, none⟩ = some (.string (Y j)) from by rcases (by omega : j = 0 ∨ j = 1 ∨ j = 2 ∨ j = 3) with rfl | rfl | rfl | rfl <;> exact (Blk.cell K _).trans rfl))
          have hxs := HXP.out j
          have hys := HYP.out j
          have hxz : (((X j).size : Int) == 0) = false := by rw [beq_eq_false_iff_ne]; omega
          have hyz : (((Y j).size : Int) == 0) = false := by rw [beq_eq_false_iff_ne]; omega
          have HCJ := hide (HCX.out j)
          have HDJ := hide (HCY.out j)
          have HOJ := hide (HOX.out j)
          have HNJ := hide (HNN.out j)
          have HPJ := hide (HPS.out j hlt)
          obtain ⟨xj, hxj⟩ : ∃ s, X j = s := ⟨_, rfl⟩
          obtain ⟨yj, hyj⟩ : ∃ s, Y j = s := ⟨_, rfl⟩
          rw [hxj] at HXJ hxz HCJ HOJ HPJ
          rw [hyj] at HYJ hyz HDJ
          obtain ⟨sj, hsj⟩ : ∃ s, (modeQ c k j).num.sign = s := ⟨_, rfl⟩
          rw [hsj] at HOJ HNJ
          have hsn : ¬ sj < 0 := fun h => HNJ.out h
          clear hxs hys hxj hyj hsj HNJ
          have hx := HXJ.out _ K_x.out
          have hy := HYJ.out _ K_y.out
          go_wp2_with fail
          refine (HCJ.out _).mono ?_
          rintro e w6 ⟨rfl, hb⟩
          clear hx hy
          replace K_x := hide (Blk.below K_x.out hb (Blk.lt K_x.out))
          replace K_y := hide (Blk.below K_y.out hb (Blk.lt K_y.out))
          replace HB := hide (HB.out.trans (hb.mono HB.out.size))
          clear hb
          have hx := HXJ.out _ K_x.out
          have hy := HYJ.out _ K_y.out
          go_wp2_with fail
          refine (HDJ.out _).mono ?_
          rintro e w7 ⟨rfl, hb⟩
          clear hx hy
          replace K_x := hide (Blk.below K_x.out hb (Blk.lt K_x.out))
          replace K_y := hide (Blk.below K_y.out hb (Blk.lt K_y.out))
          replace HB := hide (HB.out.trans (hb.mono HB.out.size))
          clear hb
          have hx := HXJ.out _ K_x.out
          have hy := HYJ.out _ K_y.out
          go_wp2_with fail
          refine (HOJ.out _).mono ?_
          rintro e w8 ⟨rfl, hb⟩
          clear hx hy
          replace K_x := hide (Blk.below K_x.out hb (Blk.lt K_x.out))
          replace K_y := hide (Blk.below K_y.out hb (Blk.lt K_y.out))
          replace HB := hide (HB.out.trans (hb.mono HB.out.size))
          clear hb
          have hx := HXJ.out _ K_x.out
          have hy := HYJ.out _ K_y.out
          go_wp2_with fail
          refine (HPJ.out _).mono ?_
          rintro e w9 ⟨rfl, hb⟩
          clear hx hy
          replace K_x := hide (Blk.below K_x.out hb (Blk.lt K_x.out))
          replace K_y := hide (Blk.below K_y.out hb (Blk.lt K_y.out))
          replace HB := hide (HB.out.trans (hb.mono HB.out.size))
          clear hb
          have hx := HXJ.out _ K_x.out
          have hy := HYJ.out _ K_y.out
          clear hx hy
          go_wp2_with fail
          go_roundg (gk - 1)
          case measure => have := HQ.out; omega
          case rel => exact ⟨j + 1, by go_num, by have := HQ.out; omega, rfl, K_x.out, K_y.out, HB.out⟩
        · have hji : ¬ (j : Int) < 4 := by omega
          have hj4 : j = 4 := by omega
          subst hj4
          rw [sumM_four, RT_one]
          have hx3 := HXP.out 3
          have hy3 := HYP.out 3
          have hxi : (0 : Int) < ((X 3).size : Int) := by omega
          have hyi : (0 : Int) < ((Y 3).size : Int) := by omega
          have x0 := (Blk.cell K_x.out 0).trans (rfl : _ = some (Value.string (X 0)))
          have x1 := (Blk.cell K_x.out 1).trans (rfl : _ = some (Value.string (X 1)))
          have x2 := (Blk.cell K_x.out 2).trans (rfl : _ = some (Value.string (X 2)))
          have x3 := (Blk.cell K_x.out 3).trans (rfl : _ = some (Value.string (X 3)))
          have y0 := (Blk.cell K_y.out 0).trans (rfl : _ = some (Value.string (Y 0)))
          have y1 := (Blk.cell K_y.out 1).trans (rfl : _ = some (Value.string (Y 1)))
          have y2 := (Blk.cell K_y.out 2).trans (rfl : _ = some (Value.string (Y 2)))
          have y3 := (Blk.cell K_y.out 3).trans (rfl : _ = some (Value.string (Y 3)))
          go_wp2_with fail
          refine (HOS.out _).mono ?_
          rintro e w6 ⟨rfl, hb⟩
          clear x0 x1 x2 x3 y0 y1 y2 y3
          replace K_x := hide (Blk.below K_x.out hb (Blk.lt K_x.out))
          replace K_y := hide (Blk.below K_y.out hb (Blk.lt K_y.out))
          replace HB := hide (HB.out.trans (hb.mono HB.out.size))
          clear hb
          have hsgd : decide (0 ≤ sg) = true := decide_eq_true hsg0
          go_wp2_with fail
          refine (HAW.out _ (HS.out.below HB.out (Nat.le_refl _))).mono ?_
          rintro e w7 ⟨rfl, hb⟩
          replace K_x := hide (Blk.below K_x.out hb (Blk.lt K_x.out))
          replace K_y := hide (Blk.below K_y.out hb (Blk.lt K_y.out))
          replace HB := hide (HB.out.trans (hb.mono HB.out.size))
          clear hb
          go_wp2_with fail
          go_ret
          exact ⟨rfl, HB.out⟩
end Go.Proofs.YthmmgjieppknkaaGreatDoor
