/- Contracts and plain laws that the statements of this seat share (part Thad). -/
import Derived.Test.YthmmgjieppknkaaGreatDoorThaa
import Derived.Test.YthmmgjieppknkaaGreatDoorThac
import Derived.Test.YthmmgjieppknkaaGreatDoorKtaa
import Derived.Test.YthmmgjieppknkaaGreatDoorKtac
import Derived.Test.YthmmgjieppknkaaGreatDoorKtal
import Derived.Test.YthmmgjieppknkaaGreatDoorKtam
import Derived.Test.YthmmgjieppknkaaGreatDoorKtan
import Derived.Test.YthmmgjieppknkaaGreatDoorKtau
import Derived.Shelf.Abstract
import Derived.Deep.RegionHeld3
import Derived.Laws.ResultCell
import Derived.ChangeKeysEq
import Derived.DeepKeys
import Derived.Test.YthmmgjieppknkaaGreatDoorChecked
import Derived.WalkKit
import Derived.WalkSpells
import Derived.WalkLawsBesides
import Derived.Lib.Hide
import Derived.IntWalk
import Derived.BigQuiet
import Derived.Deep.QuietTactic
import Derived.Deep.LoopGhost
import Derived.Deep.DeepCutAuto
import Derived.Deep.DeepFit
import Derived.Deep.Light
import Derived.Outline
import Derived.Laws.Rows
import Derived.Laws.NewBlocks
import Derived.Laws.CopyOwn
import Derived.Laws.Tables
import Derived.Lib.ItoaNum
import Derived.Lib.ItoaLen
import Derived.Lib.Atoi
import Derived.Lib.AtoiAll
import Derived.Lib.Strings
import Derived.Lib.SlTrimSet
import Derived.Lib.IndexMore
import Derived.Lib.IndexBytes
import Derived.Lib.IndexLaws
import Derived.Deep.RegionWith
import Derived.Deep.RegionLaw
import Derived.RegionTactic
import Derived.Lib.Builder
import Derived.Lib.AppendStr
import Derived.Laws.Externs
import Derived.WalkSmall
import Derived.Lib.AtoiErrMem
import Derived.Shelf.Strings.SlTrimAscii
import Derived.Shelf.Strings.Builder1
import Derived.Shelf.Strings.Trim
import Derived.Shelf.Small.Utf8
import Derived.Shelf.Small.Strs
import Derived.Shelf.Strings.BuilderF
import Derived.Shelf.Strings.BuilderK
import Derived.Shelf.Strconv.Atoi
import Derived.Shelf.Strconv.Itoa0
import Derived.Shelf.Strconv.Itoa1
import Derived.Shelf.LaysM
import Derived.Shelf.Strconv.Itoa2
import Derived.Shelf.Strconv.Itoa3
import Derived.Shelf.Strings.Search1
import Derived.Shelf.Strings.Search2
import Derived.Shelf.Strings.Cut
import Derived.Shelf.Strings.Shaped
import Derived.Shelf.Strings.Prefix
import Derived.Shelf.Unicode.Decode
import Derived.Shelf.Strings.Runes
import Derived.Shelf.Strings.AsciiSet
import Derived.Shelf.Bits.Mul64
import Derived.Shelf.Unicode.DecodeSlow
import Derived.Shelf.Unicode.DecodeAny
import Derived.Shelf.Unicode.DecodeLast
import Derived.Ground.Names2Prog
import Derived.Shelf.Slices.Clone
import Derived.Ground.SlgnProg
import Derived.Shelf.SlicesE.Clone
import Derived.Test.YthmmgjieppknkaaGreatDoorProg
namespace Go.Proofs.YthmmgjieppknkaaGreatDoor
open Go.RowKit Go.Shelf MLab
theorem product3_any (w : World) (g c m : Nat) (a b d : Int) (hg : Blk w g 116 #[tx a, tx b, tx d]) (hm : m ≤ 1024) (ha : a.natAbs < 10 ^ m) (hb : b.natAbs < 10 ^ m) (hd : d.natAbs < 10 ^ m) (hab : (a * b).natAbs < 10 ^ m) (habd : (a * b * d).natAbs < 10 ^ m) (hs : Std w) :
    Calls Tryz.prog 86 #[.slice (some ⟨g, 0, none⟩) 3 c] w fun e w' => e = .returned (.tuple #[tx (a * b * d), .int .i64 0]) ∧ Below w.heap.size w w' := by
  have hB : ∀ {x : Int}, x.natAbs < 10 ^ m → x.natAbs < Big := fun h => Nat.lt_of_lt_of_le h (pow_big hm)
  have h := product_any w g c 116 [a, b, d] hg (by intro z hz; simp at hz; rcases hz with rfl | rfl | rfl <;> exact hB (by assumption))
    (by intro j hj; match j, hj with | 0, _ => (show (1 : Int).natAbs < Big; exact small30 (n := 1) (by decide)) | 1, _ => (show ((1 : Int) * a).natAbs < Big; rw [Int.one_mul]; exact hB ha) | 2, _ => (show ((1 : Int) * a * b).natAbs < Big; rw [Int.one_mul]; exact hB hab) | 3, _ => (show ((1 : Int) * a * b * d).natAbs < Big; rw [Int.one_mul]; exact hB habd)) (by simp) hs
  rw [show [a, b, d].length = 3 from rfl, show prodP [a, b, d] 3 = a * b * d from by simp [prodP]] at h
  exact h
end Go.Proofs.YthmmgjieppknkaaGreatDoor
