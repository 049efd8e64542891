/- Contracts and plain laws that the statements of this seat share (part Tcaj). -/
import Derived.Test.YthmmgjieppknkaaGreatDoorTcaa
import Derived.Test.YthmmgjieppknkaaGreatDoorTcac
import Derived.Test.YthmmgjieppknkaaGreatDoorTcag
import Derived.Test.YthmmgjieppknkaaGreatDoorTcah
import Derived.Test.YthmmgjieppknkaaGreatDoorTcai
import Derived.Test.YthmmgjieppknkaaGreatDoorKtaa
import Derived.Test.YthmmgjieppknkaaGreatDoorKtac
import Derived.Test.YthmmgjieppknkaaGreatDoorKtam
import Derived.Test.YthmmgjieppknkaaGreatDoorKtan
import Derived.Test.YthmmgjieppknkaaGreatDoorKtar
import Derived.RangeFuncSeq
import Derived.Lib.IndexMore
import Derived.Lib.IndexBytes
import Derived.Lib.IndexLaws
import Derived.Deep.RegionWith
import Derived.Deep.RegionLaw
import Derived.RegionTactic
import Derived.Laws.Tables
import Derived.Test.YthmmgjieppknkaaGreatDoorChecked
import Derived.WalkKit
import Derived.WalkSpells
import Derived.WalkLawsBesides
import Derived.Lib.Hide
import Derived.IntWalk
import Derived.BigQuiet
import Derived.Deep.QuietTactic
import Derived.Deep.LoopGhost
import Derived.Deep.DeepCutAuto
import Derived.Deep.DeepFit
import Derived.Deep.Light
import Derived.Outline
import Derived.Laws.Rows
import Derived.Laws.NewBlocks
import Derived.Laws.CopyOwn
import Derived.Lib.ItoaNum
import Derived.Lib.ItoaLen
import Derived.Lib.Atoi
import Derived.Lib.AtoiAll
import Derived.Lib.Strings
import Derived.Lib.SlTrimSet
import Derived.Lib.Builder
import Derived.Lib.AppendStr
import Derived.Laws.Externs
import Derived.WalkSmall
import Derived.Lib.AtoiErrMem
import Derived.Shelf.Strings.SlTrimAscii
import Derived.Shelf.Strings.Builder1
import Derived.Shelf.Strings.Trim
import Derived.Shelf.Small.Utf8
import Derived.Shelf.Small.Strs
import Derived.Shelf.Strings.BuilderF
import Derived.Shelf.Strings.BuilderK
import Derived.Shelf.Strconv.Atoi
import Derived.Shelf.Strconv.Itoa0
import Derived.Shelf.Strconv.Itoa1
import Derived.Shelf.LaysM
import Derived.Shelf.Strconv.Itoa2
import Derived.Shelf.Strconv.Itoa3
import Derived.Shelf.Strings.Search1
import Derived.Shelf.Strings.Search2
import Derived.Shelf.Strings.Cut
import Derived.Shelf.Strings.Shaped
import Derived.Shelf.Strings.Prefix
import Derived.Shelf.Strings.Runes
import Derived.Shelf.Strings.AsciiSet
import Derived.Shelf.Bits.Mul64
import Derived.Shelf.Unicode.DecodeSlow
import Derived.Test.YthmmgjieppknkaaGreatDoorProg
namespace Go.Proofs.YthmmgjieppknkaaGreatDoor
open Go.RowKit Go.Shelf MLab
theorem sgn_pos {p q : Rat} : 0 < sgn p q ↔ q < p := by
  unfold sgn
  rw [Int.sign_pos_iff, Rat.lt_iff]
  omega
theorem sgn_le {p q : Rat} : sgn p q ≤ 0 ↔ p ≤ q := by rw [← Int.not_lt, sgn_pos, Rat.not_lt]
theorem accQ_sz {b g N C m : Nat} (hC : C ≤ N) (h : N ≤ b + g) (hl : b + g ≤ 64) (hm : 21 ≤ m) : Sz m m (accQ b g N C) := by
  have h1 := accN_lt (b := b) (g := g) hC
  have h2 := bin64 (n := b + g) (k := N) hl
  have h3 : (10 : Nat) ^ 20 ≤ 10 ^ m := Nat.pow_le_pow_right (by omega) (by omega)
  exact divi_sz (by have := bin_pos h; omega) (by omega) (by omega)
end Go.Proofs.YthmmgjieppknkaaGreatDoor
