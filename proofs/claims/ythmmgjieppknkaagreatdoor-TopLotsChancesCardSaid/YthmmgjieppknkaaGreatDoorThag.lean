/- Contracts and plain laws that the statements of this seat share (part Thag). -/
import Derived.Test.YthmmgjieppknkaaGreatDoorThaa
import Derived.Test.YthmmgjieppknkaaGreatDoorThac
import Derived.Test.YthmmgjieppknkaaGreatDoorThad
import Derived.Test.YthmmgjieppknkaaGreatDoorThae
import Derived.Test.YthmmgjieppknkaaGreatDoorThaf
import Derived.Test.YthmmgjieppknkaaGreatDoorKtaa
import Derived.Test.YthmmgjieppknkaaGreatDoorKtac
import Derived.Test.YthmmgjieppknkaaGreatDoorKtai
import Derived.Test.YthmmgjieppknkaaGreatDoorKtak
import Derived.Test.YthmmgjieppknkaaGreatDoorKtal
import Derived.Test.YthmmgjieppknkaaGreatDoorKtam
import Derived.Test.YthmmgjieppknkaaGreatDoorKtar
import Derived.RangeFuncSeq
import Derived.Lib.IndexMore
import Derived.Lib.IndexBytes
import Derived.Lib.IndexLaws
import Derived.Deep.RegionWith
import Derived.Deep.RegionLaw
import Derived.RegionTactic
import Derived.Laws.Tables
import Derived.Test.YthmmgjieppknkaaGreatDoorChecked
import Derived.WalkKit
import Derived.WalkSpells
import Derived.WalkLawsBesides
import Derived.Lib.Hide
import Derived.IntWalk
import Derived.BigQuiet
import Derived.Deep.QuietTactic
import Derived.Deep.LoopGhost
import Derived.Deep.DeepCutAuto
import Derived.Deep.DeepFit
import Derived.Deep.Light
import Derived.Outline
import Derived.Laws.Rows
import Derived.Laws.NewBlocks
import Derived.Laws.CopyOwn
import Derived.Lib.ItoaNum
import Derived.Lib.ItoaLen
import Derived.Lib.Atoi
import Derived.Lib.AtoiAll
import Derived.Lib.Strings
import Derived.Lib.SlTrimSet
import Derived.Lib.Builder
import Derived.Lib.AppendStr
import Derived.Laws.Externs
import Derived.WalkSmall
import Derived.Lib.AtoiErrMem
import Derived.Shelf.Strings.SlTrimAscii
import Derived.Shelf.Strings.Builder1
import Derived.Shelf.Strings.Trim
import Derived.Shelf.Small.Utf8
import Derived.Shelf.Small.Strs
import Derived.Shelf.Strings.BuilderF
import Derived.Shelf.Strings.BuilderK
import Derived.Shelf.Strconv.Atoi
import Derived.Shelf.Strconv.Itoa0
import Derived.Shelf.Strconv.Itoa1
import Derived.Shelf.LaysM
import Derived.Shelf.Strconv.Itoa2
import Derived.Shelf.Strconv.Itoa3
import Derived.Shelf.Strings.Search1
import Derived.Shelf.Strings.Search2
import Derived.Shelf.Strings.Cut
import Derived.Shelf.Strings.Shaped
import Derived.Shelf.Strings.Prefix
import Derived.Shelf.Unicode.Decode
import Derived.Shelf.Strings.Runes
import Derived.Shelf.Strings.AsciiSet
import Derived.Shelf.Bits.Mul64
import Derived.Shelf.Unicode.DecodeSlow
import Derived.Shelf.Unicode.DecodeAny
import Derived.Shelf.Unicode.DecodeLast
import Derived.Ground.Names2Prog
import Derived.Shelf.Slices.Clone
import Derived.Ground.SlgnProg
import Derived.Shelf.SlicesE.Clone
import Derived.Test.YthmmgjieppknkaaGreatDoorProg
namespace Go.Proofs.YthmmgjieppknkaaGreatDoor
open Go.RowKit Go.Shelf MLab
theorem sgn_pos {p q : Rat} : 0 < sgn p q ↔ q < p := by
  unfold sgn
  rw [Int.sign_pos_iff, Rat.lt_iff]
  omega
theorem sgn_le {p q : Rat} : sgn p q ≤ 0 ↔ p ≤ q := by rw [← Int.not_lt, sgn_pos, Rat.not_lt]
end Go.Proofs.YthmmgjieppknkaaGreatDoor

namespace Go.Proofs.YthmmgjieppknkaaGreatDoor
open Go.RowKit Go.Shelf MLab
theorem over_any (w : World) (a b : Int) (h0 : -9223372036854775808 ≤ a) (h1 : a ≤ 9223372036854775807) (h2 : -9223372036854775808 ≤ b) (h3 : b ≤ 9223372036854775807) (hb : b ≠ 0) :
    Calls Tryz.prog 47 #[.int .i64 a, .int .i64 b] w fun e w' => e = .returned (.string ⟨(RT (Rat.divInt a b)).toArray⟩) ∧ Below w.heap.size w w' := by
  have hla := T_len19 h0 h1
  have hlb := T_len19 h2 h3
  have C1 := hide (fun W => rof_any a h0 h1 W)
  have C2 := hide (fun W => rof_any b h2 h3 W)
  have C3 := hide (fun W => rlowest_any W ⟨(T a).toArray⟩ ⟨(T b).toArray⟩ a b (rtwo_of (k := 20) (l := 20) (by omega) (by omega) (by omega) (by omega)) hb (by rw [Lib.size_eq]; show (T a).length ≤ 200000; omega) (by rw [Lib.size_eq]; show (T b).length ≤ 200000; omega))
  have HB := hide (Below.refl w.heap.size w)
  clear h0 h1 h2 h3 hb hla hlb
  go_enter Tryz.func47, Tryz.ntmps47
  go_wp2_with fail
  refine (C1.out _).mono ?_
  rintro e w1 ⟨rfl, hb⟩
  replace HB := hide (HB.out.trans (hb.mono HB.out.size))
  clear hb
  go_wp2_with fail
  refine (C2.out _).mono ?_
  rintro e w2 ⟨rfl, hb⟩
  replace HB := hide (HB.out.trans (hb.mono HB.out.size))
  clear hb
  go_wp2_with fail
  refine (C3.out _).mono ?_
  rintro e w3 ⟨rfl, hb⟩
  replace HB := hide (HB.out.trans (hb.mono HB.out.size))
  clear hb
  go_wp2_with fail
  go_ret
  exact ⟨rfl, HB.out⟩
theorem frac_parts {k l : Nat} (h : k ≤ l) (hl : 0 < l) : 0 ≤ Rat.divInt (k : Int) (l : Int) ∧ Rat.divInt (k : Int) (l : Int) ≤ 1 ∧ (Rat.divInt (k : Int) (l : Int)).den ≤ l ∧ Rat.divInt ((l - k : Nat) : Int) (l : Int) = 1 - Rat.divInt (k : Int) (l : Int) := by
  refine ⟨Rat.divInt_nonneg (by omega) (by omega), ?_, ?_, ?_⟩
  · rw [← divi_one (c := (l : Int)) (by omega)]
    exact divi_le (by omega) (by omega)
  · have := (low_le (k : Int) (y := (l : Int)) (by omega)).2
    simpa using this
  · have h1 := divi_add (a := ((l - k : Nat) : Int)) (b := (k : Int)) (c := (l : Int)) (by omega) (by omega)
    grind
theorem proQ_sz {x y N C d m : Nat} (hxy : x + y ≤ 10 ^ d) (h0 : 0 < x + y) (hC : C ≤ N) (hm : d * N + 1 ≤ m) : Sz m m (proQ x y N C) := by
  have h1 := proN_lt (x := x) (y := y) hC
  have h2 : (x + y) ^ N ≤ 10 ^ (d * N) := powle hxy (Nat.le_refl _)
  have h3 : (10 : Nat) ^ (d * N) < 10 ^ (d * N + 1) := Nat.pow_lt_pow_right (by omega) (by omega)
  have h4 : (10 : Nat) ^ (d * N + 1) ≤ 10 ^ m := Nat.pow_le_pow_right (by omega) hm
  exact divi_sz (by have := Nat.pow_pos (n := N) h0; omega) (by omega) (by omega)
end Go.Proofs.YthmmgjieppknkaaGreatDoor
