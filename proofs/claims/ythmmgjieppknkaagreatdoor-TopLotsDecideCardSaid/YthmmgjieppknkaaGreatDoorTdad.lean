/- Contracts and plain laws that the statements of this seat share (part Tdad). -/
import Derived.Test.YthmmgjieppknkaaGreatDoorTdab
import Derived.Test.YthmmgjieppknkaaGreatDoorKtaa
import Derived.Test.YthmmgjieppknkaaGreatDoorKtac
import Derived.Test.YthmmgjieppknkaaGreatDoorKtad
import Derived.Test.YthmmgjieppknkaaGreatDoorKtai
import Derived.Test.YthmmgjieppknkaaGreatDoorKtak
import Derived.Test.YthmmgjieppknkaaGreatDoorKtal
import Derived.Test.YthmmgjieppknkaaGreatDoorKtam
import Derived.Test.YthmmgjieppknkaaGreatDoorKtas
import Derived.Test.YthmmgjieppknkaaGreatDoorKtat
import Derived.Test.YthmmgjieppknkaaGreatDoorKtau
import Derived.OwnWalk
import Derived.RangeFuncBox
import Derived.Laws.OwnMore
import Derived.Lib.Builder
import Derived.Lib.AppendStr
import Derived.Laws.Externs
import Derived.WalkSmall
import Derived.Lib.AtoiErrMem
import Derived.Shelf.Strings.SlTrimAscii
import Derived.Shelf.Strings.Builder1
import Derived.Shelf.Strings.Trim
import Derived.Shelf.Small.Utf8
import Derived.Shelf.Small.Strs
import Derived.Shelf.Strings.BuilderF
import Derived.Shelf.Strings.BuilderK
import Derived.Shelf.Strconv.Atoi
import Derived.Shelf.Strconv.Itoa0
import Derived.Shelf.Strconv.Itoa1
import Derived.Shelf.LaysM
import Derived.Shelf.Strconv.Itoa2
import Derived.Shelf.Strconv.Itoa3
import Derived.Shelf.Strings.Search1
import Derived.Shelf.Strings.Search2
import Derived.Shelf.Strings.Cut
import Derived.Shelf.Strings.Shaped
import Derived.Shelf.Strings.Prefix
import Derived.Shelf.Strings.Runes
import Derived.Shelf.Strings.AsciiSet
import Derived.Shelf.Bits.Mul64
import Derived.Shelf.Unicode.DecodeSlow
import Derived.Test.YthmmgjieppknkaaGreatDoorProg
import Derived.Test.YthmmgjieppknkaaGreatDoorChecked
import Derived.WalkKit
import Derived.WalkSpells
import Derived.WalkLawsBesides
import Derived.Lib.Hide
import Derived.IntWalk
import Derived.BigQuiet
import Derived.Deep.QuietTactic
import Derived.Deep.LoopGhost
import Derived.Deep.DeepCutAuto
import Derived.Deep.DeepFit
import Derived.Deep.Light
import Derived.Outline
import Derived.Laws.Rows
import Derived.Laws.NewBlocks
import Derived.Laws.CopyOwn
import Derived.Laws.Tables
import Derived.Lib.ItoaNum
import Derived.Lib.ItoaLen
import Derived.Lib.Atoi
import Derived.Lib.AtoiAll
import Derived.Lib.Strings
import Derived.Lib.SlTrimSet
namespace Go.Proofs.YthmmgjieppknkaaGreatDoor
open Go.RowKit Go.Shelf MLab
def RowsOf (w : World) (base : Nat) (rows : List Value) (M : List (List Nat)) : Prop :=
  rows.length = M.length ∧ ∀ (p : Nat) (l : List Nat), M[p]? = some l → ∃ u, rows[p]? = some u ∧ w.ownsRow base 3 1 u l.length (icl l)
theorem RowsOf.nil (w : World) (base : Nat) : RowsOf w base [] [] := ⟨rfl, fun p l h => by simp at h⟩
theorem RowsOf.below {w w' : World} {base : Nat} {rows : List Value} {M : List (List Nat)} (h : RowsOf w base rows M) (hb : Below w.heap.size w w') : RowsOf w' base rows M :=
  ⟨h.1, fun p l hp => by obtain ⟨u, h1, h2⟩ := h.2 p l hp; exact ⟨u, h1, owns_below h2 hb⟩⟩
theorem row_other {w w' : World} {base base2 : Nat} {u v : Value} {n k : Nat} {xs ys : List Value} (hu : w.ownsRow base 3 1 u n xs) (hv : w.ownsRow base2 54 1 v k ys) (hg : w.grownBy w' v.ownBlock) : w'.ownsRow base 3 1 u n xs := by
  refine hu.kept hg ?_
  rcases hu.2 with ⟨rfl, _⟩ | ⟨g, cap, cur, rfl, _, hgb, _⟩
  · exact .inl rfl
  · right
    rcases hv.2 with ⟨rfl, _⟩ | ⟨g2, cap2, cur2, rfl, _, hgb2, _⟩
    · simp [Value.ownBlock]
    · intro e
      obtain rfl : g = g2 := by simpa [Value.ownBlock] using e
      rw [hgb] at hgb2
      simp at hgb2
theorem RowsOf.own {w w' : World} {base base2 : Nat} {rows ys : List Value} {M : List (List Nat)} {v : Value} {k : Nat} (h : RowsOf w base rows M) (hv : w.ownsRow base2 54 1 v k ys) (hg : w.grownBy w' v.ownBlock) : RowsOf w' base rows M :=
  ⟨h.1, fun p l hp => by obtain ⟨u, h1, h2⟩ := h.2 p l hp; exact ⟨u, h1, row_other h2 hv hg⟩⟩
theorem own_mono {w : World} {a b : Nat} {e : TypeId} {size n : Nat} {v : Value} {xs : List Value} (h : w.ownsRow b e size v n xs) (hab : a ≤ b) : w.ownsRow a e size v n xs := by
  refine ⟨h.1, ?_⟩
  rcases h.2 with h2 | ⟨g, cap, cur, hv, hg, r⟩
  · exact .inl h2
  · exact .inr ⟨g, cap, cur, hv, Nat.le_trans hab hg, r⟩
theorem RowsOf.mono {w : World} {a b : Nat} {rows : List Value} {M : List (List Nat)} (h : RowsOf w b rows M) (hab : a ≤ b) : RowsOf w a rows M :=
  ⟨h.1, fun p l hp => by obtain ⟨u, h1, h2⟩ := h.2 p l hp; exact ⟨u, h1, own_mono h2 hab⟩⟩
end Go.Proofs.YthmmgjieppknkaaGreatDoor
