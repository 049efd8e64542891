/- Contracts and plain laws that the statements of this seat share (part Thah). -/
import Derived.Test.YthmmgjieppknkaaGreatDoorThaa
import Derived.Test.YthmmgjieppknkaaGreatDoorThab
import Derived.Test.YthmmgjieppknkaaGreatDoorThac
import Derived.Test.YthmmgjieppknkaaGreatDoorThad
import Derived.Test.YthmmgjieppknkaaGreatDoorThae
import Derived.Test.YthmmgjieppknkaaGreatDoorThaf
import Derived.Test.YthmmgjieppknkaaGreatDoorThag
import Derived.Test.YthmmgjieppknkaaGreatDoorKtaa
import Derived.Test.YthmmgjieppknkaaGreatDoorKtab
import Derived.Test.YthmmgjieppknkaaGreatDoorKtac
import Derived.Test.YthmmgjieppknkaaGreatDoorKtai
import Derived.Test.YthmmgjieppknkaaGreatDoorKtak
import Derived.Test.YthmmgjieppknkaaGreatDoorKtam
import Derived.Test.YthmmgjieppknkaaGreatDoorKtas
import Derived.Test.YthmmgjieppknkaaGreatDoorKtat
import Derived.Test.YthmmgjieppknkaaGreatDoorKtau
import Derived.Test.YthmmgjieppknkaaGreatDoorKtax
import Derived.Lib.IndexMore
import Derived.Lib.IndexBytes
import Derived.Lib.IndexLaws
import Derived.Deep.RegionWith
import Derived.Deep.RegionLaw
import Derived.RegionTactic
import Derived.Laws.Tables
import Derived.Test.YthmmgjieppknkaaGreatDoorChecked
import Derived.WalkKit
import Derived.WalkSpells
import Derived.WalkLawsBesides
import Derived.Lib.Hide
import Derived.IntWalk
import Derived.BigQuiet
import Derived.Deep.QuietTactic
import Derived.Deep.LoopGhost
import Derived.Deep.DeepCutAuto
import Derived.Deep.DeepFit
import Derived.Deep.Light
import Derived.Outline
import Derived.Laws.Rows
import Derived.Laws.NewBlocks
import Derived.Laws.CopyOwn
import Derived.Lib.ItoaNum
import Derived.Lib.ItoaLen
import Derived.Lib.Atoi
import Derived.Lib.AtoiAll
import Derived.Lib.Strings
import Derived.Lib.SlTrimSet
import Derived.Lib.Builder
import Derived.Lib.AppendStr
import Derived.Laws.Externs
import Derived.WalkSmall
import Derived.Lib.AtoiErrMem
import Derived.Shelf.Strings.SlTrimAscii
import Derived.Shelf.Strings.Builder1
import Derived.Shelf.Strings.Trim
import Derived.Shelf.Small.Utf8
import Derived.Shelf.Small.Strs
import Derived.Shelf.Strings.BuilderF
import Derived.Shelf.Strings.BuilderK
import Derived.Shelf.Strconv.Atoi
import Derived.Shelf.Strconv.Itoa0
import Derived.Shelf.Strconv.Itoa1
import Derived.Shelf.LaysM
import Derived.Shelf.Strconv.Itoa2
import Derived.Shelf.Strconv.Itoa3
import Derived.Shelf.Strings.Search1
import Derived.Shelf.Strings.Search2
import Derived.Shelf.Strings.Cut
import Derived.Shelf.Strings.Shaped
import Derived.Shelf.Strings.Prefix
import Derived.Shelf.Unicode.Decode
import Derived.Shelf.Strings.Runes
import Derived.Shelf.Strings.AsciiSet
import Derived.Shelf.Bits.Mul64
import Derived.Shelf.Unicode.DecodeSlow
import Derived.Shelf.Unicode.DecodeAny
import Derived.Shelf.Unicode.DecodeLast
import Derived.Ground.Names2Prog
import Derived.Shelf.Slices.Clone
import Derived.Ground.SlgnProg
import Derived.Shelf.SlicesE.Clone
import Derived.Test.YthmmgjieppknkaaGreatDoorProg
namespace Go.Proofs.YthmmgjieppknkaaGreatDoor
open MLab
theorem expE_grT {D n : Nat} {c : Nat → Rat} (h : GrC D n c) (g : Pt → Rat) : ∀ (k i : Nat) (f : Pt → Rat), (∀ p, OkP p → Gr D i (f p)) → ∀ p, OkP p → Gr D (i + k) (expE c k f p)
  | 0, i, f, hf, p, hp => hf p hp
  | k + 1, i, f, hf, p, hp => by
    rw [expE, show i + (k + 1) = (i + 1) + k by omega]
    refine expE_grT h g k (i + 1) _ (fun q hq => ?_) p hp
    unfold oneE
    have hg := h.good hq
    have h1 := (hf _ (okP_goes hq true)).mul hg
    have h2 := (hf _ (okP_goes hq false)).mul (hg.co (h.good_le q))
    rw [Rat.mul_comm] at h1 h2
    exact h1.add h2
theorem isM_grT (D m : Nat) (p : Pt) : Gr D 0 (isM m p) := by
  unfold isM
  split
  · exact Gr.one D 0
  · exact Gr.zero D 0
theorem modeQ_grT {D n : Nat} {c : Nat → Rat} (h : GrC D n c) (k m : Nat) : Gr D k (modeQ c k m) := by
  have := expE_grT h (fun _ => 0) k 0 (isM m) (fun p _ => isM_grT D m p) (begunP 0) (okP_begun (by omega))
  rwa [Nat.zero_add] at this
theorem modeQ_szT {D n : Nat} {c : Nat → Rat} (h : GrC D n c) {k : Nat} (hk : k ≤ n) (m : Nat) : Sz 500 500 (modeQ c k m) := (modeQ_grT h k m).sz500 h hk (modeQ_le (fun m => ⟨h.nn m, h.le m⟩) k m)
def tC (k : Nat) (Z : Nat → Nat × Nat) (m : Nat) : Rat := if m < 3 then proQ k (10 - k) (Z m).1 (Z m).2 else 1
def ZOk (Z : Nat → Nat × Nat) : Prop := ∀ m, m < 3 → 1 ≤ (Z m).1 ∧ (Z m).1 ≤ 7 ∧ (Z m).2 < (Z m).1
theorem proQ_in {k N C : Nat} (hk : k ≤ 10) (hC : C ≤ N) : 0 ≤ proQ k (10 - k) N C ∧ proQ k (10 - k) N C ≤ 1 := by
  have h1 := proN_lt (x := k) (y := 10 - k) hC
  have h0 : 0 < (k + (10 - k)) ^ N := Nat.pow_pos (by omega)
  unfold proQ
  refine ⟨Rat.divInt_nonneg (by omega) (by omega), ?_⟩
  rw [← divi_one (c := (((k + (10 - k)) ^ N : Nat) : Int)) (by omega)]
  exact divi_le (by omega) (by omega)
theorem tC_in {k : Nat} {Z : Nat → Nat × Nat} (hk : k ≤ 10) (hZ : ZOk Z) (m : Nat) : 0 ≤ tC k Z m ∧ tC k Z m ≤ 1 := by
  unfold tC
  split
  · rename_i h
    exact proQ_in hk (Nat.le_of_lt (hZ m h).2.2)
  · exact ⟨by decide, by decide⟩
theorem proQ_gr {k N C : Nat} (hk : k ≤ 10) (h7 : N ≤ 7) : ∃ j : Nat, proQ k (10 - k) N C * (((10 ^ 7) ^ 1 : Nat) : Rat) = (j : Rat) := by
  refine ⟨proN k (10 - k) N C * 10 ^ (7 - N), ?_⟩
  unfold proQ
  rw [show k + (10 - k) = 10 by omega, Nat.pow_one, show (7 : Nat) = N + (7 - N) by omega, Nat.pow_add]
  rw [show N + (7 - N) - N = 7 - N by omega]
  rw [Rat.divInt_eq_div]
  have hb : ((10 ^ N : Nat) : Rat) ≠ 0 := by
    have h0 : (0 : Nat) < 10 ^ N := Nat.pow_pos (by omega)
    have hne : ((10 ^ N : Nat) : Int) ≠ 0 := by omega
    exact fun e => hne (Rat.intCast_inj.1 (Eq.trans (show (((10 ^ N : Nat) : Int) : Rat) = ((10 ^ N : Nat) : Rat) from rfl) (e.trans Rat.intCast_zero.symm)))
  show ((proN k (10 - k) N C : Nat) : Rat) / ((10 ^ N : Nat) : Rat) * _ = _
  rw [Rat.natCast_mul, Rat.natCast_mul]
  generalize ((10 ^ N : Nat) : Rat) = b at *
  generalize ((10 ^ (7 - N) : Nat) : Rat) = e
  generalize ((proN k (10 - k) N C : Nat) : Rat) = a
  grind
theorem ten_pow {m : Nat} (h : 14 ≤ m) : (10 ^ 7) ^ 2 ≤ 10 ^ m := by
  rw [← Nat.pow_mul]
  exact Nat.pow_le_pow_right (by omega) h
theorem tC_gr {k : Nat} {Z : Nat → Nat × Nat} (hk : k ≤ 10) (hZ : ZOk Z) : GrC (10 ^ 7) 2 (tC k Z) := by
  refine ⟨Nat.pow_pos (by omega), fun m hm => ⟨(tC_in hk hZ m).1, ?_⟩, fun m => (tC_in hk hZ m).2, fun m => (tC_in hk hZ m).1, ?_⟩
  · have h := hZ m (by omega)
    unfold tC
    rw [if_pos (by omega)]
    exact proQ_gr hk h.2.1
  · exact ten_pow (m := 499) (by omega)
theorem mode_two (c : Nat → Rat) : modeQ c 2 1 = (1 - c 0) * (1 - c 0) := by
  have g1 : goesP (begunP 0) true = ⟨0, 1, 3, 0⟩ := by decide
  have g2 : goesP (begunP 0) false = ⟨0, 0, 2, 0⟩ := by decide
  have g3 : goesP ⟨0, 1, 3, 0⟩ true = ⟨0, 2, 7, 0⟩ := by decide
  have g4 : goesP ⟨0, 1, 3, 0⟩ false = ⟨0, 0, 6, 0⟩ := by decide
  have g5 : goesP ⟨0, 0, 2, 0⟩ true = ⟨0, 1, 5, 0⟩ := by decide
  have g6 : goesP ⟨0, 0, 2, 0⟩ false = begunP 1 := by decide
  show oneE c (oneE c (isM 1)) (begunP 0) = _
  unfold oneE
  rw [g1, g2, g3, g4, g5, g6]
  have i1 : isM 1 ⟨0, 2, 7, 0⟩ = 0 := by decide
  have i2 : isM 1 ⟨0, 0, 6, 0⟩ = 0 := by decide
  have i3 : isM 1 ⟨0, 1, 5, 0⟩ = 0 := by decide
  have i4 : isM 1 (begunP 1) = 1 := by decide
  rw [i1, i2, i3, i4]
  have q1 : goodQ c (begunP 0) = c 0 := by unfold goodQ; rw [if_neg (by decide)]; rfl
  have q2 : goodQ c ⟨0, 0, 2, 0⟩ = c 0 := by unfold goodQ; rw [if_neg (by decide)]
  rw [q1, q2]
  grind
theorem pro_falls : ∀ N, N < 8 → ∀ C, C < N → ∀ k, k < 10 → proN (k + 1) (10 - (k + 1)) N C ≤ proN k (10 - k) N C := by decide +kernel
theorem tC_falls {k : Nat} {Z : Nat → Nat × Nat} (hk : k < 10) (hZ : ZOk Z) : tC (k + 1) Z 0 ≤ tC k Z 0 := by
  have h := hZ 0 (by omega)
  have hp := pro_falls (Z 0).1 (by omega) (Z 0).2 h.2.2 k hk
  unfold tC
  rw [if_pos (by omega), if_pos (by omega)]
  unfold proQ
  rw [show k + 1 + (10 - (k + 1)) = 10 by omega, show k + (10 - k) = 10 by omega]
  have h0 : (0 : Nat) < 10 ^ (Z 0).1 := Nat.pow_pos (by omega)
  exact divi_le (by omega) (by omega)
theorem sq_mono {a b : Rat} (h0 : 0 ≤ a) (h : a ≤ b) : a * a ≤ b * b := by
  have h1 := Rat.mul_le_mul_of_nonneg_left h h0
  have h2 := Rat.mul_le_mul_of_nonneg_right h (Rat.le_trans h0 h)
  grind
theorem tight_mono {k : Nat} {Z : Nat → Nat × Nat} (hk : k < 10) (hZ : ZOk Z) : modeQ (tC k Z) 2 1 ≤ modeQ (tC (k + 1) Z) 2 1 := by
  rw [mode_two, mode_two]
  have h1 := tC_falls hk hZ
  have h2 := (tC_in (k := k) (by omega) hZ 0).2
  exact sq_mono (by grind) (by grind)
theorem ten_parts {k : Nat} (hk : k ≤ 10) : ∃ x y : Nat, (Rat.divInt (k : Int) 10).num = (x : Int) ∧ (Rat.divInt (k : Int) 10).den = x + y ∧ x + y ≤ 10 ^ 1 ∧ ∀ N C, C ≤ N → proQ x y N C = proQ k (10 - k) N C := by
  obtain ⟨f0, f1, f2⟩ : 0 ≤ Rat.divInt (k : Int) 10 ∧ Rat.divInt (k : Int) 10 ≤ 1 ∧ (Rat.divInt (k : Int) 10).den ≤ 10 := by
    have h := frac_parts (k := k) (l := 10) hk (by omega)
    exact ⟨h.1, h.2.1, h.2.2.1⟩
  obtain ⟨x, y, hx, hy, _, _⟩ := unit_parts f0 f1
  refine ⟨x, y, hx, hy, by rw [← hy]; exact f2, fun N C hC => ?_⟩
  have hp : 0 < x + y := by rw [← hy]; exact (Rat.divInt (k : Int) 10).den_pos
  rw [← docQ_eq hp hC, ← docQ_eq (x := k) (y := 10 - k) (by omega) hC]
  congr 1
  rw [show k + (10 - k) = 10 by omega]
  have h1 : (Rat.divInt (k : Int) 10) = ((x : Nat) : Rat) / ((x + y : Nat) : Rat) := by
    rw [← Rat.num_divInt_den (Rat.divInt (k : Int) 10), hx, hy, Rat.divInt_eq_div]
    rfl
  rw [← h1, Rat.divInt_eq_div]
  rfl
end Go.Proofs.YthmmgjieppknkaaGreatDoor
