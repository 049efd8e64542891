/- Contracts and plain laws that the statements of this seat share (part Emaa). -/
import Derived.Test.YthmmgjieppknkaaGreatDoorKaa
import Derived.Test.YthmmgjieppknkaaGreatDoorKab
import Derived.Test.YthmmgjieppknkaaGreatDoorKai
import Derived.Test.YthmmgjieppknkaaGreatDoorKas
import Derived.Test.YthmmgjieppknkaaGreatDoorKat
import Derived.Test.YthmmgjieppknkaaGreatDoorKau
import Derived.ProofKit
namespace MLab
def absS (x : Sw) : Lt → Option Sw
  | .good => if x.mode = 3 then none else some (goesS x true)
  | .bad => if x.mode = 0 then some (goesS x false) else none
  | .worse => if x.mode = 1 then some (goesS x false) else none
  | .again => if x.mode = 3 then some (swB 1) else none
def absL : List Lt → Sw → Option Sw
  | [], x => some x
  | a :: L, x => (absS x a).bind (absL L)
theorem stepC_abs {R : Nat → Nat × Nat} (hR : ∀ m, (R m).2 < (R m).1) {x : Cr} {a : Lt} {y : Sw} (h : absS x.st a = some y) : ∃ c, stepC R x (a.val R) = .inl c ∧ c.st = y := by
  cases a with
  | good =>
    simp only [absS] at h
    split at h
    · cases h
    · rename_i h3
      cases h
      refine ⟨⟨goesS x.st true, x.res ++ [true], x.eff + (R x.st.mode).1⟩, ?_, rfl⟩
      unfold stepC
      rw [show Lt.good.val R = 0 from rfl, if_neg (by omega), if_neg h3, if_neg (by omega), decide_eq_true (by omega)]
  | bad =>
    simp only [absS] at h
    split at h
    · rename_i h0
      cases h
      refine ⟨⟨goesS x.st false, x.res ++ [false], x.eff + (R x.st.mode).1⟩, ?_, rfl⟩
      have := hR 0
      unfold stepC
      rw [show Lt.bad.val R = ((R 0).2 : Int) + 1 from rfl, if_neg (by omega), if_neg (by omega), h0, if_neg (by omega), decide_eq_false (by omega)]
    · cases h
  | worse =>
    simp only [absS] at h
    split at h
    · rename_i h0
      cases h
      refine ⟨⟨goesS x.st false, x.res ++ [false], x.eff + (R x.st.mode).1⟩, ?_, rfl⟩
      have := hR 1
      unfold stepC
      rw [show Lt.worse.val R = ((R 1).2 : Int) + 1 from rfl, if_neg (by omega), if_neg (by omega), h0, if_neg (by omega), decide_eq_false (by omega)]
    · cases h
  | again =>
    simp only [absS] at h
    split at h
    · rename_i h0
      cases h
      refine ⟨⟨swB 1, x.res, x.eff⟩, ?_, rfl⟩
      unfold stepC
      rw [show Lt.again.val R = -1 from rfl, if_pos rfl, if_pos h0]
    · cases h
theorem goC_abs {R : Nat → Nat × Nat} (hR : ∀ m, (R m).2 < (R m).1) : ∀ {L : List Lt} {i : Nat} {x : Cr} {y : Sw}, absL L x.st = some y → ∃ c, goC R (L.map (Lt.val R)) i x = .inl c ∧ c.st = y
  | [], i, x, y, h => by
    rw [absL] at h; cases h
    exact ⟨x, rfl, rfl⟩
  | a :: L, i, x, y, h => by
    rw [absL] at h
    cases hs : absS x.st a with
    | none => rw [hs] at h; cases h
    | some z =>
      rw [hs] at h
      obtain ⟨c, hc, hcz⟩ := stepC_abs hR hs
      have h2 : absL L c.st = some y := by rw [hcz]; exact h
      obtain ⟨d, hd, hdy⟩ := goC_abs hR (i := i + 1) h2
      exact ⟨d, by rw [List.map_cons, goC_cons, hc]; exact hd, hdy⟩
def twoL (k : Nat) : List Lt := List.replicate k Lt.good ++ [Lt.bad] ++ List.replicate k Lt.good ++ [Lt.bad]
theorem abs_ten : absL (List.replicate 10 Lt.good) (swB 0) = some (swB 2) := by decide
theorem abs_nine : (absL (List.replicate 9 Lt.good) (swB 0)).map (·.mode) = some 0 := by decide
theorem abs_two : ∀ k, k < 9 → (absL (twoL k) (swB 0)).map (·.mode) = some (if k ≤ 3 then 1 else 0) := by decide
theorem abs_tight : absL [.bad, .bad] (swB 0) = some (swB 1) := by decide
theorem abs_back : absL ([.bad, .bad] ++ List.replicate 5 Lt.good) (swB 0) = some (swB 0) := by decide
theorem abs_stop : absL ([.bad, .bad] ++ List.replicate 5 Lt.worse) (swB 0) = some (swB 3) := by decide
theorem abs_again : absL ([.bad, .bad] ++ List.replicate 5 Lt.worse ++ [Lt.again]) (swB 0) = some (swB 1) := by decide
theorem goC_mode {R : Nat → Nat × Nat} (hR : ∀ m, (R m).2 < (R m).1) {L : List Lt} {m : Nat} (h : (absL L (swB 0)).map (·.mode) = some m) : ∃ c, goC R (L.map (Lt.val R)) 0 cr0 = .inl c ∧ c.st.mode = m := by
  cases hs : absL L (swB 0) with
  | none => rw [hs] at h; cases h
  | some y =>
    rw [hs] at h
    obtain ⟨c, h1, h2⟩ := goC_abs hR (i := 0) (x := cr0) (y := y) hs
    exact ⟨c, h1, by rw [h2]; simpa using h⟩
end MLab
