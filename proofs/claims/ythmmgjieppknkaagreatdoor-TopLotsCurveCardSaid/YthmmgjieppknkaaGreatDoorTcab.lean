/- Contracts and plain laws that the statements of this seat share (part Tcab). -/
import Derived.Test.YthmmgjieppknkaaGreatDoorKtaa
import Derived.Test.YthmmgjieppknkaaGreatDoorKtab
import Derived.Test.YthmmgjieppknkaaGreatDoorKtad
import Derived.Test.YthmmgjieppknkaaGreatDoorKtai
import Derived.Test.YthmmgjieppknkaaGreatDoorKtau
import Derived.ProofKit
namespace MLab
theorem Gr.of {q : Rat} (h0 : 0 ≤ q) (e : Nat) : Gr (q.den * e) 1 q := by
  refine ⟨h0, q.num.natAbs * e, ?_⟩
  have hn0 : 0 ≤ q.num := Rat.num_nonneg.2 h0
  rw [Nat.pow_one, Rat.natCast_mul, Rat.natCast_mul]
  have h1 : q * (q.den : Rat) = (q.num : Rat) := by
    have hd : (q.den : Rat) ≠ 0 := by exact_mod_cast q.den_nz
    have h2 : Rat.divInt q.num (q.den : Int) = q := Rat.num_divInt_den q
    rw [Rat.divInt_eq_div] at h2
    have h3 : (((q.den : Nat) : Int) : Rat) = (q.den : Rat) := rfl
    rw [h3] at h2
    have h4 : q * (q.den : Rat) = (q.num : Rat) / (q.den : Rat) * (q.den : Rat) := by rw [h2]
    rw [h4]; grind
  have h2 : ((q.num.natAbs : Nat) : Rat) = (q.num : Rat) := by
    have : ((q.num.natAbs : Nat) : Int) = q.num := by omega
    have h3 : (((q.num.natAbs : Nat) : Int) : Rat) = (q.num : Rat) := by rw [this]
    exact h3
  rw [h2, ← h1]; grind
end MLab

namespace MLab
def lastB (l : List Bool) (ok : Bool) : List Bool := (l ++ [ok]).drop ((l ++ [ok]).length - 4)
def goesS (x : Sw) (ok : Bool) : Sw :=
  if x.mode = 0 then
    if ok = false ∧ x.last.contains false = true then swB 1
    else if (if ok = true then x.run + 1 else 0) = 10 then swB 2 else ⟨0, if ok = true then x.run + 1 else 0, lastB x.last ok, 0⟩
  else if x.mode = 1 then
    if ok = true then (if x.run = 4 then swB 0 else ⟨1, x.run + 1, [], x.rej⟩)
    else if x.rej = 4 then swB 3 else ⟨1, 0, [], x.rej + 1⟩
  else if x.mode = 2 ∧ ok = false then swB 0 else x
theorem rightI_zero {mode run : Int} {l : List Bool} {rej : Int} (h : rightI mode run l rej = 0) : 0 ≤ mode ∧ mode ≤ 3 ∧ 0 ≤ run ∧ run < longI mode ∧ 0 ≤ rej ∧ rej ≤ (if mode = 1 then 4 else 0) ∧ l.length ≤ 4 ∧ fitsI mode run l = true := by
  unfold rightI at h
  by_cases h1 : mode < 0 ∨ 3 < mode
  · rw [if_pos h1] at h; omega
  · rw [if_neg h1] at h
    by_cases h2 : run < 0 ∨ longI mode ≤ run
    · rw [if_pos h2] at h; omega
    · rw [if_neg h2] at h
      by_cases h3 : rej < 0 ∨ (if mode = 1 then 4 else 0) < rej
      · rw [if_pos h3] at h; omega
      · rw [if_neg h3] at h
        by_cases h4 : 4 < l.length
        · rw [if_pos h4] at h; omega
        · rw [if_neg h4] at h
          by_cases h5 : fitsI mode run l = false
          · rw [if_pos h5] at h; omega
          · exact ⟨by omega, by omega, by omega, by omega, by omega, by omega, by omega, by simpa using h5⟩
def allB : List (List Bool) := [[], [true], [false], [true, true], [true, false], [false, true], [false, false],
  [true, true, true], [true, true, false], [true, false, true], [true, false, false], [false, true, true], [false, true, false], [false, false, true], [false, false, false],
  [true, true, true, true], [true, true, true, false], [true, true, false, true], [true, true, false, false], [true, false, true, true], [true, false, true, false], [true, false, false, true], [true, false, false, false],
  [false, true, true, true], [false, true, true, false], [false, true, false, true], [false, true, false, false], [false, false, true, true], [false, false, true, false], [false, false, false, true], [false, false, false, false]]
theorem mem_allB : ∀ {l : List Bool}, l.length ≤ 4 → l ∈ allB
  | [], _ => by decide
  | [a], _ => by cases a <;> decide
  | [a, b], _ => by cases a <;> cases b <;> decide
  | [a, b, c], _ => by cases a <;> cases b <;> cases c <;> decide
  | [a, b, c, d], _ => by cases a <;> cases b <;> cases c <;> cases d <;> decide
  | _ :: _ :: _ :: _ :: _ :: _, h => by simp at h
set_option maxRecDepth 100000 in
theorem norm_all : ∀ l ∈ allB, ∀ run : Nat, run < 10 → fitsI 0 (run : Int) l = true → ∀ ok : Bool,
    ptOf (goesS ⟨0, run, l, 0⟩ ok) = goesP (ptOf ⟨0, run, l, 0⟩) ok ∧ RightS (goesS ⟨0, run, l, 0⟩ ok) := by
  unfold RightS
  decide
set_option maxRecDepth 100000 in
theorem tight_all : ∀ run : Nat, run < 5 → ∀ rej : Nat, rej < 5 → ∀ ok : Bool,
    ptOf (goesS ⟨1, run, [], rej⟩ ok) = goesP (ptOf ⟨1, run, [], rej⟩) ok ∧ RightS (goesS ⟨1, run, [], rej⟩ ok) := by
  unfold RightS
  decide
theorem rest_all : ∀ ok : Bool, (ptOf (goesS ⟨2, 0, [], 0⟩ ok) = goesP (ptOf ⟨2, 0, [], 0⟩) ok ∧ RightS (goesS ⟨2, 0, [], 0⟩ ok)) ∧ (ptOf (goesS ⟨3, 0, [], 0⟩ ok) = goesP (ptOf ⟨3, 0, [], 0⟩) ok ∧ RightS (goesS ⟨3, 0, [], 0⟩ ok)) := by
  unfold RightS
  decide
theorem right_cases {x : Sw} (h : RightS x) : (∃ run l, x = ⟨0, run, l, 0⟩ ∧ run < 10 ∧ l.length ≤ 4 ∧ fitsI 0 (run : Int) l = true) ∨ (∃ run rej, x = ⟨1, run, [], rej⟩ ∧ run < 5 ∧ rej < 5) ∨ x = swB 2 ∨ x = swB 3 := by
  obtain ⟨mode, run, l, rej⟩ := x
  obtain ⟨h1, h2, h3, h4, h5, h6, h7, h8⟩ := rightI_zero h
  simp only at h1 h2 h3 h4 h5 h6 h7 h8
  have h9 : mode ≠ 0 → l = [] := fun h => by
    unfold fitsI at h8
    rw [if_pos (by omega)] at h8
    exact List.eq_nil_of_length_eq_zero (of_decide_eq_true h8)
  rcases (by omega : mode = 0 ∨ mode = 1 ∨ mode = 2 ∨ mode = 3) with rfl | rfl | rfl | rfl
  · left
    have : rej = 0 := by simpa using h6
    subst this
    have h4' : (run : Int) < 10 := by simpa [longI] using h4
    exact ⟨run, l, rfl, by omega, h7, h8⟩
  · right; left
    obtain rfl := h9 (by omega)
    have h6' : (rej : Int) ≤ 4 := by simpa using h6
    have h4' : (run : Int) < 5 := by simpa [longI] using h4
    exact ⟨run, rej, rfl, by omega, by omega⟩
  · right; right; left
    obtain rfl := h9 (by omega)
    have h6' : rej = 0 := by simpa using h6
    have h4' : (run : Int) < 1 := by simpa [longI] using h4
    obtain rfl : run = 0 := by omega
    rw [h6']; rfl
  · right; right; right
    obtain rfl := h9 (by omega)
    have h6' : rej = 0 := by simpa using h6
    have h4' : (run : Int) < 1 := by simpa [longI] using h4
    obtain rfl : run = 0 := by omega
    rw [h6']; rfl
theorem goesS_ok {x : Sw} (h : RightS x) (ok : Bool) : ptOf (goesS x ok) = goesP (ptOf x) ok ∧ RightS (goesS x ok) := by
  rcases right_cases h with ⟨run, l, rfl, h1, h2, h3⟩ | ⟨run, rej, rfl, h1, h2⟩ | rfl | rfl
  · exact norm_all l (mem_allB h2) run h1 h3 ok
  · exact tight_all run h1 rej h2 ok
  · exact (rest_all ok).1
  · exact (rest_all ok).2
end MLab

namespace MLab
def cr0 : Cr := ⟨swB 0, [], 0⟩
def stepC (R : Nat → Nat × Nat) (x : Cr) (n : Int) : Cr ⊕ Int :=
  if n = -1 then (if x.st.mode = 3 then .inl ⟨swB 1, x.res, x.eff⟩ else .inr 14)
  else if x.st.mode = 3 then .inr 14
  else if n < 0 ∨ ((R x.st.mode).1 : Int) < n then .inr 2
  else .inl ⟨goesS x.st (decide (n ≤ ((R x.st.mode).2 : Int))), x.res ++ [decide (n ≤ ((R x.st.mode).2 : Int))], x.eff + (R x.st.mode).1⟩
def goC (R : Nat → Nat × Nat) : List Int → Nat → Cr → Cr ⊕ (Nat × Int)
  | [], _, x => .inl x
  | n :: L, i, x => match stepC R x n with
    | .inl y => goC R L (i + 1) y
    | .inr e => .inr (i, e)
theorem goC_cons (R : Nat → Nat × Nat) (n : Int) (L : List Int) (i : Nat) (x : Cr) :
    goC R (n :: L) i x = match stepC R x n with | .inl y => goC R L (i + 1) y | .inr e => .inr (i, e) := rfl
end MLab
