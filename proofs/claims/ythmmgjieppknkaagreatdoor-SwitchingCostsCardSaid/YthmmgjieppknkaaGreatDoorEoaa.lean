/- Contracts and plain laws that the statements of this seat share (part Eoaa). -/
import Derived.Test.YthmmgjieppknkaaGreatDoorKab
import Derived.Test.YthmmgjieppknkaaGreatDoorKai
import Derived.Test.YthmmgjieppknkaaGreatDoorKau
import Derived.ProofKit
namespace MLab
theorem goC_append {R : Nat → Nat × Nat} : ∀ (L M : List Int) (i : Nat) (x y : Cr), goC R L i x = .inl y → goC R (L ++ M) i x = goC R M (i + L.length) y
  | [], M, i, x, y, h => by
    rw [goC] at h
    cases h; rfl
  | n :: L, M, i, x, y, h => by
    rw [goC_cons] at h
    rw [List.cons_append, goC_cons]
    cases hs : stepC R x n with
    | inl z =>
      rw [hs] at h
      have := goC_append L M (i + 1) z y h
      rw [List.length_cons, show i + (L.length + 1) = i + 1 + L.length by omega]; exact this
    | inr e => rw [hs] at h; cases h
theorem goC_append_err {R : Nat → Nat × Nat} : ∀ (L M : List Int) (i : Nat) (x : Cr) (e : Nat × Int), goC R L i x = .inr e → goC R (L ++ M) i x = .inr e
  | [], M, i, x, e, h => by rw [goC] at h; cases h
  | n :: L, M, i, x, e, h => by
    rw [goC_cons] at h
    rw [List.cons_append, goC_cons]
    cases hs : stepC R x n with
    | inl z => rw [hs] at h; exact goC_append_err L M (i + 1) z e h
    | inr e2 => rw [hs] at h; exact h
theorem goC_last {R : Nat → Nat × Nat} {L : List Int} {n : Int} {i : Nat} {x y : Cr} (hn : n ≠ -1) (h : goC R (L ++ [n]) i x = .inl y) :
    ∃ z, goC R L i x = .inl z ∧ z.st.mode ≠ 3 ∧ y.eff = z.eff + (R z.st.mode).1 := by
  cases hz : goC R L i x with
  | inr e => rw [goC_append_err _ _ _ _ _ hz] at h; cases h
  | inl z =>
    rw [goC_append _ _ _ _ _ hz, goC_cons] at h
    refine ⟨z, rfl, ?_⟩
    cases hs : stepC R z n with
    | inr e => rw [hs] at h; cases h
    | inl u =>
      rw [hs] at h
      have h : u = y := by simpa [goC] using h
      subst h
      unfold stepC at hs
      rw [if_neg hn] at hs
      split at hs
      · cases hs
      · rename_i h3
        split at hs
        · cases hs
        · cases hs; exact ⟨h3, rfl⟩
end MLab
