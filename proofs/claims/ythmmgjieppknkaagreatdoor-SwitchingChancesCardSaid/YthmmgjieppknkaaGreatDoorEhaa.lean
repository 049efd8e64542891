/- Contracts and plain laws that the statements of this seat share (part Ehaa). -/
import Derived.Test.YthmmgjieppknkaaGreatDoorKab
import Derived.ProofKit
namespace MLab
theorem AddL.keys {α : Type} {L L' : List (α × Rat)} {a : α} {x : Rat} {P : α → Prop} (h : AddL L a x L') (hL : ∀ y ∈ L, P y.1) (ha : P a) : ∀ y ∈ L', P y.1 := by
  rcases h with ⟨_, rfl⟩ | ⟨j, u, hj, rfl⟩
  · intro y hy
    rcases List.mem_append.1 hy with hy | hy
    · exact hL y hy
    · obtain rfl := List.mem_singleton.1 hy; exact ha
  · intro y hy
    rcases List.mem_or_eq_of_mem_set hy with hy | rfl
    · exact hL y hy
    · exact ha
end MLab
