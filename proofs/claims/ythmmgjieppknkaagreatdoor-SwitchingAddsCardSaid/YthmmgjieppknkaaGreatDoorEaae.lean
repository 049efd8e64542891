/- Contracts and plain laws that the statements of this seat share (part Eaae). -/
import Derived.Test.YthmmgjieppknkaaGreatDoorEaaa
import Derived.Test.YthmmgjieppknkaaGreatDoorEaab
import Derived.Test.YthmmgjieppknkaaGreatDoorKab
import Derived.Test.YthmmgjieppknkaaGreatDoorKai
import Derived.Test.YthmmgjieppknkaaGreatDoorKas
namespace Go.Proofs.YthmmgjieppknkaaGreatDoor
open MLab
theorem grC_of {c : Nat → Rat} {n : Nat} (h0 : ∀ m, 0 ≤ c m) (h1 : ∀ m, c m ≤ 1) (hs : ((c 0).den * (c 1).den * (c 2).den) ^ n ≤ 10 ^ 499) : GrC ((c 0).den * (c 1).den * (c 2).den) n c := by
  have a := (c 0).den_pos
  have b := (c 1).den_pos
  have d := (c 2).den_pos
  refine ⟨Nat.mul_pos (Nat.mul_pos a b) d, fun m hm => ?_, h1, h0, hs⟩
  rcases (by omega : m = 0 ∨ m = 1 ∨ m = 2) with rfl | rfl | rfl
  · rw [Nat.mul_assoc]; exact Gr.of (h0 0) _
  · rw [show (c 0).den * (c 1).den * (c 2).den = (c 1).den * ((c 0).den * (c 2).den) by rw [Nat.mul_comm (c 0).den, Nat.mul_assoc]]; exact Gr.of (h0 1) _
  · rw [Nat.mul_comm]; exact Gr.of (h0 2) _
end Go.Proofs.YthmmgjieppknkaaGreatDoor
