/- The insertion sort of indices of points, step by step. Plain: no program in sight. -/
import Derived.Test.YtblfinpfcpglcaaGreatDoorStraight
import Derived.Lib.Small
namespace Go.Proofs.YtblfinpfcpglcaaGreatDoor

/-- a comes before b. -/
def before (a b : S2) : Bool := decide (a.1 < b.1 ∨ a.1 = b.1 ∧ a.2 < b.2)
/-- The order of two points, as the program says it. -/
def ordc (a b : S2) : Int := if Lib.compareInt a.1 b.1 = 0 then Lib.compareInt a.2 b.2 else Lib.compareInt a.1 b.1
theorem ordc_before (a b : S2) : (ordc a b < 0) = (before a b = true) := by
  unfold ordc before Lib.compareInt
  simp only [decide_eq_true_eq]
  apply propext
  split <;> (try split) <;> (try split) <;> (try split) <;> omega
/-- The elements k and k + 1 exchanged. -/
def swp (d : Nat → Nat) (k : Nat) : Nat → Nat := fun p => if p = k then d (k + 1) else if p = k + 1 then d k else d p
/-- The element k goes down to its place. -/
def bub (L : List S2) : Nat → (Nat → Nat) → Nat → Nat
  | 0, d => d
  | k + 1, d => if before (gP L (d (k + 1))) (gP L (d k)) then bub L k (swp d k) else d
/-- The first i indices, sorted; the others as they were. -/
def ins (L : List S2) : Nat → Nat → Nat
  | 0 => fun p => p
  | i + 1 => bub L i (ins L i)
theorem bub_far (L : List S2) : ∀ (k : Nat) (d : Nat → Nat) (p : Nat), k < p → bub L k d p = d p
  | 0, _, _, _ => rfl
  | k + 1, d, p, h => by
    rw [bub]
    split
    · rw [bub_far L k _ p (by omega), swp, if_neg (by omega), if_neg (by omega)]
    · rfl
theorem ins_far (L : List S2) : ∀ (i p : Nat), i ≤ p → ins L i p = p
  | 0, _, _ => rfl
  | i + 1, p, h => by rw [ins, bub_far L i _ p (by omega), ins_far L i p (by omega)]
theorem swp_lt {d : Nat → Nat} {k n : Nat} (hk : k + 1 < n) (h : ∀ p, p < n → d p < n) : ∀ p, p < n → swp d k p < n := by
  intro p hp
  unfold swp
  split
  · exact h _ hk
  · split
    · exact h _ (by omega)
    · exact h _ hp
theorem bub_lt (L : List S2) {n : Nat} : ∀ (k : Nat) (d : Nat → Nat), k < n → (∀ p, p < n → d p < n) → ∀ p, p < n → bub L k d p < n
  | 0, _, _, h => h
  | k + 1, d, hk, h => by
    rw [bub]
    split
    · exact bub_lt L k _ (by omega) (swp_lt hk h)
    · exact h
theorem ins_lt (L : List S2) {n : Nat} : ∀ (i : Nat), i ≤ n → ∀ p, p < n → ins L i p < n
  | 0, _, _, hp => hp
  | i + 1, h, p, hp => bub_lt L i _ (by omega) (ins_lt L i (by omega)) p hp
end Go.Proofs.YtblfinpfcpglcaaGreatDoor
