/- What the calls of ProfileTurns return. -/
import Derived.Test.YtendaaghmeoddaaGreatDoorPturnl
import Derived.Test.YtendaaghmeoddaaGreatDoorPin
namespace Go.Proofs.YtendaaghmeoddaaGreatDoor
open Go.RowKit MLab

theorem turns_facts {L : List S2} {px py : Int} {k : Nat} (h : chkP L true = 0) (hp : Co px ∧ Co py) (hk : k < L.length) :
    ∃ (s : Int) (t : ByteArray) (i0 i1 i2 i3 : Int), (s = 0 ∨ s = 1 ∨ s = -1) ∧ (t.toList == [48]) = decide (s = 0) ∧
      inV L px py = .tuple #[.int .i64 s, .int .i64 0] ∧ neV L true px py = .tuple #[.string t, .int .i64 i0, .int .i64 0] ∧
      inV (rotL k L) px py = .tuple #[.int .i64 s, .int .i64 0] ∧ neV (rotL k L) true px py = .tuple #[.string t, .int .i64 i1, .int .i64 0] ∧
      inV L.reverse px py = .tuple #[.int .i64 s, .int .i64 0] ∧ neV L.reverse true px py = .tuple #[.string t, .int .i64 i2, .int .i64 0] ∧
      inV (L.map sw) py px = .tuple #[.int .i64 s, .int .i64 0] ∧ neV (L.map sw) true py px = .tuple #[.string t, .int .i64 i3, .int .i64 0] := by
  have hp' : Co py ∧ Co px := ⟨hp.2, hp.1⟩
  have hL : 1 ≤ L.length := by omega
  have key : ∀ (M : List S2) (x y : Int), chkP M true = 0 → Co x ∧ Co y → locP M (x, y) = locP L (px, py) ∧ distP M (x, y) = distP L (px, py) →
      ∃ i : Int, inV M x y = .tuple #[.int .i64 (locP L (px, py)), .int .i64 0] ∧ neV M true x y = .tuple #[.string ⟨(RT (distP L (px, py))).toArray⟩, .int .i64 i, .int .i64 0] := fun M x y hM hxy he => by
    refine ⟨((iN M true (x, y) : Nat) : Int), ?_, ?_⟩
    · unfold inV; rw [if_pos hM, if_pos hxy, he.1]
    · unfold neV; rw [if_pos hM, if_pos hxy, show dN M true (x, y) = distP M (x, y) from rfl, he.2]
  obtain ⟨i0, a0, b0⟩ := key L px py h hp ⟨rfl, rfl⟩
  obtain ⟨i1, a1, b1⟩ := key (rotL k L) px py (rot_chk h hk) hp (rot_turn hk _)
  obtain ⟨i2, a2, b2⟩ := key L.reverse px py (rev_chk h) hp (rev_turn hL _)
  obtain ⟨i3, a3, b3⟩ := key (L.map sw) py px (swl_chk h) hp' (swl_turn hL (px, py))
  refine ⟨locP L (px, py), _, i0, i1, i2, i3, ?_, ?_, a0, b0, a1, b1, a2, b2, a3, b3⟩
  · unfold locP; split
    · exact .inl rfl
    · split
      · exact .inr (.inl rfl)
      · exact .inr (.inr rfl)
  · rw [rt48]
    refine decide_eq_decide.2 ?_
    unfold distP locP
    constructor
    · intro e; rw [if_pos e]
    · intro e; split at e
      · assumption
      · split at e <;> exact absurd e (by decide)
end Go.Proofs.YtendaaghmeoddaaGreatDoor
