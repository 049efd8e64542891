/- Contracts and plain laws that the statements of this seat share (part Ktai). -/
import Derived.Test.YthmmgjieppknkaaGreatDoorKtaa
import Derived.Test.YthmmgjieppknkaaGreatDoorKtab
import Derived.Test.YthmmgjieppknkaaGreatDoorKtac
import Derived.Test.YthmmgjieppknkaaGreatDoorKtad
import Derived.Test.YthmmgjieppknkaaGreatDoorKtag
import Derived.Test.YthmmgjieppknkaaGreatDoorKtah
namespace Go.Proofs.YthmmgjieppknkaaGreatDoor
open Go.RowKit MLab
def RowB (w : World) (g cap n : Nat) (x : Nat → Bool) : Prop := ∃ cur : Array Value, Blk w g 4 cur ∧ cur.size = cap ∧ ∀ p, p < n → cur[p]? = some (.bool (x p))
theorem RowB.set {w : World} {g cap n : Nat} {x : Nat → Bool} (h : RowB w g cap n x) (k : Nat) (hk : k < n) (hn : n ≤ cap) (b : Bool) : RowB (w.setCell ⟨g, k, none⟩ (.bool b)) g cap n (fun p => if p = k then b else x p) := by
  obtain ⟨cur, h1, h2, h3⟩ := h
  refine ⟨_, h1.set_ k (.bool b), by simpa using h2, fun p hp => ?_⟩
  rw [Array.getElem?_setIfInBounds]
  by_cases e : k = p
  · subst e
    rw [if_pos rfl, if_pos (by omega)]
    show some (Value.bool b) = some (Value.bool (if k = k then b else x k))
    rw [if_pos rfl]
  · rw [if_neg e]
    show cur[p]? = some (Value.bool (if p = k then b else x p))
    rw [if_neg (fun h => e h.symm)]; exact h3 p hp
theorem RowB.drew {w : World} {g cap n : Nat} {x : Nat → Bool} (h : RowB w g cap n x) : RowB w.drew g cap n x := h
theorem RowB.congr {w : World} {g cap n : Nat} {x y : Nat → Bool} (h : RowB w g cap n x) (e : ∀ p, p < n → x p = y p) : RowB w g cap n y := by
  obtain ⟨cur, h1, h2, h3⟩ := h
  exact ⟨cur, h1, h2, fun p hp => by rw [h3 p hp, e p hp]⟩
theorem RowB.cell {w : World} {g cap n : Nat} {x : Nat → Bool} (h : RowB w g cap n x) {p : Nat} (hp : p < n) : w.cell? ⟨g, p, none⟩ = some (.bool (x p)) := by
  obtain ⟨cur, h1, h2, h3⟩ := h
  exact (Blk.cell h1 p).trans (h3 p hp)
theorem RowB.frozen {w : World} {g cap n : Nat} {x : Nat → Bool} (h : RowB w g cap n x) (p : Nat) : w.frozen? ⟨g, p, none⟩ = false := by
  obtain ⟨cur, h1, _⟩ := h
  exact Blk.frozen h1 p
theorem RowB.far {w : World} {g cap n : Nat} {x : Nat → Bool} (h : RowB w g cap n x) {p : Addr} (hp : g ≠ p.block) (u : Value) : RowB (w.setCell p u) g cap n x := by
  obtain ⟨cur, h1, h2⟩ := h
  exact ⟨cur, h1.far hp u, h2⟩
theorem SlL.zero (w : World) (A : Option Addr) (c : Nat) : SlL w (.slice A 0 c) [] := ⟨A, c, rfl, Nat.zero_le _, fun h => absurd h (by simp)⟩
theorem SlL.one (W : World) (t : TypeId) (x : Value) : SlL (W.alloc (.cells #[x] t)) (.slice (some ⟨W.heap.size, 0, none⟩) 1 1) [x] :=
  ⟨_, 1, rfl, Nat.le_refl _, fun _ => ⟨W.heap.size, 0, rfl, fun p y hp => by
    have hlt : p < 1 := (List.getElem?_eq_some_iff.1 hp).1
    obtain rfl : p = 0 := by omega
    obtain rfl : x = y := by simpa using hp
    exact (Blk.cell (Blk.new W t #[x]) 0).trans rfl⟩⟩
def StV (w : World) (v : Value) (x : Sw) : Prop := ∃ sl, v = .agg #[.int .i64 (x.mode : Int), .int .i64 (x.run : Int), sl, .int .i64 (x.rej : Int)] ∧ SlL w sl (bcl x.last)
theorem StV.below {w w' : World} {v : Value} {x : Sw} (h : StV w v x) (hb : Below w.heap.size w w') : StV w' v x := by
  obtain ⟨sl, h1, h2⟩ := h
  exact ⟨sl, h1, h2.below hb⟩
def FrV (B : Nat) (sl : Value) : Prop := ∀ g o n c, sl = .slice (some ⟨g, o, none⟩) (n + 1) c → B ≤ g
theorem FrV.zero (B : Nat) (A : Option Addr) (c : Nat) : FrV B (.slice A 0 c) := fun g o n c h => by simp at h
theorem FrV.mono {B C : Nat} {sl : Value} (h : FrV B sl) (hc : C ≤ B) : FrV C sl := fun g o n c e => Nat.le_trans hc (h g o n c e)
def StN (B : Nat) (w : World) (v : Value) (x : Sw) : Prop := ∃ sl, v = .agg #[.int .i64 (x.mode : Int), .int .i64 (x.run : Int), sl, .int .i64 (x.rej : Int)] ∧ SlL w sl (bcl x.last) ∧ FrV B sl
theorem StN.st {B : Nat} {w : World} {v : Value} {x : Sw} (h : StN B w v x) : StV w v x := by
  obtain ⟨sl, h1, h2, _⟩ := h
  exact ⟨sl, h1, h2⟩
end Go.Proofs.YthmmgjieppknkaaGreatDoor

namespace Go.Proofs.YthmmgjieppknkaaGreatDoor
open Go.RowKit MLab
theorem SlL.own {w w' : World} {r : Nat} {T : TypeId} {cs : Array Value} {sl : Value} {l : List Bool} (h : SlL w sl (bcl l)) (hr : Blk w r T cs) (hcs : ∀ (i : Nat) (b : Bool), cs[i]? ≠ some (Value.bool b)) (hg : w.grownBy w' (some r)) : SlL w' sl (bcl l) := by
  obtain ⟨A, c, hv, hcap, hc⟩ := h
  refine ⟨A, c, hv, hcap, fun h0 => ?_⟩
  obtain ⟨g, o, hA, hcell⟩ := hc h0
  refine ⟨g, o, hA, fun p x hp => ?_⟩
  have h1 := hcell p x hp
  obtain ⟨b, _, rfl⟩ := bcl_lt hp
  have hne : g ≠ r := fun e => by
    subst e
    rw [Blk.cell hr] at h1
    exact hcs _ _ h1
  refine Eq.trans ?_ h1
  have h2 := hg.block g (block_lt_of_cell h1) (fun e => hne (Option.some.inj e))
  simp only [World.cell?]
  rw [h2]
end Go.Proofs.YthmmgjieppknkaaGreatDoor
