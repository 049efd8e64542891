/- What a loop over an iterator keeps: a list of blocks. -/
import Derived.RangeFuncNested
import Derived.RangeFuncBox
import Derived.RangeFuncBound
import Derived.RangeFuncCalls
import Derived.RangeFuncLeaves
import Derived.Shelf.Abstract
import Derived.Shelf.RegionOpen
import Derived.OwnWalkIn
import Derived.TacticsInMore
import Derived.LoopNIn
import Derived.LoopIn
import Derived.Test.YtaccdkbofhlbkaaGreatDoorMem
namespace Go.Proofs.YtaccdkbofhlbkaaGreatDoor
open Go.RowKit Go.Shelf MLab

/-- These blocks lie there. -/
def Blks (W : World) (L : List (Nat × TypeId × Array Value)) : Prop := ∀ x ∈ L, Blk W x.1 x.2.1 x.2.2
theorem Blks.below {W W' : World} {L : List (Nat × TypeId × Array Value)} (h : Blks W L) (hb : Below W.heap.size W W') : Blks W' L := fun x hx => Blk.below (h x hx) hb (Blk.lt (h x hx))
theorem Blks.grown {W W' : World} {row : Option Nat} {L : List (Nat × TypeId × Array Value)} (h : Blks W L) (hg : W.grownBy W' row) (hr : ∀ x ∈ L, some x.1 ≠ row) : Blks W' L := fun x hx => Blk.grown (h x hx) hg (hr x hx)
theorem Blks.turned {W W' : World} {row : Option Nat} {L : List (Nat × TypeId × Array Value)} (h : Blks W L) (hg : W.grownBy W' row) (hr : ∀ r, row = some r → ∃ o : Obj, W.heap[r]? = some o ∧ o.isCells = false) : Blks W' L :=
  h.grown hg (fun x hx e => by
    obtain ⟨o, ho, hc⟩ := hr x.1 e.symm
    rw [show W.heap[x.1]? = _ from h x hx] at ho; cases ho; cases hc)
theorem Blks.own {β : Type} (B : Nat) (L : List (Nat × TypeId × Array Value)) : OwnFrom (β := β) B (fun _ W => Blks W L) := fun _ _ _ _ h hg hr => h.turned hg (fun r e => (hr r e).2)
theorem Blks.set {W : World} {L : List (Nat × TypeId × Array Value)} (h : Blks W L) {b : Nat} (hb : ∀ x ∈ L, x.1 ≠ b) (o : Nat) (v : Value) : Blks (W.setCell ⟨b, o, none⟩ v) L := fun x hx => Blk.far (h x hx) (p := ⟨b, o, none⟩) (hb x hx) v
theorem Blks.drew {W : World} {L : List (Nat × TypeId × Array Value)} (h : Blks W L) : Blks W.drew L := h
/-- A slice's own row is no block of another type. -/
theorem Blk.not_row {W : World} {B : Nat} {t e : TypeId} {cs : Array Value} (h : Blk W B t cs) (hte : t ≠ e) {base size k : Nat} {v : Value} {xs : List Value} (hr : W.ownsRow base e size v k xs) : some B ≠ v.ownBlock := by
  rcases hr.2 with ⟨rfl, _⟩ | ⟨g, cap, cur, rfl, _, hgb, _⟩
  · simp [Value.ownBlock]
  · intro e'
    obtain rfl : B = g := by simpa [Value.ownBlock] using e'
    have := (show W.heap[B]? = _ from h).symm.trans hgb
    simp at this
    exact hte this.2
theorem Blks.appended {W w1 : World} {L : List (Nat × TypeId × Array Value)} (h : Blks W L) {n₀ O : Nat} {e : TypeId} {size k : Nat} {v : Value} {xs : List Value} {tmp : Obj} (hte : ∀ x ∈ L, x.2.1 ≠ e) (hO : ∀ x ∈ L, x.1 ≠ O)
    (hrow : W.ownsRow n₀ e size v k xs) (hgrow : (W.alloc tmp).grownBy w1 v.ownBlock) (v' : Value) : Blks (w1.setCell ⟨O, 0, none⟩ v') L :=
  Blks.set (fun x hx => Blk.grown ((h x hx).alloc tmp) hgrow (Blk.not_row (h x hx) (hte x hx) hrow)) hO 0 v'

/-- What a round keeps: what lay below n, and these blocks. -/
def KpB (n : Nat) (L : List (Nat × TypeId × Array Value)) (W W' : World) : Prop := Below n W W' ∧ (Blks W L → Blks W' L)
theorem KpB.trans {n : Nat} {L : List (Nat × TypeId × Array Value)} {A B C : World} (h : KpB n L A B) (k : KpB n L B C) : KpB n L A C := ⟨h.1.trans k.1, fun e => k.2 (h.2 e)⟩
theorem KpB.of_below {n : Nat} {L : List (Nat × TypeId × Array Value)} {A B : World} (hn : n ≤ A.heap.size) (h : Below A.heap.size A B) : KpB n L A B := ⟨h.mono hn, fun e => e.below h⟩
theorem KpB.put {n : Nat} {L : List (Nat × TypeId × Array Value)} {w : World} (hn : n ≤ w.heap.size) (W : World) (l : Nat) (o o' : Obj) (hl : w.heap.size ≤ l) (h : W.heap[l]? = some o) (hc : o.isCells = false) (hk : o.isWalk = false) : KpB n L W (W.putObj l o') :=
  ⟨belowK_b hn W l o o' hl h hc hk, fun e => e.turned (grownBy_putObj' W l o') (fun r e => by cases e; exact ⟨o, h, hc⟩)⟩
theorem grown_of_below {w w' : World} (h : Below w.heap.size w w') (row : Option Nat) : w.grownBy w' row := ⟨h.os, h.tape, h.output, h.size, fun k hk _ => h.block k hk⟩
theorem keepsFromB {B : Nat} {W W' : World} (h : Below W.heap.size W W') : KeepsFrom B W W' := ⟨h.size, fun k _ _ h0 _ => (h.block k (Array.getElem?_eq_some_iff.1 h0).1).trans h0⟩
theorem drewGB (W : World) : W.grownBy W.drew none := ⟨rfl, rfl, rfl, Nat.le_refl _, fun _ _ _ => rfl⟩
end Go.Proofs.YtaccdkbofhlbkaaGreatDoor
