/- Contracts and plain laws that the statements of this seat share (part Ktak). -/
import Derived.Test.YthmmgjieppknkaaGreatDoorKtaa
import Derived.Test.YthmmgjieppknkaaGreatDoorKtac
import Derived.RangeFuncNested
import Derived.RangeFuncBox
import Derived.RangeFuncBound
import Derived.RangeFuncCalls
import Derived.RangeFuncLeaves
import Derived.Shelf.Abstract
import Derived.Shelf.RegionOpen
import Derived.OwnWalkIn
import Derived.TacticsInMore
import Derived.LoopNIn
import Derived.LoopIn
namespace Go.Proofs.YthmmgjieppknkaaGreatDoor
open Go.RowKit Go.Shelf MLab
def Blks (W : World) (L : List (Nat × TypeId × Array Value)) : Prop := ∀ x ∈ L, Blk W x.1 x.2.1 x.2.2
theorem Blks.below {W W' : World} {L : List (Nat × TypeId × Array Value)} (h : Blks W L) (hb : Below W.heap.size W W') : Blks W' L := fun x hx => Blk.below (h x hx) hb (Blk.lt (h x hx))
theorem Blks.grown {W W' : World} {row : Option Nat} {L : List (Nat × TypeId × Array Value)} (h : Blks W L) (hg : W.grownBy W' row) (hr : ∀ x ∈ L, some x.1 ≠ row) : Blks W' L := fun x hx => Blk.grown (h x hx) hg (hr x hx)
theorem Blks.turned {W W' : World} {row : Option Nat} {L : List (Nat × TypeId × Array Value)} (h : Blks W L) (hg : W.grownBy W' row) (hr : ∀ r, row = some r → ∃ o : Obj, W.heap[r]? = some o ∧ o.isCells = false) : Blks W' L :=
  h.grown hg (fun x hx e => by
    obtain ⟨o, ho, hc⟩ := hr x.1 e.symm
    rw [show W.heap[x.1]? = _ from h x hx] at ho; cases ho; cases hc)
theorem Blks.own {β : Type} (B : Nat) (L : List (Nat × TypeId × Array Value)) : OwnFrom (β := β) B (fun _ W => Blks W L) := fun _ _ _ _ h hg hr => h.turned hg (fun r e => (hr r e).2)
theorem Blks.set {W : World} {L : List (Nat × TypeId × Array Value)} (h : Blks W L) {b : Nat} (hb : ∀ x ∈ L, x.1 ≠ b) (o : Nat) (v : Value) : Blks (W.setCell ⟨b, o, none⟩ v) L := fun x hx => Blk.far (h x hx) (p := ⟨b, o, none⟩) (hb x hx) v
theorem Blks.drew {W : World} {L : List (Nat × TypeId × Array Value)} (h : Blks W L) : Blks W.drew L := h
def KpB (n : Nat) (L : List (Nat × TypeId × Array Value)) (W W' : World) : Prop := Below n W W' ∧ (Blks W L → Blks W' L)
theorem KpB.trans {n : Nat} {L : List (Nat × TypeId × Array Value)} {A B C : World} (h : KpB n L A B) (k : KpB n L B C) : KpB n L A C := ⟨h.1.trans k.1, fun e => k.2 (h.2 e)⟩
theorem KpB.put {n : Nat} {L : List (Nat × TypeId × Array Value)} {w : World} (hn : n ≤ w.heap.size) (W : World) (l : Nat) (o o' : Obj) (hl : w.heap.size ≤ l) (h : W.heap[l]? = some o) (hc : o.isCells = false) (hk : o.isWalk = false) : KpB n L W (W.putObj l o') :=
  ⟨belowK_b hn W l o o' hl h hc hk, fun e => e.turned (grownBy_putObj' W l o') (fun r e => by cases e; exact ⟨o, h, hc⟩)⟩
end Go.Proofs.YthmmgjieppknkaaGreatDoor
