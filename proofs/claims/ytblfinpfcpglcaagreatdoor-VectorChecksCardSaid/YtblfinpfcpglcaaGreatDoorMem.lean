/- Words for memory: a number in words behind a pointer; frames. -/
import Derived.Test.YtblfinpfcpglcaaGreatDoorChecked
import Derived.Test.YtblfinpfcpglcaaGreatDoorNum
import Derived.Test.YtblfinpfcpglcaaGreatDoorDec
import Derived.WalkKit
import Derived.WalkSpells
import Derived.WalkLawsBesides
import Derived.Lib.Hide
import Derived.IntWalk
import Derived.BigQuiet
import Derived.Deep.QuietTactic
import Derived.Deep.LoopGhost
import Derived.Deep.DeepCutAuto
import Derived.Deep.DeepFit
import Derived.Deep.Light
import Derived.Outline
import Derived.Laws.Rows
import Derived.Laws.NewBlocks
import Derived.Laws.CopyOwn
import Derived.Laws.Tables
namespace Go.Proofs.YtblfinpfcpglcaaGreatDoor
open Go.RowKit MLab

theorem hide {p : Prop} (h : p) : Hid p := h

/-- Block g is just the cells cs of element type t, none frozen. -/
def Blk (w : World) (g : Nat) (t : TypeId) (cs : Array Value) : Prop := w.heap[g]? = some (.cells cs t (0, 0))

section
variable {w w' : World} {g : Nat} {t : TypeId} {cs : Array Value}
theorem Blk.lt (h : Blk w g t cs) : g < w.heap.size := by
  rcases Nat.lt_or_ge g w.heap.size with hlt | hge
  · exact hlt
  · unfold Blk at h; rw [Array.getElem?_eq_none hge] at h; cases h
theorem Blk.cell (h : Blk w g t cs) (i : Nat) : w.cell? ⟨g, i, none⟩ = cs[i]? := cell_of_row w g i cs t (0, 0) h
theorem Blk.frozen (h : Blk w g t cs) (i : Nat) : w.frozen? ⟨g, i, none⟩ = false := by
  unfold Blk at h
  simp [World.frozen?, h]
theorem Blk.new (w : World) (t : TypeId) (cs : Array Value) : Blk (w.alloc (.cells cs t)) w.heap.size t cs := heap_alloc_new w _
theorem Blk.drew (h : Blk w g t cs) : Blk w.drew g t cs := h
theorem Blk.drewN (h : Blk w g t cs) (n : Nat) : Blk (w.drewN n) g t cs := h
theorem Blk.alloc (h : Blk w g t cs) (o : Obj) : Blk (w.alloc o) g t cs := (Below.heap_alloc w o g h.lt).trans h
theorem Blk.set_ (h : Blk w g t cs) (i : Nat) (u : Value) : Blk (w.setCell ⟨g, i, none⟩ u) g t (cs.setIfInBounds i u) := by
  unfold Blk at h ⊢
  simp [World.setCell, Array.getElem?_modify, h]
theorem Blk.far (h : Blk w g t cs) {p : Addr} (hp : g ≠ p.block) (u : Value) : Blk (w.setCell p u) g t cs := (Below.heap_setCell w p u g hp).trans h
theorem Blk.below {B : Nat} (h : Blk w g t cs) (hb : Below B w w') (hg : g < B) : Blk w' g t cs := (hb.block g hg).trans h
theorem Blk.grown {row : Option Nat} (h : Blk w g t cs) (hb : w.grownBy w' row) (hg : some g ≠ row) : Blk w' g t cs := (hb.block g h.lt hg).trans h
end

section
variable {a w w1 : World} {row : Option Nat}
theorem only_drewN (h : a.grownBy w row) (n : Nat) : a.grownBy (w.drewN n) row := ⟨h.os, h.tape, h.output, h.size, h.block⟩
theorem only_drew (h : a.grownBy w row) : a.grownBy w.drew row := ⟨h.os, h.tape, h.output, h.size, h.block⟩
theorem only_alloc (h : a.grownBy w row) (o : Obj) : a.grownBy (w.alloc o) row :=
  ⟨h.os, h.tape, h.output, Nat.le_trans h.size (by simp), fun i hi hne => (Below.heap_alloc w o i (Nat.lt_of_lt_of_le hi h.size)).trans (h.block i hi hne)⟩
theorem only_setCell {g : Nat} (h : a.grownBy w (some g)) {p : Addr} (hp : p.block = g ∨ a.heap.size ≤ p.block) (u : Value) : a.grownBy (w.setCell p u) (some g) :=
  ⟨h.os, h.tape, h.output, by simpa [World.setCell] using h.size, fun i hi hne => (Below.heap_setCell w p u i (by
    rintro rfl
    rcases hp with hp | hp
    · exact hne (by rw [hp])
    · omega)).trans (h.block i hi hne)⟩
theorem only_of_below (h : Below a.heap.size a w) (row : Option Nat) : a.grownBy w row := ⟨h.os, h.tape, h.output, h.size, fun i hi _ => h.block i hi⟩
theorem only_refl (a : World) (row : Option Nat) : a.grownBy a row := ⟨rfl, rfl, rfl, Nat.le_refl _, fun _ _ _ => rfl⟩
theorem only_trans (h : a.grownBy w row) (k : w.grownBy w1 row) : a.grownBy w1 row :=
  ⟨k.os.trans h.os, k.tape.trans h.tape, k.output.trans h.output, Nat.le_trans h.size k.size, fun i hi hne => (k.block i (Nat.lt_of_lt_of_le hi h.size) hne).trans (h.block i hi hne)⟩
/-- What writes a block that is new keeps the old ones. -/
theorem only_new {g : Nat} (h : a.grownBy w row) (k : w.grownBy w1 (some g)) (hg : a.heap.size ≤ g) : a.grownBy w1 row :=
  ⟨k.os.trans h.os, k.tape.trans h.tape, k.output.trans h.output, Nat.le_trans h.size k.size, fun i hi hne => (k.block i (Nat.lt_of_lt_of_le hi h.size) (by intro e; injection e; omega)).trans (h.block i hi hne)⟩
theorem only_setRow {g : Nat} (h : a.grownBy w row) (hg : row = some g ∨ a.heap.size ≤ g) (cs : Array Value) : a.grownBy (w.setRow g cs) row :=
  ⟨h.os, h.tape, h.output, by simpa using h.size, fun i hi hne => (setRow_other w g i cs (by
    rintro rfl
    rcases hg with hg | hg
    · exact hne hg.symm
    · omega)).trans (h.block i hi hne)⟩
theorem below_drewN {B : Nat} (h : Below B a w) (n : Nat) : Below B a (w.drewN n) := ⟨h.os, h.tape, h.output, h.size, h.block⟩
/-- What writes only a block of the call's own leaves what is below as it was. -/
theorem below_only {B g : Nat} (h : Below B a w) (k : w.grownBy w1 (some g)) (hB : B ≤ w.heap.size) (hg : B ≤ g) : Below B a w1 :=
  h.grown k hB (fun k e => by injection e with e; omega)
end

/-! ### A number in words: the struct 'wide' -/

/-- Block b is a 'wide' with this sign, this count and these words. -/
def Wd (w : World) (b : Nat) (less : Bool) (n : Nat) (d : Nat → Nat) : Prop :=
  ∃ cs, Blk w b 172 cs ∧ cs.size = 234 ∧ cs[0]? = some (.bool less) ∧ cs[1]? = some (.int .i64 (n : Int)) ∧ ∀ i, i < 232 → cs[2 + i]? = some (.int .i64 (d i : Int))

section
variable {w w' : World} {b n : Nat} {less : Bool} {d : Nat → Nat}
theorem Wd.lt (h : Wd w b less n d) : b < w.heap.size := by obtain ⟨_, h, _⟩ := h; exact h.lt
theorem Wd.sgn (h : Wd w b less n d) : w.cell? ⟨b, 0, none⟩ = some (.bool less) := by obtain ⟨cs, h, _, h0, _⟩ := h; rw [h.cell, h0]
theorem Wd.cnt (h : Wd w b less n d) : w.cell? ⟨b, 1, none⟩ = some (.int .i64 (n : Int)) := by obtain ⟨cs, h, _, _, h1, _⟩ := h; rw [h.cell, h1]
theorem Wd.at_ (h : Wd w b less n d) {i : Nat} (hi : i < 232) : w.cell? ⟨b, 2 + i, none⟩ = some (.int .i64 (d i : Int)) := by obtain ⟨cs, h, _, _, _, h2⟩ := h; rw [h.cell, h2 i hi]
theorem Wd.frozen (h : Wd w b less n d) (i : Nat) : w.frozen? ⟨b, i, none⟩ = false := by obtain ⟨cs, h, _⟩ := h; exact h.frozen i
theorem Wd.drew (h : Wd w b less n d) : Wd w.drew b less n d := h
theorem Wd.drewN (h : Wd w b less n d) (k : Nat) : Wd (w.drewN k) b less n d := h
theorem Wd.alloc (h : Wd w b less n d) (o : Obj) : Wd (w.alloc o) b less n d := by obtain ⟨cs, h, r⟩ := h; exact ⟨cs, h.alloc o, r⟩
theorem Wd.far (h : Wd w b less n d) {p : Addr} (hp : b ≠ p.block) (u : Value) : Wd (w.setCell p u) b less n d := by obtain ⟨cs, h, r⟩ := h; exact ⟨cs, h.far hp u, r⟩
theorem Wd.below {B : Nat} (h : Wd w b less n d) (hb : Below B w w') (hg : b < B) : Wd w' b less n d := by obtain ⟨cs, h, r⟩ := h; exact ⟨cs, h.below hb hg, r⟩
theorem Wd.grown {row : Option Nat} (h : Wd w b less n d) (hb : w.grownBy w' row) (hg : some b ≠ row) : Wd w' b less n d := by obtain ⟨cs, h, r⟩ := h; exact ⟨cs, h.grown hb hg, r⟩
theorem Wd.keep (h : Wd w b less n d) (hk : w'.heap[b]? = w.heap[b]?) : Wd w' b less n d := by obtain ⟨cs, h, r⟩ := h; exact ⟨cs, hk.trans h, r⟩
theorem Wd.congr {e : Nat → Nat} (h : Wd w b less n d) (he : ∀ i, i < 232 → d i = e i) : Wd w b less n e := by
  obtain ⟨cs, h, h1, h2, h3, h4⟩ := h
  exact ⟨cs, h, h1, h2, h3, fun i hi => by rw [h4 i hi, he i hi]⟩
theorem Wd.setN (h : Wd w b less n d) (m : Nat) : Wd (w.setCell ⟨b, 1, none⟩ (.int .i64 (m : Int))) b less m d := by
  obtain ⟨cs, h, h1, h2, h3, h4⟩ := h
  refine ⟨_, h.set_ 1 _, by simpa using h1, ?_, ?_, fun i hi => ?_⟩
  · rw [Array.getElem?_setIfInBounds]; simpa using h2
  · rw [Array.getElem?_setIfInBounds, if_pos rfl, if_pos (by omega)]
  · rw [Array.getElem?_setIfInBounds, if_neg (by omega)]; exact h4 i hi
theorem Wd.setLess (h : Wd w b less n d) (l : Bool) : Wd (w.setCell ⟨b, 0, none⟩ (.bool l)) b l n d := by
  obtain ⟨cs, h, h1, h2, h3, h4⟩ := h
  refine ⟨_, h.set_ 0 _, by simpa using h1, ?_, ?_, fun i hi => ?_⟩
  · rw [Array.getElem?_setIfInBounds, if_pos rfl, if_pos (by omega)]
  · rw [Array.getElem?_setIfInBounds]; simpa using h3
  · rw [Array.getElem?_setIfInBounds, if_neg (by omega)]; exact h4 i hi
theorem Wd.setAt (h : Wd w b less n d) {i : Nat} (hi : i < 232) (v : Nat) : Wd (w.setCell ⟨b, 2 + i, none⟩ (.int .i64 (v : Int))) b less n (upd d i v) := by
  obtain ⟨cs, h, h1, h2, h3, h4⟩ := h
  refine ⟨_, h.set_ (2 + i) _, by simpa using h1, ?_, ?_, fun j hj => ?_⟩
  · rw [Array.getElem?_setIfInBounds, if_neg (by omega)]; exact h2
  · rw [Array.getElem?_setIfInBounds, if_neg (by omega)]; exact h3
  · rw [Array.getElem?_setIfInBounds]
    by_cases e : i = j
    · subst e; rw [if_pos rfl, if_pos (by omega), upd_same]
    · rw [if_neg (by omega), upd_other _ _ (by omega)]; exact h4 j hj
theorem Wd.setN' (h : Wd w b less n d) {x : Int} (m : Nat) (hx : x = (m : Int)) : Wd (w.setCell ⟨b, 1, none⟩ (.int .i64 x)) b less m d := by subst hx; exact h.setN m
theorem Wd.setAt' (h : Wd w b less n d) {o i : Nat} (ho : o = 2 + i) (hi : i < 232) {x : Int} (v : Nat) (hx : x = (v : Int)) : Wd (w.setCell ⟨b, o, none⟩ (.int .i64 x)) b less n (upd d i v) := by
  subst hx ho; exact h.setAt hi v
/-- Two of them with different words are different blocks, and so on: one block has one content. -/
theorem Wd.uniq {m : Nat} {l : Bool} {e : Nat → Nat} (h : Wd w b less n d) (k : Wd w b l m e) : less = l ∧ n = m ∧ ∀ i, i < 232 → d i = e i := by
  refine ⟨?_, ?_, fun i hi => ?_⟩
  · have := h.sgn.symm.trans k.sgn; simpa using this
  · have := h.cnt.symm.trans k.cnt; simp at this; omega
  · have := (h.at_ hi).symm.trans (k.at_ hi); simp at this; omega
end

section
variable {w w' : World} {b n : Nat} {less : Bool} {d : Nat → Nat}
/-! ### New ones; one moved up by a word -/
theorem zero_words : Tryz.zeroCells172 = (.bool false :: .int .i64 0 :: List.replicate 232 (.int .i64 0)).toArray := by kernel_rfl

theorem Wd.of_list {l : Bool} {c : Nat} {e : Nat → Nat} {xs : List Value} (h : w.heap[b]? = some (.cells (.bool l :: .int .i64 (c : Int) :: xs).toArray 172 (0, 0))) (hl : xs.length = 232)
    (hx : ∀ i, i < 232 → xs[i]? = some (.int .i64 (e i : Int))) : Wd w b l c e :=
  ⟨_, h, by simp [hl], by simp, by simp, fun i hi => by
    rw [List.getElem?_toArray, Nat.add_comm 2 i, List.getElem?_cons_succ, List.getElem?_cons_succ]; exact hx i hi⟩

theorem Wd.new (w : World) : Wd (w.alloc (.cells Tryz.zeroCells172 172)) w.heap.size false 0 (fun _ => 0) := by
  refine Wd.of_list (xs := List.replicate 232 (.int .i64 0)) ?_ List.length_replicate (fun i hi => by rw [List.getElem?_replicate, if_pos hi]; rfl)
  rw [heap_alloc_new, zero_words]; rfl

theorem Wd.newl (w : World) (l : Bool) : Wd (w.alloc (.cells (Tryz.zeroCells172.setIfInBounds 0 (.bool l)) 172)) w.heap.size l 0 (fun _ => 0) := by
  refine Wd.of_list (xs := List.replicate 232 (.int .i64 0)) ?_ List.length_replicate (fun i hi => by rw [List.getElem?_replicate, if_pos hi]; rfl)
  rw [heap_alloc_new, zero_words, List.setIfInBounds_toArray, List.set_cons_zero]; rfl

theorem Wd.newone (w : World) (l : Bool) : Wd (w.alloc (.cells ((Tryz.zeroCells172.setIfInBounds 0 (.bool l)).setIfInBounds 1 (.int .i64 1)) 172)) w.heap.size l 1 (fun _ => 0) := by
  refine Wd.of_list (xs := List.replicate 232 (.int .i64 0)) ?_ List.length_replicate (fun i hi => by rw [List.getElem?_replicate, if_pos hi]; rfl)
  rw [heap_alloc_new, zero_words, List.setIfInBounds_toArray (i := 0), List.set_cons_zero, List.setIfInBounds_toArray (i := 1), List.set_cons_succ, List.set_cons_zero]; rfl

/-- The words moved up by one place; the least one stays. -/
def up1 (n : Nat) (d : Nat → Nat) : Nat → Nat := fun i => if 1 ≤ i ∧ i ≤ n then d (i - 1) else d i

theorem Wd.cells_of (h : Wd w b less n d) : ∃ cur : List Value, w.heap[b]? = some (.cells cur.toArray 172 (0, 0)) ∧ cur.length = 234 ∧ cur[0]? = some (.bool less) ∧ cur[1]? = some (.int .i64 (n : Int)) ∧ ∀ i, i < 232 → cur[2 + i]? = some (.int .i64 (d i : Int)) := by
  obtain ⟨cs, h, h1, h2, h3, h4⟩ := h
  exact ⟨cs.toList, h, by simpa using h1, by simpa using h2, by simpa using h3, fun i hi => by simpa using h4 i hi⟩

theorem Wd.moved {cur : List Value} {c : Nat} (hl : cur.length = 234) (h0 : cur[0]? = some (.bool less)) (h1 : cur[1]? = some (.int .i64 (n : Int))) (h2 : ∀ i, i < 232 → cur[2 + i]? = some (.int .i64 (d i : Int))) (hc : c ≤ 231)
    (h : w.heap[b]? = some (.cells (splice cur 3 ((List.range c).map fun i => (Value.int .i64 (d i : Int)))).toArray 172 (0, 0))) : Wd w b less n (up1 c d) := by
  have hs : (cur.take 3).length = 3 := by rw [List.length_take]; omega
  refine ⟨_, h, by simp [splice]; omega, ?_, ?_, fun i hi => ?_⟩
  · rw [List.getElem?_toArray, splice, List.getElem?_append_left (by omega), List.getElem?_take, if_pos (by omega)]; exact h0
  · rw [List.getElem?_toArray, splice, List.getElem?_append_left (by omega), List.getElem?_take, if_pos (by omega)]; exact h1
  · rw [List.getElem?_toArray, splice]
    by_cases hi0 : i = 0
    · subst hi0
      rw [List.getElem?_append_left (by omega), List.getElem?_take, if_pos (by omega), h2 0 (by omega)]
      simp [up1]
    · rw [List.getElem?_append_right (by omega), hs]
      by_cases hic : i ≤ c
      · rw [List.getElem?_append_left (by simp; omega), List.getElem?_map, List.getElem?_range (by omega)]
        simp only [up1, Option.map_some]
        rw [if_pos (by omega), show 2 + i - 3 = i - 1 by omega]
      · rw [List.getElem?_append_right (by simp; omega)]
        simp only [List.length_map, List.length_range, List.getElem?_drop]
        rw [show 3 + c + (2 + i - 3 - c) = 2 + i by omega, h2 i hi]
        simp only [up1]
        rw [if_neg (by omega)]
end

/-- The number is right: its words are less than the base, and the highest one differs from 0. -/
structure Rt (n : Nat) (d : Nat → Nat) : Prop where
  lows : Lows d
  ends : Beyond0 d n
  full : Full d n
  fits : n ≤ 232

end Go.Proofs.YtblfinpfcpglcaaGreatDoor
