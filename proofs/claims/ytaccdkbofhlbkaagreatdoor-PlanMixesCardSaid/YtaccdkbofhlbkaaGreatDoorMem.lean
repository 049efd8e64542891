/- Words for memory: a number in words behind a pointer; frames. whole.trimmed leaves out words of 0. whole.beyond compares magnitudes. whole.carry adds a multiple of a number, some words higher. -/
import Derived.Test.YtaccdkbofhlbkaaGreatDoorChecked
import Derived.Test.YtaccdkbofhlbkaaGreatDoorDec
import Derived.WalkKit
import Derived.WalkSpells
import Derived.WalkLawsBesides
import Derived.Lib.Hide
import Derived.IntWalk
import Derived.BigQuiet
import Derived.Deep.QuietTactic
import Derived.Deep.LoopGhost
import Derived.Deep.DeepCutAuto
import Derived.Deep.DeepFit
import Derived.Deep.Light
import Derived.Outline
import Derived.Laws.Rows
import Derived.Laws.NewBlocks
import Derived.Laws.CopyOwn
import Derived.Laws.Tables
namespace Go.Proofs.YtaccdkbofhlbkaaGreatDoor
open Go.RowKit MLab

theorem hide {p : Prop} (h : p) : Hid p := h

/-- Block g is just the cells cs of element type t, none frozen. -/
def Blk (w : World) (g : Nat) (t : TypeId) (cs : Array Value) : Prop := w.heap[g]? = some (.cells cs t (0, 0))

section
variable {w w' : World} {g : Nat} {t : TypeId} {cs : Array Value}
theorem Blk.lt (h : Blk w g t cs) : g < w.heap.size := by
  rcases Nat.lt_or_ge g w.heap.size with hlt | hge
  · exact hlt
  · unfold Blk at h; rw [Array.getElem?_eq_none hge] at h; cases h
theorem Blk.cell (h : Blk w g t cs) (i : Nat) : w.cell? ⟨g, i, none⟩ = cs[i]? := cell_of_row w g i cs t (0, 0) h
theorem Blk.frozen (h : Blk w g t cs) (i : Nat) : w.frozen? ⟨g, i, none⟩ = false := by
  unfold Blk at h
  simp [World.frozen?, h]
theorem Blk.new (w : World) (t : TypeId) (cs : Array Value) : Blk (w.alloc (.cells cs t)) w.heap.size t cs := heap_alloc_new w _
theorem Blk.drew (h : Blk w g t cs) : Blk w.drew g t cs := h
theorem Blk.drewN (h : Blk w g t cs) (n : Nat) : Blk (w.drewN n) g t cs := h
theorem Blk.alloc (h : Blk w g t cs) (o : Obj) : Blk (w.alloc o) g t cs := (Below.heap_alloc w o g h.lt).trans h
theorem Blk.set_ (h : Blk w g t cs) (i : Nat) (u : Value) : Blk (w.setCell ⟨g, i, none⟩ u) g t (cs.setIfInBounds i u) := by
  unfold Blk at h ⊢
  simp [World.setCell, Array.getElem?_modify, h]
theorem Blk.far (h : Blk w g t cs) {p : Addr} (hp : g ≠ p.block) (u : Value) : Blk (w.setCell p u) g t cs := (Below.heap_setCell w p u g hp).trans h
theorem Blk.below {B : Nat} (h : Blk w g t cs) (hb : Below B w w') (hg : g < B) : Blk w' g t cs := (hb.block g hg).trans h
theorem Blk.grown {row : Option Nat} (h : Blk w g t cs) (hb : w.grownBy w' row) (hg : some g ≠ row) : Blk w' g t cs := (hb.block g h.lt hg).trans h
end

section
variable {a w w1 : World} {row : Option Nat}
theorem only_drewN (h : a.grownBy w row) (n : Nat) : a.grownBy (w.drewN n) row := ⟨h.os, h.tape, h.output, h.size, h.block⟩
theorem only_drew (h : a.grownBy w row) : a.grownBy w.drew row := ⟨h.os, h.tape, h.output, h.size, h.block⟩
theorem only_alloc (h : a.grownBy w row) (o : Obj) : a.grownBy (w.alloc o) row :=
  ⟨h.os, h.tape, h.output, Nat.le_trans h.size (by simp), fun i hi hne => (Below.heap_alloc w o i (Nat.lt_of_lt_of_le hi h.size)).trans (h.block i hi hne)⟩
theorem only_setCell {g : Nat} (h : a.grownBy w (some g)) {p : Addr} (hp : p.block = g ∨ a.heap.size ≤ p.block) (u : Value) : a.grownBy (w.setCell p u) (some g) :=
  ⟨h.os, h.tape, h.output, by simpa [World.setCell] using h.size, fun i hi hne => (Below.heap_setCell w p u i (by
    rintro rfl
    rcases hp with hp | hp
    · exact hne (by rw [hp])
    · omega)).trans (h.block i hi hne)⟩
theorem only_of_below (h : Below a.heap.size a w) (row : Option Nat) : a.grownBy w row := ⟨h.os, h.tape, h.output, h.size, fun i hi _ => h.block i hi⟩
theorem only_refl (a : World) (row : Option Nat) : a.grownBy a row := ⟨rfl, rfl, rfl, Nat.le_refl _, fun _ _ _ => rfl⟩
theorem only_trans (h : a.grownBy w row) (k : w.grownBy w1 row) : a.grownBy w1 row :=
  ⟨k.os.trans h.os, k.tape.trans h.tape, k.output.trans h.output, Nat.le_trans h.size k.size, fun i hi hne => (k.block i (Nat.lt_of_lt_of_le hi h.size) hne).trans (h.block i hi hne)⟩
/-- What writes a block that is new keeps the old ones. -/
theorem only_new {g : Nat} (h : a.grownBy w row) (k : w.grownBy w1 (some g)) (hg : a.heap.size ≤ g) : a.grownBy w1 row :=
  ⟨k.os.trans h.os, k.tape.trans h.tape, k.output.trans h.output, Nat.le_trans h.size k.size, fun i hi hne => (k.block i (Nat.lt_of_lt_of_le hi h.size) (by intro e; injection e; omega)).trans (h.block i hi hne)⟩
theorem only_setRow {g : Nat} (h : a.grownBy w row) (hg : row = some g ∨ a.heap.size ≤ g) (cs : Array Value) : a.grownBy (w.setRow g cs) row :=
  ⟨h.os, h.tape, h.output, by simpa using h.size, fun i hi hne => (setRow_other w g i cs (by
    rintro rfl
    rcases hg with hg | hg
    · exact hne hg.symm
    · omega)).trans (h.block i hi hne)⟩
theorem below_drewN {B : Nat} (h : Below B a w) (n : Nat) : Below B a (w.drewN n) := ⟨h.os, h.tape, h.output, h.size, h.block⟩
/-- What writes only a block of the call's own leaves what is below as it was. -/
theorem below_only {B g : Nat} (h : Below B a w) (k : w.grownBy w1 (some g)) (hB : B ≤ w.heap.size) (hg : B ≤ g) : Below B a w1 :=
  h.grown k hB (fun k e => by injection e with e; omega)
end

/-! ### A number in words: the struct 'wide' -/

/-- Block b is a 'wide' with this sign, this count and these words. -/
def Wd (w : World) (b : Nat) (less : Bool) (n : Nat) (d : Nat → Nat) : Prop :=
  ∃ cs, Blk w b 167 cs ∧ cs.size = 234 ∧ cs[0]? = some (.bool less) ∧ cs[1]? = some (.int .i64 (n : Int)) ∧ ∀ i, i < 232 → cs[2 + i]? = some (.int .i64 (d i : Int))

section
variable {w w' : World} {b n : Nat} {less : Bool} {d : Nat → Nat}
theorem Wd.lt (h : Wd w b less n d) : b < w.heap.size := by obtain ⟨_, h, _⟩ := h; exact h.lt
theorem Wd.sgn (h : Wd w b less n d) : w.cell? ⟨b, 0, none⟩ = some (.bool less) := by obtain ⟨cs, h, _, h0, _⟩ := h; rw [h.cell, h0]
theorem Wd.cnt (h : Wd w b less n d) : w.cell? ⟨b, 1, none⟩ = some (.int .i64 (n : Int)) := by obtain ⟨cs, h, _, _, h1, _⟩ := h; rw [h.cell, h1]
theorem Wd.at_ (h : Wd w b less n d) {i : Nat} (hi : i < 232) : w.cell? ⟨b, 2 + i, none⟩ = some (.int .i64 (d i : Int)) := by obtain ⟨cs, h, _, _, _, h2⟩ := h; rw [h.cell, h2 i hi]
theorem Wd.frozen (h : Wd w b less n d) (i : Nat) : w.frozen? ⟨b, i, none⟩ = false := by obtain ⟨cs, h, _⟩ := h; exact h.frozen i
theorem Wd.drew (h : Wd w b less n d) : Wd w.drew b less n d := h
theorem Wd.drewN (h : Wd w b less n d) (k : Nat) : Wd (w.drewN k) b less n d := h
theorem Wd.alloc (h : Wd w b less n d) (o : Obj) : Wd (w.alloc o) b less n d := by obtain ⟨cs, h, r⟩ := h; exact ⟨cs, h.alloc o, r⟩
theorem Wd.far (h : Wd w b less n d) {p : Addr} (hp : b ≠ p.block) (u : Value) : Wd (w.setCell p u) b less n d := by obtain ⟨cs, h, r⟩ := h; exact ⟨cs, h.far hp u, r⟩
theorem Wd.below {B : Nat} (h : Wd w b less n d) (hb : Below B w w') (hg : b < B) : Wd w' b less n d := by obtain ⟨cs, h, r⟩ := h; exact ⟨cs, h.below hb hg, r⟩
theorem Wd.grown {row : Option Nat} (h : Wd w b less n d) (hb : w.grownBy w' row) (hg : some b ≠ row) : Wd w' b less n d := by obtain ⟨cs, h, r⟩ := h; exact ⟨cs, h.grown hb hg, r⟩
theorem Wd.keep (h : Wd w b less n d) (hk : w'.heap[b]? = w.heap[b]?) : Wd w' b less n d := by obtain ⟨cs, h, r⟩ := h; exact ⟨cs, hk.trans h, r⟩
theorem Wd.congr {e : Nat → Nat} (h : Wd w b less n d) (he : ∀ i, i < 232 → d i = e i) : Wd w b less n e := by
  obtain ⟨cs, h, h1, h2, h3, h4⟩ := h
  exact ⟨cs, h, h1, h2, h3, fun i hi => by rw [h4 i hi, he i hi]⟩
theorem Wd.setN (h : Wd w b less n d) (m : Nat) : Wd (w.setCell ⟨b, 1, none⟩ (.int .i64 (m : Int))) b less m d := by
  obtain ⟨cs, h, h1, h2, h3, h4⟩ := h
  refine ⟨_, h.set_ 1 _, by simpa using h1, ?_, ?_, fun i hi => ?_⟩
  · rw [Array.getElem?_setIfInBounds]; simpa using h2
  · rw [Array.getElem?_setIfInBounds, if_pos rfl, if_pos (by omega)]
  · rw [Array.getElem?_setIfInBounds, if_neg (by omega)]; exact h4 i hi
theorem Wd.setLess (h : Wd w b less n d) (l : Bool) : Wd (w.setCell ⟨b, 0, none⟩ (.bool l)) b l n d := by
  obtain ⟨cs, h, h1, h2, h3, h4⟩ := h
  refine ⟨_, h.set_ 0 _, by simpa using h1, ?_, ?_, fun i hi => ?_⟩
  · rw [Array.getElem?_setIfInBounds, if_pos rfl, if_pos (by omega)]
  · rw [Array.getElem?_setIfInBounds]; simpa using h3
  · rw [Array.getElem?_setIfInBounds, if_neg (by omega)]; exact h4 i hi
theorem Wd.setAt (h : Wd w b less n d) {i : Nat} (hi : i < 232) (v : Nat) : Wd (w.setCell ⟨b, 2 + i, none⟩ (.int .i64 (v : Int))) b less n (upd d i v) := by
  obtain ⟨cs, h, h1, h2, h3, h4⟩ := h
  refine ⟨_, h.set_ (2 + i) _, by simpa using h1, ?_, ?_, fun j hj => ?_⟩
  · rw [Array.getElem?_setIfInBounds, if_neg (by omega)]; exact h2
  · rw [Array.getElem?_setIfInBounds, if_neg (by omega)]; exact h3
  · rw [Array.getElem?_setIfInBounds]
    by_cases e : i = j
    · subst e; rw [if_pos rfl, if_pos (by omega), upd_same]
    · rw [if_neg (by omega), upd_other _ _ (by omega)]; exact h4 j hj
theorem Wd.setN' (h : Wd w b less n d) {x : Int} (m : Nat) (hx : x = (m : Int)) : Wd (w.setCell ⟨b, 1, none⟩ (.int .i64 x)) b less m d := by subst hx; exact h.setN m
theorem Wd.setAt' (h : Wd w b less n d) {o i : Nat} (ho : o = 2 + i) (hi : i < 232) {x : Int} (v : Nat) (hx : x = (v : Int)) : Wd (w.setCell ⟨b, o, none⟩ (.int .i64 x)) b less n (upd d i v) := by
  subst hx ho; exact h.setAt hi v
/-- Two of them with different words are different blocks, and so on: one block has one content. -/
theorem Wd.uniq {m : Nat} {l : Bool} {e : Nat → Nat} (h : Wd w b less n d) (k : Wd w b l m e) : less = l ∧ n = m ∧ ∀ i, i < 232 → d i = e i := by
  refine ⟨?_, ?_, fun i hi => ?_⟩
  · have := h.sgn.symm.trans k.sgn; simpa using this
  · have := h.cnt.symm.trans k.cnt; simp at this; omega
  · have := (h.at_ hi).symm.trans (k.at_ hi); simp at this; omega
end

section
variable {w w' : World} {b n : Nat} {less : Bool} {d : Nat → Nat}
/-! ### New ones; one moved up by a word -/
theorem zero_words : Tryz.zeroCells167 = (.bool false :: .int .i64 0 :: List.replicate 232 (.int .i64 0)).toArray := by kernel_rfl

theorem Wd.of_list {l : Bool} {c : Nat} {e : Nat → Nat} {xs : List Value} (h : w.heap[b]? = some (.cells (.bool l :: .int .i64 (c : Int) :: xs).toArray 167 (0, 0))) (hl : xs.length = 232)
    (hx : ∀ i, i < 232 → xs[i]? = some (.int .i64 (e i : Int))) : Wd w b l c e :=
  ⟨_, h, by simp [hl], by simp, by simp, fun i hi => by
    rw [List.getElem?_toArray, Nat.add_comm 2 i, List.getElem?_cons_succ, List.getElem?_cons_succ]; exact hx i hi⟩

theorem Wd.new (w : World) : Wd (w.alloc (.cells Tryz.zeroCells167 167)) w.heap.size false 0 (fun _ => 0) := by
  refine Wd.of_list (xs := List.replicate 232 (.int .i64 0)) ?_ List.length_replicate (fun i hi => by rw [List.getElem?_replicate, if_pos hi]; rfl)
  rw [heap_alloc_new, zero_words]; rfl

theorem Wd.newl (w : World) (l : Bool) : Wd (w.alloc (.cells (Tryz.zeroCells167.setIfInBounds 0 (.bool l)) 167)) w.heap.size l 0 (fun _ => 0) := by
  refine Wd.of_list (xs := List.replicate 232 (.int .i64 0)) ?_ List.length_replicate (fun i hi => by rw [List.getElem?_replicate, if_pos hi]; rfl)
  rw [heap_alloc_new, zero_words, List.setIfInBounds_toArray, List.set_cons_zero]; rfl

theorem Wd.newone (w : World) (l : Bool) : Wd (w.alloc (.cells ((Tryz.zeroCells167.setIfInBounds 0 (.bool l)).setIfInBounds 1 (.int .i64 1)) 167)) w.heap.size l 1 (fun _ => 0) := by
  refine Wd.of_list (xs := List.replicate 232 (.int .i64 0)) ?_ List.length_replicate (fun i hi => by rw [List.getElem?_replicate, if_pos hi]; rfl)
  rw [heap_alloc_new, zero_words, List.setIfInBounds_toArray (i := 0), List.set_cons_zero, List.setIfInBounds_toArray (i := 1), List.set_cons_succ, List.set_cons_zero]; rfl

/-- The words moved up by one place; the least one stays. -/
def up1 (n : Nat) (d : Nat → Nat) : Nat → Nat := fun i => if 1 ≤ i ∧ i ≤ n then d (i - 1) else d i

theorem Wd.cells_of (h : Wd w b less n d) : ∃ cur : List Value, w.heap[b]? = some (.cells cur.toArray 167 (0, 0)) ∧ cur.length = 234 ∧ cur[0]? = some (.bool less) ∧ cur[1]? = some (.int .i64 (n : Int)) ∧ ∀ i, i < 232 → cur[2 + i]? = some (.int .i64 (d i : Int)) := by
  obtain ⟨cs, h, h1, h2, h3, h4⟩ := h
  exact ⟨cs.toList, h, by simpa using h1, by simpa using h2, by simpa using h3, fun i hi => by simpa using h4 i hi⟩

theorem Wd.moved {cur : List Value} {c : Nat} (hl : cur.length = 234) (h0 : cur[0]? = some (.bool less)) (h1 : cur[1]? = some (.int .i64 (n : Int))) (h2 : ∀ i, i < 232 → cur[2 + i]? = some (.int .i64 (d i : Int))) (hc : c ≤ 231)
    (h : w.heap[b]? = some (.cells (splice cur 3 ((List.range c).map fun i => (Value.int .i64 (d i : Int)))).toArray 167 (0, 0))) : Wd w b less n (up1 c d) := by
  have hs : (cur.take 3).length = 3 := by rw [List.length_take]; omega
  refine ⟨_, h, by simp [splice]; omega, ?_, ?_, fun i hi => ?_⟩
  · rw [List.getElem?_toArray, splice, List.getElem?_append_left (by omega), List.getElem?_take, if_pos (by omega)]; exact h0
  · rw [List.getElem?_toArray, splice, List.getElem?_append_left (by omega), List.getElem?_take, if_pos (by omega)]; exact h1
  · rw [List.getElem?_toArray, splice]
    by_cases hi0 : i = 0
    · subst hi0
      rw [List.getElem?_append_left (by omega), List.getElem?_take, if_pos (by omega), h2 0 (by omega)]
      simp [up1]
    · rw [List.getElem?_append_right (by omega), hs]
      by_cases hic : i ≤ c
      · rw [List.getElem?_append_left (by simp; omega), List.getElem?_map, List.getElem?_range (by omega)]
        simp only [up1, Option.map_some]
        rw [if_pos (by omega), show 2 + i - 3 = i - 1 by omega]
      · rw [List.getElem?_append_right (by simp; omega)]
        simp only [List.length_map, List.length_range, List.getElem?_drop]
        rw [show 3 + c + (2 + i - 3 - c) = 2 + i by omega, h2 i hi]
        simp only [up1]
        rw [if_neg (by omega)]
end

/-- The number is right: its words are less than the base, and the highest one differs from 0. -/
structure Rt (n : Nat) (d : Nat → Nat) : Prop where
  lows : Lows d
  ends : Beyond0 d n
  full : Full d n
  fits : n ≤ 232

end Go.Proofs.YtaccdkbofhlbkaaGreatDoor

namespace Go.Proofs.YtaccdkbofhlbkaaGreatDoor
open Go.RowKit MLab

set_option maxRecDepth 100000 in
set_option maxHeartbeats 400000 in
theorem trimmed_any (w : World) (b : Nat) (less : Bool) (n : Nat) (d : Nat → Nat) (hw : Wd w b less n d) (hn : n ≤ 232) :
    Calls Tryz.prog 150 #[.pointer (some ⟨b, 0, none⟩)] w fun e w' => e = .returned (.pointer (some ⟨b, 0, none⟩)) ∧
      ∃ m, m ≤ n ∧ w.grownBy w' (some b) ∧ Wd w' b less m d ∧ (m = 0 ∨ d (m - 1) ≠ 0) ∧ ∀ i, m ≤ i → i < n → d i = 0 := by
  go_enter Tryz.func150, Tryz.ntmps150
  go_wp2_with fail
  go_loopg [] n (fun k wr => k ≤ n ∧ w.grownBy wr (some b) ∧ Wd wr b less k d ∧ ∀ i, k ≤ i → i < n → d i = 0)
  case atStart => exact ⟨Nat.le_refl _, only_refl _ _, hw, fun i h1 h2 => by omega⟩
  case round =>
    obtain ⟨hk, hg, hW, hz⟩ := hrel
    have hc1 := hW.cnt
    have hf1 := hW.frozen 1
    have HZ := hide hz
    have HW := hide hW
    have HG := hide hg
    clear hz hW hg hw
    rcases Nat.eq_zero_or_pos gk with h0 | h0
    · have hd : decide ((0 : Int) < (gk : Int)) = false := by subst h0; rfl
      go_wp2_with fail
      go_quiet (fail)
      go_wp2
      go_ret
      refine ⟨rfl, gk, hk, only_drewN HG.out _, HW.out.drewN _, .inl h0, HZ.out⟩
    · have hlt : (0 : Int) < (gk : Int) := by omega
      have hc2 : wr.cell? ⟨b, 2 + (gk - 1), none⟩ = some (.int .i64 (d (gk - 1) : Int)) := HW.out.at_ (by omega)
      by_cases hd0 : d (gk - 1) = 0
      · have hb : ((d (gk - 1) : Int) == 0) = true := by rw [hd0]; rfl
        go_wp2_with fail
        go_quiet (fail)
        go_wp2
        go_roundg (gk - 1)
        case measure => omega
        case rel =>
          have e : ((gk : Int) - 1) = ((gk - 1 : Nat) : Int) := by omega
          rw [e]
          refine ⟨by omega, only_setCell (only_drewN HG.out _) (.inl rfl) _, (HW.out.drewN _).setN _, fun i h1 h2 => ?_⟩
          by_cases e : i = gk - 1
          · rw [e]; exact hd0
          · exact HZ.out i (by omega) h2
      · have hb : ((d (gk - 1) : Int) == 0) = false := by rw [beq_eq_false_iff_ne]; omega
        go_wp2_with fail
        go_quiet (fail)
        go_wp2
        go_ret
        refine ⟨rfl, gk, hk, only_drewN HG.out _, HW.out.drewN _, .inr hd0, HZ.out⟩
end Go.Proofs.YtaccdkbofhlbkaaGreatDoor

namespace Go.Proofs.YtaccdkbofhlbkaaGreatDoor
open Go.RowKit MLab

/-- c says how X stands to Y. -/
def CmpR (c : Int) (X Y : Nat) : Prop := (c < 0 ∧ X < Y) ∨ (c = 0 ∧ X = Y) ∨ (0 < c ∧ Y < X)
/-- An ending with an int for which P holds. -/
def RetInt (P : Int → Prop) (e : Ending) : Prop := ∃ c, e = .returned (.int .i64 c) ∧ P c
/-- Draws alone. -/
def Drew (w w' : World) : Prop := ∃ k, w' = w.drewN k
theorem Drew.refl (w : World) : Drew w w := ⟨0, rfl⟩
theorem Drew.step {w w' : World} (h : Drew w w') (n : Nat) : Drew w (w'.drewN n) := by obtain ⟨k, rfl⟩ := h; exact ⟨k + n, World.drewN_drewN _ _ _⟩
theorem Drew.below {w w' : World} (h : Drew w w') (B : Nat) : Below B w w' := by obtain ⟨k, rfl⟩ := h; exact below_drewN (Below.refl _ _) k

set_option maxRecDepth 100000 in
set_option maxHeartbeats 1000000 in
theorem beyond_any (w : World) (bx bz : Nat) (lx lz : Bool) (nx nz : Nat) (dx dz : Nat → Nat) (hx : Wd w bx lx nx dx) (hz : Wd w bz lz nz dz) (rx : Rt nx dx) (rz : Rt nz dz) :
    Calls Tryz.prog 172 #[.pointer (some ⟨bx, 0, none⟩), .pointer (some ⟨bz, 0, none⟩)] w fun e w' => RetInt (CmpR · (num dx nx) (num dz nz)) e ∧ Drew w w' := by
  have HX := hide hx
  have HZ := hide hz
  have HRX := hide rx
  have HRZ := hide rz
  have hx1 := hx.cnt
  have hz1 := hz.cnt
  have hnx := rx.fits
  have hnz := rz.fits
  clear hx hz rx rz
  by_cases hn : nx = nz
  · have hb : ((nx : Int) != (nz : Int)) = false := by rw [bne_eq_false_iff_eq]; omega
    have hb' : ((nx : Int) != (nx : Int)) = false := by simp
    subst hn
    go_enter Tryz.func172, Tryz.ntmps172
    go_wp2_with fail
    go_quiet (fail)
    go_wp2_with fail
    go_loopg [5] nx (fun k i wr => ∃ (j q : Nat), k = j ∧ j ≤ nx ∧ i = .int .i64 ((j : Int) - 1) ∧ (∀ t, j ≤ t → t < nx → dx t = dz t) ∧ wr = w.drewN q)
    case atStart => exact ⟨nx, _, rfl, Nat.le_refl _, rfl, fun t h1 h2 => by omega, rfl⟩
    case round =>
      obtain ⟨j, q, hkj, hj, rfl, heq, rfl⟩ := hrel
      have HQ := hide heq
      have HK := hide hkj
      clear heq hkj
      rcases Nat.eq_zero_or_pos j with h0 | h0
      · have hd : decide ((0 : Int) ≤ (j : Int) - 1) = false := by simp; omega
        have hd' : ¬ (1 : Int) ≤ (j : Int) := by omega
        go_wp2_with fail
        go_ret
        refine ⟨⟨0, rfl, .inr (.inl ⟨rfl, num_congr fun i hi => HQ.out i (by omega) hi⟩)⟩, q, rfl⟩
      · have hd' : (1 : Int) ≤ (j : Int) := by omega
        have hx2 : w.cell? ⟨bx, 2 + (j - 1), none⟩ = some (.int .i64 (dx (j - 1) : Int)) := HX.out.at_ (by omega)
        have hz2 : w.cell? ⟨bz, 2 + (j - 1), none⟩ = some (.int .i64 (dz (j - 1) : Int)) := HZ.out.at_ (by omega)
        have hlx : dx (j - 1) < 1000000000 := HRX.out.lows _
        have hlz : dz (j - 1) < 1000000000 := HRZ.out.lows _
        by_cases hne : dx (j - 1) = dz (j - 1)
        · have hb2 : ((dx (j - 1) : Int) != (dz (j - 1) : Int)) = false := by rw [bne_eq_false_iff_eq]; omega
          have HN := hide hne
          clear hne
          go_wp2_with fail
          go_quiet (fail)
          go_wp2_with fail
          go_roundg (j - 1)
          case measure => have := HK.out; omega
          case rel =>
            refine ⟨j - 1, _, rfl, by omega, by go_num, fun t h1 h2 => ?_, rfl⟩
            by_cases e : t = j - 1
            · rw [e]; exact HN.out
            · exact HQ.out t (by omega) h2
        · have hb2 : ((dx (j - 1) : Int) != (dz (j - 1) : Int)) = true := by rw [bne_iff_ne]; omega
          go_wp2_with fail
          go_quiet (fail)
          go_wp2_with fail
          go_quiet (fail)
          go_wp2_with fail
          go_ret
          refine ⟨⟨_, rfl, ?_⟩, ((Drew.refl w).step _).step _ |>.step _⟩
          rcases Nat.lt_or_gt_of_ne hne with h | h
          · exact .inl ⟨by omega, num_cmp HRX.out.lows (k := j - 1) (by omega) (fun i h1 h2 => HQ.out i (by omega) h2) h⟩
          · exact .inr (.inr ⟨by omega, num_cmp HRZ.out.lows (k := j - 1) (by omega) (fun i h1 h2 => (HQ.out i (by omega) h2).symm) h⟩)
  · have hb : ((nx : Int) != (nz : Int)) = true := by rw [bne_iff_ne]; omega
    go_enter Tryz.func172, Tryz.ntmps172
    go_wp2_with fail
    go_quiet (fail)
    go_wp2_with fail
    go_quiet (fail)
    go_wp2_with fail
    go_ret
    refine ⟨⟨_, rfl, ?_⟩, ((Drew.refl w).step _).step _⟩
    rcases Nat.lt_or_gt_of_ne hn with h | h
    · exact .inl ⟨by omega, full_lt HRX.out.lows HRZ.out.full h⟩
    · exact .inr (.inr ⟨by omega, full_lt HRZ.out.lows HRX.out.full h⟩)
end Go.Proofs.YtaccdkbofhlbkaaGreatDoor

namespace Go.Proofs.YtaccdkbofhlbkaaGreatDoor
open Go.RowKit MLab

theorem tdiv_facts (s : Int) : -1000000000 < s - s.tdiv 1000000000 * 1000000000 ∧ s - s.tdiv 1000000000 * 1000000000 < 1000000000 ∧ (0 ≤ s → 0 ≤ s - s.tdiv 1000000000 * 1000000000) ∧ (s ≤ 0 → s - s.tdiv 1000000000 * 1000000000 ≤ 0) := by
  have h : s - s.tdiv 1000000000 * 1000000000 = s.tmod 1000000000 := by have := Int.tdiv_mul_add_tmod s 1000000000; omega
  rw [h]
  refine ⟨?_, ?_, fun hs => ?_, fun hs => ?_⟩
  · have := Int.lt_tmod_of_pos s (b := 1000000000) (by omega); omega
  · exact Int.tmod_lt_of_pos s (by omega)
  · exact Int.tmod_nonneg _ hs
  · have := Int.tmod_nonneg (a := -s) 1000000000 (by omega); rw [Int.neg_tmod] at this; omega

theorem carry_close {w wr : World} {bx nx m gk j up : Nat} {lx : Bool} {dx dz e : Nat → Nat} {f q : Int} (HC : Carried dx dz f up j e q) (HW : Wd wr bx lx m e) (HG : w.grownBy wr (some bx)) (hju : j + up < 232) (hm1 : nx ≤ m) (hm2 : m ≤ 232)
    (hk : gk + j + up = 232 + up) (p x r y : Int) (hp : f * (dz j : Int) = p) (hx0 : 0 ≤ x) (hx1 : x < 1000000000) (hs : (e (j + up) : Int) + q + p = r * 1000000000 + x) (h1 : -999999999 ≤ r) (h2 : r ≤ 999999999) (hy : y = ((max m (j + up + 1) : Nat) : Int)) :
    ∃ (j1 : Nat) (e1 : Nat → Nat) (q1 : Int) (m1 : Nat), Value.int .i64 ((j : Int) + 1) = .int .i64 (j1 : Int) ∧ Value.int .i64 r = .int .i64 q1 ∧ gk - 1 + j1 + up = 232 + up ∧ Carried dx dz f up j1 e1 q1 ∧
      Wd ((wr.setCell ⟨bx, 2 + (j + up), none⟩ (.int .i64 x)).setCell ⟨bx, 1, none⟩ (.int .i64 y)) bx lx m1 e1 ∧ w.grownBy ((wr.setCell ⟨bx, 2 + (j + up), none⟩ (.int .i64 x)).setCell ⟨bx, 1, none⟩ (.int .i64 y)) (some bx) ∧
      nx ≤ m1 ∧ m1 ≤ 232 ∧ j1 + up ≤ 232 ∧ (j1 = 0 ∨ j1 + up ≤ m1) := by
  obtain ⟨s, rfl⟩ := Int.eq_ofNat_of_zero_le hx0
  subst hy hp
  exact ⟨j + 1, _, r, max m (j + up + 1), by simp, rfl, by omega, HC.step (s := s) (by rw [W9_eq]; omega) hs h1 h2, (HW.setAt hju s).setN _, only_setCell (only_setCell HG (.inl rfl) _) (.inl rfl) _, by omega, by omega, by omega, .inr (by omega)⟩

set_option maxRecDepth 100000 in
set_option maxHeartbeats 1000000 in
theorem carry_any (w : World) (bx bz : Nat) (lx lz : Bool) (nx nz : Nat) (dx dz : Nat → Nat) (f : Int) (up Z : Nat) (hx : Wd w bx lx nx dx) (hz : Wd w bz lz nz dz) (hne : bx ≠ bz)
    (rx : Rt nx dx) (rz : Rt nz dz) (hf1 : -1000000000 < f) (hf2 : f < 1000000000) (hup : nz + up ≤ 232) (hZ : (num dx nx : Int) + f * num dz nz * ((W9 ^ up : Nat) : Int) = (Z : Int)) (hZ2 : Z < W9 ^ 232) :
    Calls Tryz.prog 151 #[.pointer (some ⟨bx, 0, none⟩), .pointer (some ⟨bz, 0, none⟩), .int .i64 f, .int .i64 (up : Int)] w fun e w' => e = .returned (.tuple #[]) ∧
      ∃ m d, w.grownBy w' (some bx) ∧ Wd w' bx lx m d ∧ Rt m d ∧ num d m = Z := by
  have HX := hide hx
  have HZ := hide hz
  have HRX := hide rx
  have HRZ := hide rz
  have HE := hide hZ
  have HE2 := hide hZ2
  clear hx hz rx rz hZ hZ2
  go_enter Tryz.func151, Tryz.ntmps151
  go_wp2_with fail
  go_loopg [8, 9] 232 (fun k r i wr => ∃ (j : Nat) (e : Nat → Nat) (q : Int) (m : Nat), i = .int .i64 (j : Int) ∧ r = .int .i64 q ∧ k + j + up = 232 + up ∧ Carried dx dz f up j e q ∧ Wd wr bx lx m e ∧ w.grownBy wr (some bx) ∧ nx ≤ m ∧ m ≤ 232 ∧ j + up ≤ 232 ∧ (j = 0 ∨ j + up ≤ m))
  case atStart => exact ⟨0, dx, 0, nx, rfl, rfl, by omega, Carried.start HRX.out.lows, HX.out, only_refl _ _, Nat.le_refl _, HRX.out.fits, by omega, .inl rfl⟩
  case round =>
    obtain ⟨j, e, q, m, rfl, rfl, hk, hC, hW, hG, hm1, hm2, hj, hjm⟩ := hrel
    have hq1 := hC.low
    have hq2 := hC.high
    have HC := hide hC
    have HW := hide hW
    have HG := hide hG
    have HK := hide hk
    clear hC hW hG hk
    have hz1 : wr.cell? ⟨bz, 1, none⟩ = some (.int .i64 (nz : Int)) := by
      rw [World.cell?_of_block (HG.out.block bz HZ.out.lt (by simpa using Ne.symm hne))]; exact HZ.out.cnt
    by_cases hc : j < nz ∨ q ≠ 0
    · have hju : j + up < 232 := by
        by_cases hlt : j < nz
        · omega
        · exact HC.out.room HRX.out.ends HRX.out.fits HRZ.out.ends (by omega) hj HE.out HE2.out (hc.resolve_left hlt)
      have hf3 : wr.frozen? ⟨bx, 2 + (j + up), none⟩ = false := HW.out.frozen _
      have hf4 : wr.frozen? ⟨bx, 1, none⟩ = false := HW.out.frozen _
      have hx1 : wr.cell? ⟨bx, 1, none⟩ = some (.int .i64 (m : Int)) := HW.out.cnt
      have hx2 : wr.cell? ⟨bx, 2 + (j + up), none⟩ = some (.int .i64 (e (j + up) : Int)) := HW.out.at_ hju
      have he : e (j + up) < 1000000000 := HC.out.lows _
      by_cases hlt : j < nz
      · have hz2 : wr.cell? ⟨bz, 2 + j, none⟩ = some (.int .i64 (dz j : Int)) := by
          rw [World.cell?_of_block (HG.out.block bz HZ.out.lt (by simpa using Ne.symm hne))]; exact HZ.out.at_ (by omega)
        obtain ⟨hp1, hp2⟩ := mul_bounds hf1 hf2 (HRZ.out.lows j)
        obtain ⟨t1, t2, t3, t4⟩ := tdiv_facts ((e (j + up) : Int) + q + f * (dz j : Int))
        have HT3 := hide t3
        have HT4 := hide t4
        clear t3 t4
        by_cases hs : (e (j + up) : Int) + q + f * (dz j : Int) < 0
        · have t4 := HT4.out (by omega)
          go_wp2_with fail
          all_goals
            go_roundg (gk - 1)
            case measure => have := HK.out; omega
            case rel => exact carry_close HC.out HW.out HG.out hju hm1 hm2 HK.out _ _ _ _ rfl (by omega) (by omega) (by omega) (by omega) (by omega) (by omega)
        · go_wp2_with fail
          all_goals
            go_roundg (gk - 1)
            case measure => have := HK.out; omega
            case rel => exact carry_close HC.out HW.out HG.out hju hm1 hm2 HK.out _ _ _ _ rfl (by omega) (by omega) (by omega) (by omega) (by omega) (by omega)
      · have hq0 : (q == 0) = false := by rw [beq_eq_false_iff_ne]; exact hc.resolve_left hlt
        have hq3 : (q != 0) = true := by rw [bne_iff_ne]; exact hc.resolve_left hlt
        have hd : decide ((j : Int) < (nz : Int)) = false := by simp; omega
        have hnlt : ¬ (j : Int) < (nz : Int) := by omega
        have hp0 : f * (dz j : Int) = 0 := by rw [HRZ.out.ends j (by omega)]; simp
        have HP := hide hp0
        clear hp0
        obtain ⟨t1, t2, t3, t4⟩ := tdiv_facts ((e (j + up) : Int) + q)
        have HT3 := hide t3
        have HT4 := hide t4
        clear t3 t4
        by_cases hs : (e (j + up) : Int) + q < 0
        · have t4 := HT4.out (by omega)
          go_wp2_with fail
          all_goals
            go_roundg (gk - 1)
            case measure => have := HK.out; omega
            case rel => exact carry_close HC.out HW.out HG.out hju hm1 hm2 HK.out _ _ _ _ HP.out (by omega) (by omega) (by omega) (by omega) (by omega) (by omega)
        · go_wp2_with fail
          all_goals
            go_roundg (gk - 1)
            case measure => have := HK.out; omega
            case rel => exact carry_close HC.out HW.out HG.out hju hm1 hm2 HK.out _ _ _ _ HP.out (by omega) (by omega) (by omega) (by omega) (by omega) (by omega)
    · have hc1 : ¬ j < nz := fun h => hc (.inl h)
      have hc2 : q = 0 := Classical.byContradiction fun h => hc (.inr h)
      subst hc2
      have hd : decide ((j : Int) < (nz : Int)) = false := by simp; omega
      have hfin := HC.out.total HRX.out.ends HRX.out.fits HRZ.out.ends (by omega) hj HE.out
      have HF := hide hfin
      clear hfin
      go_wp2_with fail
      refine (trimmed_any _ _ _ _ _ HW.out hm2).mono ?_
      rintro ee w1 ⟨rfl, m1, hm3, hg1, hW1, hfull, hz0⟩
      go_wp2_with fail
      go_end0
      have hb0 : Beyond0 e m1 := fun i hi => by
        by_cases him : i < m
        · exact hz0 i hi him
        · rw [HC.out.same i (by omega)]; exact HRX.out.ends i (by omega)
      refine ⟨rfl, m1, e, only_trans HG.out hg1, hW1, ⟨HC.out.lows, hb0, hfull, by omega⟩, ?_⟩
      have := HF.out
      rw [num_ends hb0 232 (by omega)] at this
      omega
/-- The same at no words higher. -/
theorem carry_zero (w : World) (bx bz : Nat) (lx lz : Bool) (nx nz : Nat) (dx dz : Nat → Nat) (f : Int) (Z : Nat) (hx : Wd w bx lx nx dx) (hz : Wd w bz lz nz dz) (hne : bx ≠ bz)
    (rx : Rt nx dx) (rz : Rt nz dz) (hf1 : -1000000000 < f) (hf2 : f < 1000000000) (hZ : (num dx nx : Int) + f * num dz nz = (Z : Int)) (hZ2 : Z < W9 ^ 232) :
    Calls Tryz.prog 151 #[.pointer (some ⟨bx, 0, none⟩), .pointer (some ⟨bz, 0, none⟩), .int .i64 f, .int .i64 0] w fun e w' => e = .returned (.tuple #[]) ∧
      ∃ m d, w.grownBy w' (some bx) ∧ Wd w' bx lx m d ∧ Rt m d ∧ num d m = Z :=
  carry_any w bx bz lx lz nx nz dx dz f 0 Z hx hz hne rx rz hf1 hf2 (by have := rz.fits; omega) (by rw [Nat.pow_zero]; simpa using hZ) hZ2
end Go.Proofs.YtaccdkbofhlbkaaGreatDoor
