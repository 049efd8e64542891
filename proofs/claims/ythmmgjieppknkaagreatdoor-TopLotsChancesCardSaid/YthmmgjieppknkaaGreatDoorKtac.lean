/- Contracts and plain laws that the statements of this seat share (part Ktac). -/
import Derived.Test.YthmmgjieppknkaaGreatDoorKtaa
import Derived.Test.YthmmgjieppknkaaGreatDoorChecked
import Derived.WalkKit
import Derived.WalkSpells
import Derived.WalkLawsBesides
import Derived.Lib.Hide
import Derived.IntWalk
import Derived.BigQuiet
import Derived.Deep.QuietTactic
import Derived.Deep.LoopGhost
import Derived.Deep.DeepCutAuto
import Derived.Deep.DeepFit
import Derived.Deep.Light
import Derived.Outline
import Derived.Laws.Rows
import Derived.Laws.NewBlocks
import Derived.Laws.CopyOwn
import Derived.Laws.Tables
import Derived.Deep.RegionWith
import Derived.Deep.RegionLaw
import Derived.RegionTactic
namespace Go.Proofs.YthmmgjieppknkaaGreatDoor
open Go.RowKit MLab
theorem hide {p : Prop} (h : p) : Hid p := h
def Blk (w : World) (g : Nat) (t : TypeId) (cs : Array Value) : Prop := w.heap[g]? = some (.cells cs t (0, 0))
section
variable {w w' : World} {g : Nat} {t : TypeId} {cs : Array Value}
theorem Blk.lt (h : Blk w g t cs) : g < w.heap.size := by
  rcases Nat.lt_or_ge g w.heap.size with hlt | hge
  · exact hlt
  · unfold Blk at h; rw [Array.getElem?_eq_none hge] at h; cases h
theorem Blk.cell (h : Blk w g t cs) (i : Nat) : w.cell? ⟨g, i, none⟩ = cs[i]? := cell_of_row w g i cs t (0, 0) h
theorem Blk.frozen (h : Blk w g t cs) (i : Nat) : w.frozen? ⟨g, i, none⟩ = false := by
  unfold Blk at h
  simp [World.frozen?, h]
theorem Blk.new (w : World) (t : TypeId) (cs : Array Value) : Blk (w.alloc (.cells cs t)) w.heap.size t cs := heap_alloc_new w _
theorem Blk.drew (h : Blk w g t cs) : Blk w.drew g t cs := h
theorem Blk.drewN (h : Blk w g t cs) (n : Nat) : Blk (w.drewN n) g t cs := h
theorem Blk.alloc (h : Blk w g t cs) (o : Obj) : Blk (w.alloc o) g t cs := (Below.heap_alloc w o g h.lt).trans h
theorem Blk.set_ (h : Blk w g t cs) (i : Nat) (u : Value) : Blk (w.setCell ⟨g, i, none⟩ u) g t (cs.setIfInBounds i u) := by
  unfold Blk at h ⊢
  simp [World.setCell, Array.getElem?_modify, h]
theorem Blk.far (h : Blk w g t cs) {p : Addr} (hp : g ≠ p.block) (u : Value) : Blk (w.setCell p u) g t cs := (Below.heap_setCell w p u g hp).trans h
theorem Blk.below {B : Nat} (h : Blk w g t cs) (hb : Below B w w') (hg : g < B) : Blk w' g t cs := (hb.block g hg).trans h
theorem Blk.grown {row : Option Nat} (h : Blk w g t cs) (hb : w.grownBy w' row) (hg : some g ≠ row) : Blk w' g t cs := (hb.block g h.lt hg).trans h
end
section
variable {a w w1 : World} {row : Option Nat}
theorem only_drewN (h : a.grownBy w row) (n : Nat) : a.grownBy (w.drewN n) row := ⟨h.os, h.tape, h.output, h.size, h.block⟩
theorem only_drew (h : a.grownBy w row) : a.grownBy w.drew row := ⟨h.os, h.tape, h.output, h.size, h.block⟩
theorem only_alloc (h : a.grownBy w row) (o : Obj) : a.grownBy (w.alloc o) row :=
  ⟨h.os, h.tape, h.output, Nat.le_trans h.size (by simp), fun i hi hne => (Below.heap_alloc w o i (Nat.lt_of_lt_of_le hi h.size)).trans (h.block i hi hne)⟩
theorem only_setCell {g : Nat} (h : a.grownBy w (some g)) {p : Addr} (hp : p.block = g ∨ a.heap.size ≤ p.block) (u : Value) : a.grownBy (w.setCell p u) (some g) :=
  ⟨h.os, h.tape, h.output, by simpa [World.setCell] using h.size, fun i hi hne => (Below.heap_setCell w p u i (by
    rintro rfl
    rcases hp with hp | hp
    · exact hne (by rw [hp])
    · omega)).trans (h.block i hi hne)⟩
theorem only_of_below (h : Below a.heap.size a w) (row : Option Nat) : a.grownBy w row := ⟨h.os, h.tape, h.output, h.size, fun i hi _ => h.block i hi⟩
theorem only_refl (a : World) (row : Option Nat) : a.grownBy a row := ⟨rfl, rfl, rfl, Nat.le_refl _, fun _ _ _ => rfl⟩
theorem only_trans (h : a.grownBy w row) (k : w.grownBy w1 row) : a.grownBy w1 row :=
  ⟨k.os.trans h.os, k.tape.trans h.tape, k.output.trans h.output, Nat.le_trans h.size k.size, fun i hi hne => (k.block i (Nat.lt_of_lt_of_le hi h.size) hne).trans (h.block i hi hne)⟩
theorem only_new {g : Nat} (h : a.grownBy w row) (k : w.grownBy w1 (some g)) (hg : a.heap.size ≤ g) : a.grownBy w1 row :=
  ⟨k.os.trans h.os, k.tape.trans h.tape, k.output.trans h.output, Nat.le_trans h.size k.size, fun i hi hne => (k.block i (Nat.lt_of_lt_of_le hi h.size) (by intro e; injection e; omega)).trans (h.block i hi hne)⟩
theorem only_setRow {g : Nat} (h : a.grownBy w row) (hg : row = some g ∨ a.heap.size ≤ g) (cs : Array Value) : a.grownBy (w.setRow g cs) row :=
  ⟨h.os, h.tape, h.output, by simpa using h.size, fun i hi hne => (setRow_other w g i cs (by
    rintro rfl
    rcases hg with hg | hg
    · exact hne hg.symm
    · omega)).trans (h.block i hi hne)⟩
theorem below_drewN {B : Nat} (h : Below B a w) (n : Nat) : Below B a (w.drewN n) := ⟨h.os, h.tape, h.output, h.size, h.block⟩
theorem below_only {B g : Nat} (h : Below B a w) (k : w.grownBy w1 (some g)) (hB : B ≤ w.heap.size) (hg : B ≤ g) : Below B a w1 :=
  h.grown k hB (fun k e => by injection e with e; omega)
end
def Wd (w : World) (b : Nat) (less : Bool) (n : Nat) (d : Nat → Nat) : Prop :=
  ∃ cs, Blk w b 221 cs ∧ cs.size = 234 ∧ cs[0]? = some (.bool less) ∧ cs[1]? = some (.int .i64 (n : Int)) ∧ ∀ i, i < 232 → cs[2 + i]? = some (.int .i64 (d i : Int))
section
variable {w w' : World} {b n : Nat} {less : Bool} {d : Nat → Nat}
theorem Wd.lt (h : Wd w b less n d) : b < w.heap.size := by obtain ⟨_, h, _⟩ := h; exact h.lt
theorem Wd.sgn (h : Wd w b less n d) : w.cell? ⟨b, 0, none⟩ = some (.bool less) := by obtain ⟨cs, h, _, h0, _⟩ := h; rw [h.cell, h0]
theorem Wd.cnt (h : Wd w b less n d) : w.cell? ⟨b, 1, none⟩ = some (.int .i64 (n : Int)) := by obtain ⟨cs, h, _, _, h1, _⟩ := h; rw [h.cell, h1]
theorem Wd.at_ (h : Wd w b less n d) {i : Nat} (hi : i < 232) : w.cell? ⟨b, 2 + i, none⟩ = some (.int .i64 (d i : Int)) := by obtain ⟨cs, h, _, _, _, h2⟩ := h; rw [h.cell, h2 i hi]
theorem Wd.frozen (h : Wd w b less n d) (i : Nat) : w.frozen? ⟨b, i, none⟩ = false := by obtain ⟨cs, h, _⟩ := h; exact h.frozen i
theorem Wd.drew (h : Wd w b less n d) : Wd w.drew b less n d := h
theorem Wd.drewN (h : Wd w b less n d) (k : Nat) : Wd (w.drewN k) b less n d := h
theorem Wd.alloc (h : Wd w b less n d) (o : Obj) : Wd (w.alloc o) b less n d := by obtain ⟨cs, h, r⟩ := h; exact ⟨cs, h.alloc o, r⟩
theorem Wd.far (h : Wd w b less n d) {p : Addr} (hp : b ≠ p.block) (u : Value) : Wd (w.setCell p u) b less n d := by obtain ⟨cs, h, r⟩ := h; exact ⟨cs, h.far hp u, r⟩
theorem Wd.below {B : Nat} (h : Wd w b less n d) (hb : Below B w w') (hg : b < B) : Wd w' b less n d := by obtain ⟨cs, h, r⟩ := h; exact ⟨cs, h.below hb hg, r⟩
theorem Wd.grown {row : Option Nat} (h : Wd w b less n d) (hb : w.grownBy w' row) (hg : some b ≠ row) : Wd w' b less n d := by obtain ⟨cs, h, r⟩ := h; exact ⟨cs, h.grown hb hg, r⟩
theorem Wd.keep (h : Wd w b less n d) (hk : w'.heap[b]? = w.heap[b]?) : Wd w' b less n d := by obtain ⟨cs, h, r⟩ := h; exact ⟨cs, hk.trans h, r⟩
theorem Wd.congr {e : Nat → Nat} (h : Wd w b less n d) (he : ∀ i, i < 232 → d i = e i) : Wd w b less n e := by
  obtain ⟨cs, h, h1, h2, h3, h4⟩ := h
  exact ⟨cs, h, h1, h2, h3, fun i hi => by rw [h4 i hi, he i hi]⟩
theorem Wd.setN (h : Wd w b less n d) (m : Nat) : Wd (w.setCell ⟨b, 1, none⟩ (.int .i64 (m : Int))) b less m d := by
  obtain ⟨cs, h, h1, h2, h3, h4⟩ := h
  refine ⟨_, h.set_ 1 _, by simpa using h1, ?_, ?_, fun i hi => ?_⟩
  · rw [Array.getElem?_setIfInBounds]; simpa using h2
  · rw [Array.getElem?_setIfInBounds, if_pos rfl, if_pos (by omega)]
  · rw [Array.getElem?_setIfInBounds, if_neg (by omega)]; exact h4 i hi
theorem Wd.setLess (h : Wd w b less n d) (l : Bool) : Wd (w.setCell ⟨b, 0, none⟩ (.bool l)) b l n d := by
  obtain ⟨cs, h, h1, h2, h3, h4⟩ := h
  refine ⟨_, h.set_ 0 _, by simpa using h1, ?_, ?_, fun i hi => ?_⟩
  · rw [Array.getElem?_setIfInBounds, if_pos rfl, if_pos (by omega)]
  · rw [Array.getElem?_setIfInBounds]; simpa using h3
  · rw [Array.getElem?_setIfInBounds, if_neg (by omega)]; exact h4 i hi
theorem Wd.setAt (h : Wd w b less n d) {i : Nat} (hi : i < 232) (v : Nat) : Wd (w.setCell ⟨b, 2 + i, none⟩ (.int .i64 (v : Int))) b less n (upd d i v) := by
  obtain ⟨cs, h, h1, h2, h3, h4⟩ := h
  refine ⟨_, h.set_ (2 + i) _, by simpa using h1, ?_, ?_, fun j hj => ?_⟩
  · rw [Array.getElem?_setIfInBounds, if_neg (by omega)]; exact h2
  · rw [Array.getElem?_setIfInBounds, if_neg (by omega)]; exact h3
  · rw [Array.getElem?_setIfInBounds]
    by_cases e : i = j
    · subst e; rw [if_pos rfl, if_pos (by omega), upd_same]
    · rw [if_neg (by omega), upd_other _ _ (by omega)]; exact h4 j hj
theorem Wd.setN' (h : Wd w b less n d) {x : Int} (m : Nat) (hx : x = (m : Int)) : Wd (w.setCell ⟨b, 1, none⟩ (.int .i64 x)) b less m d := by subst hx; exact h.setN m
theorem Wd.setAt' (h : Wd w b less n d) {o i : Nat} (ho : o = 2 + i) (hi : i < 232) {x : Int} (v : Nat) (hx : x = (v : Int)) : Wd (w.setCell ⟨b, o, none⟩ (.int .i64 x)) b less n (upd d i v) := by
  subst hx ho; exact h.setAt hi v
end
section
variable {w w' : World} {b n : Nat} {less : Bool} {d : Nat → Nat}
theorem zero_words : Tryz.zeroCells221 = (.bool false :: .int .i64 0 :: List.replicate 232 (.int .i64 0)).toArray := by kernel_rfl
theorem Wd.of_list {l : Bool} {c : Nat} {e : Nat → Nat} {xs : List Value} (h : w.heap[b]? = some (.cells (.bool l :: .int .i64 (c : Int) :: xs).toArray 221 (0, 0))) (hl : xs.length = 232)
    (hx : ∀ i, i < 232 → xs[i]? = some (.int .i64 (e i : Int))) : Wd w b l c e :=
  ⟨_, h, by simp [hl], by simp, by simp, fun i hi => by
    rw [List.getElem?_toArray, Nat.add_comm 2 i, List.getElem?_cons_succ, List.getElem?_cons_succ]; exact hx i hi⟩
theorem Wd.new (w : World) : Wd (w.alloc (.cells Tryz.zeroCells221 221)) w.heap.size false 0 (fun _ => 0) := by
  refine Wd.of_list (xs := List.replicate 232 (.int .i64 0)) ?_ List.length_replicate (fun i hi => by rw [List.getElem?_replicate, if_pos hi]; rfl)
  rw [heap_alloc_new, zero_words]; rfl
theorem Wd.newl (w : World) (l : Bool) : Wd (w.alloc (.cells (Tryz.zeroCells221.setIfInBounds 0 (.bool l)) 221)) w.heap.size l 0 (fun _ => 0) := by
  refine Wd.of_list (xs := List.replicate 232 (.int .i64 0)) ?_ List.length_replicate (fun i hi => by rw [List.getElem?_replicate, if_pos hi]; rfl)
  rw [heap_alloc_new, zero_words, List.setIfInBounds_toArray, List.set_cons_zero]; rfl
theorem Wd.newone (w : World) (l : Bool) : Wd (w.alloc (.cells ((Tryz.zeroCells221.setIfInBounds 0 (.bool l)).setIfInBounds 1 (.int .i64 1)) 221)) w.heap.size l 1 (fun _ => 0) := by
  refine Wd.of_list (xs := List.replicate 232 (.int .i64 0)) ?_ List.length_replicate (fun i hi => by rw [List.getElem?_replicate, if_pos hi]; rfl)
  rw [heap_alloc_new, zero_words, List.setIfInBounds_toArray (i := 0), List.set_cons_zero, List.setIfInBounds_toArray (i := 1), List.set_cons_succ, List.set_cons_zero]; rfl
def up1 (n : Nat) (d : Nat → Nat) : Nat → Nat := fun i => if 1 ≤ i ∧ i ≤ n then d (i - 1) else d i
theorem Wd.cells_of (h : Wd w b less n d) : ∃ cur : List Value, w.heap[b]? = some (.cells cur.toArray 221 (0, 0)) ∧ cur.length = 234 ∧ cur[0]? = some (.bool less) ∧ cur[1]? = some (.int .i64 (n : Int)) ∧ ∀ i, i < 232 → cur[2 + i]? = some (.int .i64 (d i : Int)) := by
  obtain ⟨cs, h, h1, h2, h3, h4⟩ := h
  exact ⟨cs.toList, h, by simpa using h1, by simpa using h2, by simpa using h3, fun i hi => by simpa using h4 i hi⟩
theorem Wd.moved {cur : List Value} {c : Nat} (hl : cur.length = 234) (h0 : cur[0]? = some (.bool less)) (h1 : cur[1]? = some (.int .i64 (n : Int))) (h2 : ∀ i, i < 232 → cur[2 + i]? = some (.int .i64 (d i : Int))) (hc : c ≤ 231)
    (h : w.heap[b]? = some (.cells (splice cur 3 ((List.range c).map fun i => (Value.int .i64 (d i : Int)))).toArray 221 (0, 0))) : Wd w b less n (up1 c d) := by
  have hs : (cur.take 3).length = 3 := by rw [List.length_take]; omega
  refine ⟨_, h, by simp [splice]; omega, ?_, ?_, fun i hi => ?_⟩
  · rw [List.getElem?_toArray, splice, List.getElem?_append_left (by omega), List.getElem?_take, if_pos (by omega)]; exact h0
  · rw [List.getElem?_toArray, splice, List.getElem?_append_left (by omega), List.getElem?_take, if_pos (by omega)]; exact h1
  · rw [List.getElem?_toArray, splice]
    by_cases hi0 : i = 0
    · subst hi0
      rw [List.getElem?_append_left (by omega), List.getElem?_take, if_pos (by omega), h2 0 (by omega)]
      simp [up1]
    · rw [List.getElem?_append_right (by omega), hs]
      by_cases hic : i ≤ c
      · rw [List.getElem?_append_left (by simp; omega), List.getElem?_map, List.getElem?_range (by omega)]
        simp only [up1, Option.map_some]
        rw [if_pos (by omega), show 2 + i - 3 = i - 1 by omega]
      · rw [List.getElem?_append_right (by simp; omega)]
        simp only [List.length_map, List.length_range, List.getElem?_drop]
        rw [show 3 + c + (2 + i - 3 - c) = 2 + i by omega, h2 i hi]
        simp only [up1]
        rw [if_neg (by omega)]
end
structure Rt (n : Nat) (d : Nat → Nat) : Prop where
  lows : Lows d
  ends : Beyond0 d n
  full : Full d n
  fits : n ≤ 232
end Go.Proofs.YthmmgjieppknkaaGreatDoor
namespace Go.Proofs.YthmmgjieppknkaaGreatDoor
open Go.RowKit MLab
set_option maxRecDepth 100000 in
set_option maxHeartbeats 400000 in
theorem trimmed_any (w : World) (b : Nat) (less : Bool) (n : Nat) (d : Nat → Nat) (hw : Wd w b less n d) (hn : n ≤ 232) :
    Calls Tryz.prog 179 #[.pointer (some ⟨b, 0, none⟩)] w fun e w' => e = .returned (.pointer (some ⟨b, 0, none⟩)) ∧
      ∃ m, m ≤ n ∧ w.grownBy w' (some b) ∧ Wd w' b less m d ∧ (m = 0 ∨ d (m - 1) ≠ 0) ∧ ∀ i, m ≤ i → i < n → d i = 0 := by
  go_enter Tryz.func179, Tryz.ntmps179
  go_wp2_with fail
  go_loopg [] n (fun k wr => k ≤ n ∧ w.grownBy wr (some b) ∧ Wd wr b less k d ∧ ∀ i, k ≤ i → i < n → d i = 0)
  case atStart => exact ⟨Nat.le_refl _, only_refl _ _, hw, fun i h1 h2 => by omega⟩
  case round =>
    obtain ⟨hk, hg, hW, hz⟩ := hrel
    have hc1 := hW.cnt
    have hf1 := hW.frozen 1
    have HZ := hide hz
    have HW := hide hW
    have HG := hide hg
    clear hz hW hg hw
    rcases Nat.eq_zero_or_pos gk with h0 | h0
    · have hd : decide ((0 : Int) < (gk : Int)) = false := by subst h0; rfl
      go_wp2_with fail
      go_quiet (fail)
      go_wp2
      go_ret
      refine ⟨rfl, gk, hk, only_drewN HG.out _, HW.out.drewN _, .inl h0, HZ.out⟩
    · have hlt : (0 : Int) < (gk : Int) := by omega
      have hc2 : wr.cell? ⟨b, 2 + (gk - 1), none⟩ = some (.int .i64 (d (gk - 1) : Int)) := HW.out.at_ (by omega)
      by_cases hd0 : d (gk - 1) = 0
      · have hb : ((d (gk - 1) : Int) == 0) = true := by rw [hd0]; rfl
        go_wp2_with fail
        go_quiet (fail)
        go_wp2
        go_roundg (gk - 1)
        case measure => omega
        case rel =>
          have e : ((gk : Int) - 1) = ((gk - 1 : Nat) : Int) := by omega
          rw [e]
          refine ⟨by omega, only_setCell (only_drewN HG.out _) (.inl rfl) _, (HW.out.drewN _).setN _, fun i h1 h2 => ?_⟩
          by_cases e : i = gk - 1
          · rw [e]; exact hd0
          · exact HZ.out i (by omega) h2
      · have hb : ((d (gk - 1) : Int) == 0) = false := by rw [beq_eq_false_iff_ne]; omega
        go_wp2_with fail
        go_quiet (fail)
        go_wp2
        go_ret
        refine ⟨rfl, gk, hk, only_drewN HG.out _, HW.out.drewN _, .inr hd0, HZ.out⟩
end Go.Proofs.YthmmgjieppknkaaGreatDoor
namespace Go.Proofs.YthmmgjieppknkaaGreatDoor
open Go.RowKit MLab
def CmpR (c : Int) (X Y : Nat) : Prop := (c < 0 ∧ X < Y) ∨ (c = 0 ∧ X = Y) ∨ (0 < c ∧ Y < X)
def RetInt (P : Int → Prop) (e : Ending) : Prop := ∃ c, e = .returned (.int .i64 c) ∧ P c
def Drew (w w' : World) : Prop := ∃ k, w' = w.drewN k
theorem Drew.refl (w : World) : Drew w w := ⟨0, rfl⟩
theorem Drew.step {w w' : World} (h : Drew w w') (n : Nat) : Drew w (w'.drewN n) := by obtain ⟨k, rfl⟩ := h; exact ⟨k + n, World.drewN_drewN _ _ _⟩
theorem Drew.below {w w' : World} (h : Drew w w') (B : Nat) : Below B w w' := by obtain ⟨k, rfl⟩ := h; exact below_drewN (Below.refl _ _) k
set_option maxRecDepth 100000 in
set_option maxHeartbeats 1000000 in
theorem beyond_any (w : World) (bx bz : Nat) (lx lz : Bool) (nx nz : Nat) (dx dz : Nat → Nat) (hx : Wd w bx lx nx dx) (hz : Wd w bz lz nz dz) (rx : Rt nx dx) (rz : Rt nz dz) :
    Calls Tryz.prog 183 #[.pointer (some ⟨bx, 0, none⟩), .pointer (some ⟨bz, 0, none⟩)] w fun e w' => RetInt (CmpR · (num dx nx) (num dz nz)) e ∧ Drew w w' := by
  have HX := hide hx
  have HZ := hide hz
  have HRX := hide rx
  have HRZ := hide rz
  have hx1 := hx.cnt
  have hz1 := hz.cnt
  have hnx := rx.fits
  have hnz := rz.fits
  clear hx hz rx rz
  by_cases hn : nx = nz
  · have hb : ((nx : Int) != (nz : Int)) = false := by rw [bne_eq_false_iff_eq]; omega
    have hb' : ((nx : Int) != (nx : Int)) = false := by simp
    subst hn
    go_enter Tryz.func183, Tryz.ntmps183
    go_wp2_with fail
    go_quiet (fail)
    go_wp2_with fail
    go_loopg [5] nx (fun k i wr => ∃ (j q : Nat), k = j ∧ j ≤ nx ∧ i = .int .i64 ((j : Int) - 1) ∧ (∀ t, j ≤ t → t < nx → dx t = dz t) ∧ wr = w.drewN q)
    case atStart => exact ⟨nx, _, rfl, Nat.le_refl _, rfl, fun t h1 h2 => by omega, rfl⟩
    case round =>
      obtain ⟨j, q, hkj, hj, rfl, heq, rfl⟩ := hrel
      have HQ := hide heq
      have HK := hide hkj
      clear heq hkj
      rcases Nat.eq_zero_or_pos j with h0 | h0
      · have hd : decide ((0 : Int) ≤ (j : Int) - 1) = false := by simp; omega
        have hd' : ¬ (1 : Int) ≤ (j : Int) := by omega
        go_wp2_with fail
        go_ret
        refine ⟨⟨0, rfl, .inr (.inl ⟨rfl, num_congr fun i hi => HQ.out i (by omega) hi⟩)⟩, q, rfl⟩
      · have hd' : (1 : Int) ≤ (j : Int) := by omega
        have hx2 : w.cell? ⟨bx, 2 + (j - 1), none⟩ = some (.int .i64 (dx (j - 1) : Int)) := HX.out.at_ (by omega)
        have hz2 : w.cell? ⟨bz, 2 + (j - 1), none⟩ = some (.int .i64 (dz (j - 1) : Int)) := HZ.out.at_ (by omega)
        have hlx : dx (j - 1) < 1000000000 := HRX.out.lows _
        have hlz : dz (j - 1) < 1000000000 := HRZ.out.lows _
        by_cases hne : dx (j - 1) = dz (j - 1)
        · have hb2 : ((dx (j - 1) : Int) != (dz (j - 1) : Int)) = false := by rw [bne_eq_false_iff_eq]; omega
          have HN := hide hne
          clear hne
          go_wp2_with fail
          go_quiet (fail)
          go_wp2_with fail
          go_roundg (j - 1)
          case measure => have := HK.out; omega
          case rel =>
            refine ⟨j - 1, _, rfl, by omega, by go_num, fun t h1 h2 => ?_, rfl⟩
            by_cases e : t = j - 1
            · rw [e]; exact HN.out
            · exact HQ.out t (by omega) h2
        · have hb2 : ((dx (j - 1) : Int) != (dz (j - 1) : Int)) = true := by rw [bne_iff_ne]; omega
          go_wp2_with fail
          go_quiet (fail)
          go_wp2_with fail
          go_quiet (fail)
          go_wp2_with fail
          go_ret
          refine ⟨⟨_, rfl, ?_⟩, ((Drew.refl w).step _).step _ |>.step _⟩
          rcases Nat.lt_or_gt_of_ne hne with h | h
          · exact .inl ⟨by omega, num_cmp HRX.out.lows (k := j - 1) (by omega) (fun i h1 h2 => HQ.out i (by omega) h2) h⟩
          · exact .inr (.inr ⟨by omega, num_cmp HRZ.out.lows (k := j - 1) (by omega) (fun i h1 h2 => (HQ.out i (by omega) h2).symm) h⟩)
  · have hb : ((nx : Int) != (nz : Int)) = true := by rw [bne_iff_ne]; omega
    go_enter Tryz.func183, Tryz.ntmps183
    go_wp2_with fail
    go_quiet (fail)
    go_wp2_with fail
    go_quiet (fail)
    go_wp2_with fail
    go_ret
    refine ⟨⟨_, rfl, ?_⟩, ((Drew.refl w).step _).step _⟩
    rcases Nat.lt_or_gt_of_ne hn with h | h
    · exact .inl ⟨by omega, full_lt HRX.out.lows HRZ.out.full h⟩
    · exact .inr (.inr ⟨by omega, full_lt HRZ.out.lows HRX.out.full h⟩)
end Go.Proofs.YthmmgjieppknkaaGreatDoor
namespace Go.Proofs.YthmmgjieppknkaaGreatDoor
open Go.RowKit MLab
theorem tdiv_facts (s : Int) : -1000000000 < s - s.tdiv 1000000000 * 1000000000 ∧ s - s.tdiv 1000000000 * 1000000000 < 1000000000 ∧ (0 ≤ s → 0 ≤ s - s.tdiv 1000000000 * 1000000000) ∧ (s ≤ 0 → s - s.tdiv 1000000000 * 1000000000 ≤ 0) := by
  have h : s - s.tdiv 1000000000 * 1000000000 = s.tmod 1000000000 := by have := Int.tdiv_mul_add_tmod s 1000000000; omega
  rw [h]
  refine ⟨?_, ?_, fun hs => ?_, fun hs => ?_⟩
  · have := Int.lt_tmod_of_pos s (b := 1000000000) (by omega); omega
  · exact Int.tmod_lt_of_pos s (by omega)
  · exact Int.tmod_nonneg _ hs
  · have := Int.tmod_nonneg (a := -s) 1000000000 (by omega); rw [Int.neg_tmod] at this; omega
theorem carry_close {w wr : World} {bx nx m gk j up : Nat} {lx : Bool} {dx dz e : Nat → Nat} {f q : Int} (HC : Carried dx dz f up j e q) (HW : Wd wr bx lx m e) (HG : w.grownBy wr (some bx)) (hju : j + up < 232) (hm1 : nx ≤ m) (hm2 : m ≤ 232)
    (hk : gk + j + up = 232 + up) (p x r y : Int) (hp : f * (dz j : Int) = p) (hx0 : 0 ≤ x) (hx1 : x < 1000000000) (hs : (e (j + up) : Int) + q + p = r * 1000000000 + x) (h1 : -999999999 ≤ r) (h2 : r ≤ 999999999) (hy : y = ((max m (j + up + 1) : Nat) : Int)) :
    ∃ (j1 : Nat) (e1 : Nat → Nat) (q1 : Int) (m1 : Nat), Value.int .i64 ((j : Int) + 1) = .int .i64 (j1 : Int) ∧ Value.int .i64 r = .int .i64 q1 ∧ gk - 1 + j1 + up = 232 + up ∧ Carried dx dz f up j1 e1 q1 ∧
      Wd ((wr.setCell ⟨bx, 2 + (j + up), none⟩ (.int .i64 x)).setCell ⟨bx, 1, none⟩ (.int .i64 y)) bx lx m1 e1 ∧ w.grownBy ((wr.setCell ⟨bx, 2 + (j + up), none⟩ (.int .i64 x)).setCell ⟨bx, 1, none⟩ (.int .i64 y)) (some bx) ∧
      nx ≤ m1 ∧ m1 ≤ 232 ∧ j1 + up ≤ 232 ∧ (j1 = 0 ∨ j1 + up ≤ m1) := by
  obtain ⟨s, rfl⟩ := Int.eq_ofNat_of_zero_le hx0
  subst hy hp
  exact ⟨j + 1, _, r, max m (j + up + 1), by simp, rfl, by omega, HC.step (s := s) (by rw [W9_eq]; omega) hs h1 h2, (HW.setAt hju s).setN _, only_setCell (only_setCell HG (.inl rfl) _) (.inl rfl) _, by omega, by omega, by omega, .inr (by omega)⟩
set_option maxRecDepth 100000 in
set_option maxHeartbeats 1000000 in
theorem carry_any (w : World) (bx bz : Nat) (lx lz : Bool) (nx nz : Nat) (dx dz : Nat → Nat) (f : Int) (up Z : Nat) (hx : Wd w bx lx nx dx) (hz : Wd w bz lz nz dz) (hne : bx ≠ bz)
    (rx : Rt nx dx) (rz : Rt nz dz) (hf1 : -1000000000 < f) (hf2 : f < 1000000000) (hup : nz + up ≤ 232) (hZ : (num dx nx : Int) + f * num dz nz * ((W9 ^ up : Nat) : Int) = (Z : Int)) (hZ2 : Z < W9 ^ 232) :
    Calls Tryz.prog 180 #[.pointer (some ⟨bx, 0, none⟩), .pointer (some ⟨bz, 0, none⟩), .int .i64 f, .int .i64 (up : Int)] w fun e w' => e = .returned (.tuple #[]) ∧
      ∃ m d, w.grownBy w' (some bx) ∧ Wd w' bx lx m d ∧ Rt m d ∧ num d m = Z := by
  have HX := hide hx
  have HZ := hide hz
  have HRX := hide rx
  have HRZ := hide rz
  have HE := hide hZ
  have HE2 := hide hZ2
  clear hx hz rx rz hZ hZ2
  go_enter Tryz.func180, Tryz.ntmps180
  go_wp2_with fail
  go_loopg [8, 9] 232 (fun k r i wr => ∃ (j : Nat) (e : Nat → Nat) (q : Int) (m : Nat), i = .int .i64 (j : Int) ∧ r = .int .i64 q ∧ k + j + up = 232 + up ∧ Carried dx dz f up j e q ∧ Wd wr bx lx m e ∧ w.grownBy wr (some bx) ∧ nx ≤ m ∧ m ≤ 232 ∧ j + up ≤ 232 ∧ (j = 0 ∨ j + up ≤ m))
  case atStart => exact ⟨0, dx, 0, nx, rfl, rfl, by omega, Carried.start HRX.out.lows, HX.out, only_refl _ _, Nat.le_refl _, HRX.out.fits, by omega, .inl rfl⟩
  case round =>
    obtain ⟨j, e, q, m, rfl, rfl, hk, hC, hW, hG, hm1, hm2, hj, hjm⟩ := hrel
    have hq1 := hC.low
    have hq2 := hC.high
    have HC := hide hC
    have HW := hide hW
    have HG := hide hG
    have HK := hide hk
    clear hC hW hG hk
    have hz1 : wr.cell? ⟨bz, 1, none⟩ = some (.int .i64 (nz : Int)) := by
      rw [World.cell?_of_block (HG.out.block bz HZ.out.lt (by simpa using Ne.symm hne))]; exact HZ.out.cnt
    by_cases hc : j < nz ∨ q ≠ 0
    · have hju : j + up < 232 := by
        by_cases hlt : j < nz
        · omega
        · exact HC.out.room HRX.out.ends HRX.out.fits HRZ.out.ends (by omega) hj HE.out HE2.out (hc.resolve_left hlt)
      have hf3 : wr.frozen? ⟨bx, 2 + (j + up), none⟩ = false := HW.out.frozen _
      have hf4 : wr.frozen? ⟨bx, 1, none⟩ = false := HW.out.frozen _
      have hx1 : wr.cell? ⟨bx, 1, none⟩ = some (.int .i64 (m : Int)) := HW.out.cnt
      have hx2 : wr.cell? ⟨bx, 2 + (j + up), none⟩ = some (.int .i64 (e (j + up) : Int)) := HW.out.at_ hju
      have he : e (j + up) < 1000000000 := HC.out.lows _
      by_cases hlt : j < nz
      · have hz2 : wr.cell? ⟨bz, 2 + j, none⟩ = some (.int .i64 (dz j : Int)) := by
          rw [World.cell?_of_block (HG.out.block bz HZ.out.lt (by simpa using Ne.symm hne))]; exact HZ.out.at_ (by omega)
        obtain ⟨hp1, hp2⟩ := mul_bounds hf1 hf2 (HRZ.out.lows j)
        obtain ⟨t1, t2, t3, t4⟩ := tdiv_facts ((e (j + up) : Int) + q + f * (dz j : Int))
        have HT3 := hide t3
        have HT4 := hide t4
        clear t3 t4
        by_cases hs : (e (j + up) : Int) + q + f * (dz j : Int) < 0
        · have t4 := HT4.out (by omega)
          go_wp2_with fail
          all_goals
            go_roundg (gk - 1)
            case measure => have := HK.out; omega
            case rel => exact carry_close HC.out HW.out HG.out hju hm1 hm2 HK.out _ _ _ _ rfl (by omega) (by omega) (by omega) (by omega) (by omega) (by omega)
        · go_wp2_with fail
          all_goals
            go_roundg (gk - 1)
            case measure => have := HK.out; omega
            case rel => exact carry_close HC.out HW.out HG.out hju hm1 hm2 HK.out _ _ _ _ rfl (by omega) (by omega) (by omega) (by omega) (by omega) (by omega)
      · have hq0 : (q == 0) = false := by rw [beq_eq_false_iff_ne]; exact hc.resolve_left hlt
        have hq3 : (q != 0) = true := by rw [bne_iff_ne]; exact hc.resolve_left hlt
        have hd : decide ((j : Int) < (nz : Int)) = false := by simp; omega
        have hnlt : ¬ (j : Int) < (nz : Int) := by omega
        have hp0 : f * (dz j : Int) = 0 := by rw [HRZ.out.ends j (by omega)]; simp
        have HP := hide hp0
        clear hp0
        obtain ⟨t1, t2, t3, t4⟩ := tdiv_facts ((e (j + up) : Int) + q)
        have HT3 := hide t3
        have HT4 := hide t4
        clear t3 t4
        by_cases hs : (e (j + up) : Int) + q < 0
        · have t4 := HT4.out (by omega)
          go_wp2_with fail
          all_goals
            go_roundg (gk - 1)
            case measure => have := HK.out; omega
            case rel => exact carry_close HC.out HW.out HG.out hju hm1 hm2 HK.out _ _ _ _ HP.out (by omega) (by omega) (by omega) (by omega) (by omega) (by omega)
        · go_wp2_with fail
          all_goals
            go_roundg (gk - 1)
            case measure => have := HK.out; omega
            case rel => exact carry_close HC.out HW.out HG.out hju hm1 hm2 HK.out _ _ _ _ HP.out (by omega) (by omega) (by omega) (by omega) (by omega) (by omega)
    · have hc1 : ¬ j < nz := fun h => hc (.inl h)
      have hc2 : q = 0 := Classical.byContradiction fun h => hc (.inr h)
      subst hc2
      have hd : decide ((j : Int) < (nz : Int)) = false := by simp; omega
      have hfin := HC.out.total HRX.out.ends HRX.out.fits HRZ.out.ends (by omega) hj HE.out
      have HF := hide hfin
      clear hfin
      go_wp2_with fail
      refine (trimmed_any _ _ _ _ _ HW.out hm2).mono ?_
      rintro ee w1 ⟨rfl, m1, hm3, hg1, hW1, hfull, hz0⟩
      go_wp2_with fail
      go_end0
      have hb0 : Beyond0 e m1 := fun i hi => by
        by_cases him : i < m
        · exact hz0 i hi him
        · rw [HC.out.same i (by omega)]; exact HRX.out.ends i (by omega)
      refine ⟨rfl, m1, e, only_trans HG.out hg1, hW1, ⟨HC.out.lows, hb0, hfull, by omega⟩, ?_⟩
      have := HF.out
      rw [num_ends hb0 232 (by omega)] at this
      omega
theorem carry_zero (w : World) (bx bz : Nat) (lx lz : Bool) (nx nz : Nat) (dx dz : Nat → Nat) (f : Int) (Z : Nat) (hx : Wd w bx lx nx dx) (hz : Wd w bz lz nz dz) (hne : bx ≠ bz)
    (rx : Rt nx dx) (rz : Rt nz dz) (hf1 : -1000000000 < f) (hf2 : f < 1000000000) (hZ : (num dx nx : Int) + f * num dz nz = (Z : Int)) (hZ2 : Z < W9 ^ 232) :
    Calls Tryz.prog 180 #[.pointer (some ⟨bx, 0, none⟩), .pointer (some ⟨bz, 0, none⟩), .int .i64 f, .int .i64 0] w fun e w' => e = .returned (.tuple #[]) ∧
      ∃ m d, w.grownBy w' (some bx) ∧ Wd w' bx lx m d ∧ Rt m d ∧ num d m = Z :=
  carry_any w bx bz lx lz nx nz dx dz f 0 Z hx hz hne rx rz hf1 hf2 (by have := rz.fits; omega) (by rw [Nat.pow_zero]; simpa using hZ) hZ2
end Go.Proofs.YthmmgjieppknkaaGreatDoor

namespace Go.Proofs.YthmmgjieppknkaaGreatDoor
open Go.RowKit MLab
theorem est_mul {X Y P a b k : Nat} (hY : Y ≤ b * P) (hX : a * P ≤ X) (hk : k ≤ a / b) : k * Y ≤ X := by
  have h1 := Nat.mul_le_mul_left k hY
  have h2 : k * b ≤ a := Nat.le_trans (Nat.mul_le_mul_right b hk) (Nat.div_mul_le_self a b)
  have h3 := Nat.mul_le_mul_right P h2
  rw [← Nat.mul_assoc] at h1
  omega
structure EstR (X Y k : Nat) : Prop where
  pos : 1 ≤ k
  lt : k < 1000000000
  mul : k * Y ≤ X
theorem est_ok {dx dy : Nat → Nat} {nx ny : Nat} (rx : Rt nx dx) (ry : Rt ny dy) (hy : 1 ≤ ny) (hle : num dy ny ≤ num dx nx) (hlt : num dx nx < num dy ny * W9) (k : Nat) :
    (k = 1 ∨ k ≤ (dx ny * 1000000000 + dx (ny - 1)) / (dy (ny - 1) + (if 1 < ny then 1 else 0)) ∧ 1 ≤ k ∧ k < 1000000000) → EstR (num dx nx) (num dy ny) k := by
  intro hk
  rcases hk with rfl | ⟨hk, hk1, hk2⟩
  · exact ⟨Nat.le_refl _, by omega, by omega⟩
  refine ⟨hk1, hk2, ?_⟩
  obtain ⟨m, rfl⟩ : ∃ m, ny = m + 1 := ⟨ny - 1, by omega⟩
  have hnx : nx ≤ m + 2 := by
    refine Nat.le_of_not_lt fun h => ?_
    have h1 := full_le rx.full (by omega)
    have h2 := num_lt ry.lows (m + 1)
    have h3 : W9 ^ (m + 2) ≤ W9 ^ (nx - 1) := Nat.pow_le_pow_right (by decide) (by omega)
    have h4 := Nat.mul_le_mul_right W9 (Nat.le_of_lt h2)
    have h5 : W9 ^ (m + 2) = W9 ^ (m + 1) * W9 := Nat.pow_succ _ _
    omega
  have hX : num dx nx = num dx m + (dx (m + 1) * 1000000000 + dx m) * W9 ^ m := by
    rw [← num_ends rx.ends (m + 2) hnx, num_succ, num_succ, Nat.pow_succ, W9_eq, Nat.add_mul, Nat.mul_assoc, Nat.mul_comm 1000000000 (1000000000 ^ m)]
    omega
  refine est_mul (P := W9 ^ m) (a := dx (m + 1) * 1000000000 + dx m) (b := dy m + (if 1 < m + 1 then 1 else 0)) ?_ ?_ hk
  · rw [num_succ]
    by_cases hm : 1 < m + 1
    · rw [if_pos hm]
      have := num_lt ry.lows m
      rw [Nat.add_mul]
      omega
    · have : m = 0 := by omega
      subst this
      simp [num]
  · omega
theorem est_close {x0 x1 b X Y : Nat} (HE : ∀ k : Nat, (k = 1 ∨ k ≤ (x0 * 1000000000 + x1) / b ∧ 1 ≤ k ∧ k < 1000000000) → EstR X Y k) (c B : Int) (hB : B = (b : Int))
    (h0 : 0 < ((x0 : Int) * 1000000000 + (x1 : Int)) / B) (h : (c = ((x0 : Int) * 1000000000 + (x1 : Int)) / B ∨ c = 999999999) ∧ c ≤ ((x0 : Int) * 1000000000 + (x1 : Int)) / B ∧ c ≤ 999999999) :
    RetInt (fun c => ∃ k : Nat, c = k ∧ EstR X Y k) (.returned (.int .i64 c)) := by
  subst hB
  have e : ((x0 : Int) * 1000000000 + (x1 : Int)) / (b : Int) = (((x0 * 1000000000 + x1) / b : Nat) : Int) := by simp
  rw [e] at h0 h
  exact ⟨c, rfl, c.toNat, by omega, HE _ (.inr ⟨by omega, by omega, by omega⟩)⟩
set_option maxRecDepth 100000 in
set_option maxHeartbeats 400000 in
theorem top_any (w : World) (b : Nat) (l : Bool) (n i : Nat) (d : Nat → Nat) (hx : Wd w b l n d) (rx : Rt n d) (hi : i ≤ 9223372036854775807) :
    Calls Tryz.prog 198 #[.pointer (some ⟨b, 0, none⟩), .int .i64 (i : Int)] w fun e w' => e = .returned (.int .i64 (d i : Int)) ∧ Drew w w' := by
  have hc1 := hx.cnt
  have hn := rx.fits
  by_cases hin : i < n
  · have hc2 : w.cell? ⟨b, 2 + i, none⟩ = some (.int .i64 (d i : Int)) := hx.at_ (by omega)
    have h3 : ¬ ((n : Int) ≤ (i : Int)) := by omega
    clear hx rx
    go_enter Tryz.func198, Tryz.ntmps198
    go_wp2_with fail
    go_ret
    exact ⟨rfl, Drew.refl _⟩
  · have h3 : (n : Int) ≤ (i : Int) := by omega
    have hd : d i = 0 := rx.ends i (by omega)
    have HD := hide hd
    clear hx rx hd
    go_enter Tryz.func198, Tryz.ntmps198
    go_wp2_with fail
    go_ret
    exact ⟨by rw [HD.out]; rfl, Drew.refl _⟩
set_option maxRecDepth 100000 in
set_option maxHeartbeats 1000000 in
theorem estimate_any (w : World) (bx bz : Nat) (lx lz : Bool) (nx nz : Nat) (dx dz : Nat → Nat) (hx : Wd w bx lx nx dx) (hz : Wd w bz lz nz dz) (rx : Rt nx dx) (rz : Rt nz dz) (h1 : 1 ≤ nz) (hle : num dz nz ≤ num dx nx) (hlt : num dx nx < num dz nz * W9) :
    Calls Tryz.prog 184 #[.pointer (some ⟨bx, 0, none⟩), .pointer (some ⟨bz, 0, none⟩)] w fun e w' => RetInt (fun c => ∃ k : Nat, c = k ∧ EstR (num dx nx) (num dz nz) k) e ∧ Drew w w' := by
  have hz1 := hz.cnt
  have hnz := rz.fits
  have hE := est_ok rx rz h1 hle hlt
  have HE := hide hE
  have b1 : dx nz < 1000000000 := rx.lows _
  have b2 : dx (nz - 1) < 1000000000 := rx.lows _
  have b3 : dz (nz - 1) < 1000000000 := rz.lows _
  have b4 : 1 ≤ dz (nz - 1) := by rcases rz.full with h | h <;> omega
  have HX := hide hx
  have HZ := hide hz
  have HRX := hide rx
  have HRZ := hide rz
  clear hx hz rx rz hle hlt hE
  have c1 : ∀ n, Calls Tryz.prog 198 #[.pointer (some ⟨bx, 0, none⟩), .int .i64 (nz : Int)] (w.drewN n) fun e w' => e = .returned (.int .i64 (dx nz : Int)) ∧ ∃ m, w' = (w.drewN n).drewN m :=
    fun n => top_any _ _ _ _ _ _ (HX.out.drewN n) HRX.out (by omega)
  have c2 : ∀ n, Calls Tryz.prog 198 #[.pointer (some ⟨bx, 0, none⟩), .int .i64 ((nz : Int) - 1)] (w.drewN n) fun e w' => e = .returned (.int .i64 (dx (nz - 1) : Int)) ∧ ∃ m, w' = (w.drewN n).drewN m := by
    intro n; rw [show (nz : Int) - 1 = ((nz - 1 : Nat) : Int) by omega]; exact top_any _ _ _ _ _ _ (HX.out.drewN n) HRX.out (by omega)
  have c3 : ∀ n, Calls Tryz.prog 198 #[.pointer (some ⟨bz, 0, none⟩), .int .i64 ((nz : Int) - 1)] (w.drewN n) fun e w' => e = .returned (.int .i64 (dz (nz - 1) : Int)) ∧ ∃ m, w' = (w.drewN n).drewN m := by
    intro n; rw [show (nz : Int) - 1 = ((nz - 1 : Nat) : Int) by omega]; exact top_any _ _ _ _ _ _ (HZ.out.drewN n) HRZ.out (by omega)
  have C1 := hide c1
  have C2 := hide c2
  have C3 := hide c3
  clear c1 c2 c3
  have ew : IntKind.i64.wrap ((nz : Int) - 1) = (nz : Int) - 1 := IntWalk.i64_in _ ⟨by omega, by omega⟩
  go_enter Tryz.func184, Tryz.ntmps184
  go_wp2_with fail
  go_quiet ((first | (go_at_call_of 198 (Value.int .i64 (nz : Int)); exact Calls.quiet_of (C1.out _)) | (go_at_call_of 198 (Value.pointer (some ⟨bz, 0, none⟩)); exact Calls.quiet_of (C3.out _)) | (go_at_call 198; exact Calls.quiet_of (C2.out _))))
  clear ew
  by_cases hm : 1 < nz
  · have hm' : (1 : Int) < (nz : Int) := by omega
    rw [if_pos hm] at HE
    go_wp2_with fail
    all_goals go_wp2
    all_goals go_ret
    · have h0 : 0 < ((dx nz : Int) * 1000000000 + (dx (nz - 1) : Int)) / ((dz (nz - 1) : Int) + 1) := by assumption
      exact ⟨est_close HE.out _ _ (by simp) h0 (by omega), _, rfl⟩
    · have h0 : 0 < ((dx nz : Int) * 1000000000 + (dx (nz - 1) : Int)) / ((dz (nz - 1) : Int) + 1) := by assumption
      exact ⟨est_close HE.out _ _ (by simp) h0 (by omega), _, rfl⟩
    · exact ⟨⟨1, rfl, 1, rfl, HE.out 1 (.inl rfl)⟩, _, rfl⟩
  · have hm' : ¬ (1 : Int) < (nz : Int) := by omega
    rw [if_neg hm] at HE
    go_wp2_with fail
    all_goals go_wp2
    all_goals go_ret
    · have h0 : 0 < ((dx nz : Int) * 1000000000 + (dx (nz - 1) : Int)) / (dz (nz - 1) : Int) := by assumption
      exact ⟨est_close HE.out _ _ (by simp) h0 (by omega), _, rfl⟩
    · have h0 : 0 < ((dx nz : Int) * 1000000000 + (dx (nz - 1) : Int)) / (dz (nz - 1) : Int) := by assumption
      exact ⟨est_close HE.out _ _ (by simp) h0 (by omega), _, rfl⟩
    · exact ⟨⟨1, rfl, 1, rfl, HE.out 1 (.inl rfl)⟩, _, rfl⟩
end Go.Proofs.YthmmgjieppknkaaGreatDoor
namespace Go.Proofs.YthmmgjieppknkaaGreatDoor
open Go.RowKit MLab
theorem words_info : (Tryz.prog.info? 3).map (·.size) = some 1 := by kernel_rfl
def up1x (n : Nat) (d : Nat → Nat) (x : Nat) : Nat → Nat := upd (up1 n d) 0 x
theorem up1x_num {n : Nat} {d : Nat → Nat} (x : Nat) : num (up1x n d x) (n + 1) = num d n * W9 + x := by
  rw [num_head]
  have h : num (fun i => up1x n d x (i + 1)) n = num d n := num_congr fun i hi => by
    show upd (up1 n d) 0 x (i + 1) = _
    rw [upd_other _ _ (by omega), up1, if_pos (by omega)]; rfl
  rw [h, up1x, upd_same]; rw [Nat.mul_comm W9]; omega
theorem up1x_lows {n : Nat} {d : Nat → Nat} {x : Nat} (h : Lows d) (hx : x < W9) : Lows (up1x n d x) := by
  refine Lows.upd (fun i => ?_) 0 hx
  unfold up1; split
  · exact h _
  · exact h _
theorem up1x_beyond {n : Nat} {d : Nat → Nat} {x : Nat} (h : Beyond0 d n) : Beyond0 (up1x n d x) (n + 1) := fun i hi => by
  show upd (up1 n d) 0 x i = 0
  rw [upd_other _ _ (by omega), up1, if_neg (by omega)]; exact h i (by omega)
structure DivInv (dx : Nat → Nat) (nx X Y j nq : Nat) (dq : Nat → Nat) (R : Nat) : Prop where
  lowsq : Lows dq
  begq : ∀ t, t < j → dq t = 0
  endq : Beyond0 dq nq
  cntq : nq ≤ nx
  lt : R < Y
  eq : X = num dx j + num dq 232 * Y + R * W9 ^ j
theorem DivInv.step {dx dq : Nat → Nat} {nx X Y j nq R R' dig : Nat} (h : DivInv dx nx X Y j nq dq R) (hj : 1 ≤ j) (hjx : j ≤ nx) (hx : nx ≤ 232) (hd : dig * Y + R' = R * W9 + dx (j - 1)) (hR : R' < Y) (hl : dx (j - 1) < W9) :
    DivInv dx nx X Y (j - 1) (max nq j) (upd dq (j - 1) dig) R' ∧ dig < W9 := by
  obtain ⟨m, rfl⟩ : ∃ m, j = m + 1 := ⟨j - 1, by omega⟩
  simp only [Nat.add_sub_cancel] at *
  have hdl : dig < W9 := by
    refine div_lt (R := R') (Y := Y) ?_
    rw [hd]
    have := Nat.mul_le_mul_right W9 (show R + 1 ≤ Y from h.lt)
    rw [Nat.add_mul, Nat.one_mul] at this
    omega
  refine ⟨⟨h.lowsq.upd _ hdl, fun t ht => ?_, fun t ht => ?_, by have := h.cntq; omega, hR, ?_⟩, hdl⟩
  · rw [upd_other _ _ (by omega)]; exact h.begq t (by omega)
  · rw [upd_other _ _ (by omega)]; exact h.endq t (by omega)
  · rw [num_upd_top dq dig (by omega) (h.begq m (by omega))]
    have e := h.eq
    rw [num_succ, Nat.pow_succ] at e
    exact div_step e hd
set_option maxRecDepth 100000 in
set_option maxHeartbeats 2000000 in
theorem divided_any (w : World) (bx bz : Nat) (lx lz : Bool) (nx nz : Nat) (dx dz : Nat → Nat) (hx : Wd w bx lx nx dx) (hz : Wd w bz lz nz dz) (rx : Rt nx dx) (rz : Rt nz dz) (h1 : 1 ≤ nz) (h2 : nz ≤ 230) :
    Calls Tryz.prog 164 #[.pointer (some ⟨bx, 0, none⟩), .pointer (some ⟨bz, 0, none⟩)] w fun e w' =>
      e = .returned (.tuple #[.pointer (some ⟨w.heap.size, 0, none⟩), .pointer (some ⟨w.heap.size + 1, 0, none⟩)]) ∧ Below w.heap.size w w' ∧
      ∃ nq dq nr dr, Wd w' w.heap.size false nq dq ∧ Wd w' (w.heap.size + 1) false nr dr ∧ Rt nq dq ∧ Rt nr dr ∧ num dq nq = num dx nx / num dz nz ∧ num dr nr = num dx nx % num dz nz := by
  have hx1 := hx.cnt
  have hx232 := rx.fits
  have HX := hide hx
  have HZ := hide hz
  have HRX := hide rx
  have HRZ := hide rz
  have hbx := hx.lt
  have hbz := hz.lt
  obtain ⟨B, hB⟩ : ∃ B, B = w.heap.size := ⟨_, rfl⟩
  have HB := hide hB
  clear hx hz rx rz
  go_enter Tryz.func164, Tryz.ntmps164
  go_upto_region 2 with (fail)
  have hq0 : Wd ((w.alloc (.cells Tryz.zeroCells221 221)).alloc (.cells Tryz.zeroCells221 221)) w.heap.size false 0 (fun _ => 0) := (Wd.new w).alloc _
  have hr0 : Wd ((w.alloc (.cells Tryz.zeroCells221 221)).alloc (.cells Tryz.zeroCells221 221)) (w.heap.size + 1) false 0 (fun _ => 0) := by
    have := Wd.new (w.alloc (.cells Tryz.zeroCells221 221)); simpa using this
  have hb0 : Below w.heap.size w ((w.alloc (.cells Tryz.zeroCells221 221)).alloc (.cells Tryz.zeroCells221 221)) :=
    ((Below.refl _ _).alloc (Nat.le_refl _) _).alloc (by simp) _
  generalize ((w.alloc (.cells Tryz.zeroCells221 221)).alloc (.cells Tryz.zeroCells221 221)) = w0 at *
  rw [← hB] at hq0 hr0 hb0 hbx hbz ⊢
  clear hB
  have hc0 : w0.cell? ⟨bx, 1, none⟩ = some (.int .i64 (nx : Int)) := (HX.out.below hb0 hbx).cnt
  have hnz1 : num dz nz ≠ 0 := fun e => by have := (num_zero_iff HRZ.out.full).1 e; omega
  have HY := hide hnz1
  clear hnz1
  go_wp2_with fail
  go_loopg [8] nx (fun k i wr => ∃ (j nq nr : Nat) (dq dr : Nat → Nat), k = j ∧ j ≤ nx ∧ i = .int .i64 ((j : Int) - 1) ∧ Wd wr B false nq dq ∧ Wd wr (B + 1) false nr dr ∧ Below B w wr ∧ Rt nr dr ∧ DivInv dx nx (num dx nx) (num dz nz) j nq dq (num dr nr))
  case atStart =>
    refine ⟨nx, 0, 0, fun _ => 0, fun _ => 0, rfl, Nat.le_refl _, rfl, hq0, hr0, hb0, ⟨fun _ => by decide, fun _ _ => rfl, .inl rfl, by omega⟩, ⟨fun _ => by decide, fun _ _ => rfl, fun _ _ => rfl, by omega, by have := HY.out; simp [num]; omega, ?_⟩⟩
    rw [num_ends (n := 0) (fun _ _ => rfl) 232 (by omega)]; simp [num]
  case round =>
    clear hq0 hr0 hb0 hc0
    obtain ⟨j, nq, nr, dq, dr, hkj, hj, rfl, hQ, hR, hB, hrt, hinv⟩ := hrel
    have HK := hide hkj
    have HQ := hide hQ
    have HR := hide hR
    have HBW := hide hB
    have HRT := hide hrt
    have HI := hide hinv
    clear hkj hQ hR hB hrt hinv
    rcases Nat.eq_zero_or_pos j with h0 | h0
    · have hd' : ¬ (1 : Int) ≤ (j : Int) := by omega
      go_wp2_with fail
      refine (trimmed_any _ _ _ _ _ HQ.out (by have := HI.out.cntq; omega)).mono ?_
      rintro ee w1 ⟨rfl, m1, hm3, hg1, hW1, hfull, hz0⟩
      go_wp2_with fail
      go_ret2
      subst h0
      have hBw := HB.out
      subst hBw
      have hI := HI.out
      have hbey : Beyond0 dq m1 := fun i hi => by
        by_cases him : i < nq
        · exact hz0 i hi him
        · exact hI.endq i (by omega)
      have hqr := quo_rem (X := num dx nx) (q := num dq 232) (Y := num dz nz) (R := num dr nr) (by have := hI.eq; simpa [num] using this) hI.lt
      refine ⟨rfl, below_only HBW.out hg1 (by have := HQ.out.lt; omega) (Nat.le_refl _), m1, dq, nr, dr, hW1, HR.out.grown hg1 (by simp), ⟨hI.lowsq, hbey, hfull, by have := hI.cntq; omega⟩, HRT.out, ?_, hqr.2.symm⟩
      rw [← num_ends hbey 232 (by have := hI.cntq; omega)]; exact hqr.1.symm
    · have hd' : (1 : Int) ≤ (j : Int) := by omega
      have hnr : nr ≤ 230 := by
        refine Nat.le_of_not_lt fun h => ?_
        have := full_lt HRZ.out.lows HRT.out.full (show nz < nr by omega)
        have := HI.out.lt
        omega
      have hnI : (nr : Int) ≤ 232 := by omega
      have hnI0 : (0 : Int) ≤ (nr : Int) := by omega
      have hr1 : wr.cell? ⟨B + 1, 1, none⟩ = some (.int .i64 (nr : Int)) := HR.out.cnt
      have hsz : B + 1 < wr.heap.size := HR.out.lt
      obtain ⟨cur, hcur, hcl, hc0, hc1, hc2⟩ := HR.out.cells_of
      have hsrc : ∀ (t : Nat) v, ((List.range nr).map fun i => (Value.int .i64 (dr i : Int)))[t]? = some v → wr.cell? ((⟨B + 1, 2, none⟩ : Addr).add t) = some v := by
        intro t v ht
        rw [List.getElem?_map] at ht
        by_cases htn : t < nr
        · rw [List.getElem?_range htn] at ht
          simp only [Option.map_some, Option.some.injEq] at ht
          rw [← ht]
          have e : ((⟨B + 1, 2, none⟩ : Addr).add t) = ⟨B + 1, 2 + t, none⟩ := by
            unfold Addr.add; split
            · rename_i h; subst h; rfl
            · rfl
          rw [e]; exact HR.out.at_ (by omega)
        · rw [List.getElem?_eq_none (by simp; omega)] at ht; simp at ht
      have hone : ∀ v ∈ (List.range nr).map (fun i => (Value.int .i64 (dr i : Int))), v.oneCell' = true := by
        intro v hv
        obtain ⟨i, _, rfl⟩ := List.mem_map.1 hv
        rfl
      have HC := hide hcur
      have HC0 := hide hc0
      have HC1 := hide hc1
      have HC2 := hide hc2
      have HSRC := hide hsrc
      have HONE := hide hone
      have hlen : ((List.range nr).map fun i => (Value.int .i64 (dr i : Int))).length = Nat.min nr 231 := by
        rw [List.length_map, List.length_range]; exact (Nat.min_eq_left (by omega)).symm
      have hfit : 3 + ((List.range nr).map fun i => (Value.int .i64 (dr i : Int))).length ≤ cur.length := by
        rw [List.length_map, List.length_range]; omega
      have HLEN := hide hlen
      have HFIT := hide hfit
      clear hcur hc0 hc1 hc2 hsrc hone hlen hfit
      go_wp2_with fail
      go_region_law (refine step_copy_splice rfl (.tmp 27) (.tmp 35) 54 54 rfl 3 Tryz.underlying54 words_info (some ⟨B + 1, 3, none⟩) (some ⟨B + 1, 2, none⟩) 231 231 nr 232 (by simp [Act.eval, Act.put]) (by simp [Act.eval, Act.put]) (B + 1) 3 cur 221 HC.out ((List.range nr).map fun i => (Value.int .i64 (dr i : Int))) HLEN.out (fun _ => ⟨rfl, _, rfl, HSRC.out⟩) HFIT.out HONE.out (B + 1) wr (Below.refl _ _).drew (Nat.le_refl _) ?_; intro w1 hh hbb)
      have hR1 : Wd w1 (B + 1) false nr (up1 nr dr) := Wd.moved hcl HC0.out HC1.out HC2.out (by omega) hh.out
      have hQ1 : Wd w1 B false nq dq := HQ.out.below hbb (by omega)
      have hB1 : Below B w w1 := HBW.out.trans (hbb.mono (by omega))
      clear hbb hh HC HC0 HC1 HC2 HSRC HONE HLEN HFIT hcl hr1 hsz HQ HR HBW
      have hx2 : w1.cell? ⟨bx, 2 + (j - 1), none⟩ = some (.int .i64 (dx (j - 1) : Int)) := (HX.out.below hB1 hbx).at_ (by omega)
      have hr2 : w1.cell? ⟨B + 1, 2, none⟩ = some (.int .i64 (up1 nr dr 0 : Int)) := by have := hR1.at_ (i := 0) (by omega); simpa using this
      have hr3 : w1.cell? ⟨B + 1, 1, none⟩ = some (.int .i64 (nr : Int)) := hR1.cnt
      have hf1 := hR1.frozen 1
      have hf2 := hR1.frozen 2
      have HR1 := hide hR1
      have HQ1 := hide hQ1
      have HB1 := hide hB1
      clear hR1 hQ1 hB1
      go_wp2_with fail
      go_region
      go_wp2_with fail
      refine (trimmed_any _ (B + 1) false (nr + 1) (up1x nr dr (dx (j - 1))) ?hw (by omega)).mono ?_
      case hw => exact (HR1.out.drew.setAt' (i := 0) rfl (by omega) _ rfl).setN' _ (by omega)
      rintro ee w2 ⟨rfl, m1, hm3, hg1, hW2, hfull, hz0⟩
      have hBx : Below B w w2 := by
        refine below_only (g := B + 1) ?_ hg1 ?_ (by omega)
        · exact (HB1.out.drew.setCell (by show B ≤ B + 1; omega) _).setCell (by show B ≤ B + 1; omega) _
        · have := HR1.out.lt; simp [World.setCell]; omega
      have hQx : Wd w2 B false nq dq := by
        refine Wd.grown ?_ hg1 (by simp)
        exact (HQ1.out.drew.far (by show B ≠ B + 1; omega) _).far (by show B ≠ B + 1; omega) _
      have hrt2 : Rt m1 (up1x nr dr (dx (j - 1))) := by
        refine ⟨up1x_lows HRT.out.lows (HRX.out.lows _), fun i hi => ?_, hfull, by omega⟩
        by_cases him : i < nr + 1
        · exact hz0 i hi him
        · exact up1x_beyond HRT.out.ends i (by omega)
      have hV : num (up1x nr dr (dx (j - 1))) m1 = num dr nr * W9 + dx (j - 1) := by
        rw [← up1x_num (n := nr) (d := dr) (dx (j - 1)), num_ends hrt2.ends (nr + 1) hm3]
      generalize up1x nr dr (dx (j - 1)) = d2 at *
      have hVlt : num dr nr * W9 + dx (j - 1) < num dz nz * W9 := by
        have h1 := HI.out.lt
        have h2 := Nat.mul_le_mul_right W9 (show num dr nr + 1 ≤ num dz nz from h1)
        rw [Nat.add_mul, Nat.one_mul] at h2
        have h3 : dx (j - 1) < W9 := HRX.out.lows _
        omega
      clear hg1 hfull hz0 hm3 hx2 hr2 hr3 hf1 hf2 HR1 HQ1 HB1
      obtain ⟨V0, hV0⟩ : ∃ V0, V0 = num dr nr * W9 + dx (j - 1) := ⟨_, rfl⟩
      rw [← hV0] at hV hVlt
      have HV := hide hV
      have HVL := hide hVlt
      have HV0 := hide hV0
      have H1 := hide hBx
      have H2 := hide hQx
      have H3 := hide hrt2
      have H4 := hide hW2
      clear hV hVlt hV0 hBx hQx hrt2 hW2
      go_wp2_with fail
      go_loopg [9] V0 (fun k dg wi => ∃ (g mi : Nat) (di : Nat → Nat), dg = .int .i64 (g : Int) ∧ k = num di mi ∧ Wd wi (B + 1) false mi di ∧ Rt mi di ∧ Below B w wi ∧ Wd wi B false nq dq ∧ g * num dz nz + num di mi = V0)
      case atStart => exact ⟨0, m1, d2, rfl, HV.out.symm, H4.out, H3.out, H1.out, H2.out, by rw [HV.out]; omega⟩
      case round =>
        obtain ⟨g, mi, di, rfl, hgk, hWi, hRi, hBi, hQi, hsum⟩ := hrel
        have HGK := hide hgk
        have HWI := hide hWi
        have HRI := hide hRi
        have HBI := hide hBi
        have HQI := hide hQi
        have HS := hide hsum
        clear hgk hWi hRi hBi hQi hsum H1 H2 H3 H4
        have hgl : g < 1000000000 := by
          have h1 := HS.out
          have h2 := HVL.out
          exact div_lt (d := g) (Y := num dz nz) (R := num di mi) (by omega)
        go_wp2_with fail
        refine (beyond_any _ _ _ _ _ _ _ _ _ HWI.out (HZ.out.below HBI.out hbz) HRI.out HRZ.out).mono ?_
        rintro ee w3 ⟨⟨c, rfl, hc⟩, qd, rfl⟩
        have HCC := hide hc
        clear hc
        by_cases hc0 : c < 0
        · have hc1 : ¬ (0 : Int) ≤ c := by omega
          have hlast : num di mi < num dz nz := by rcases HCC.out with ⟨_, h⟩ | ⟨h, _⟩ | ⟨h, _⟩ <;> omega
          have hst := HI.out.step (dig := g) (R' := num di mi) h0 hj hx232 (by rw [HS.out, HV0.out]) hlast (HRX.out.lows _)
          have HST := hide hst
          have HL := hide hlast
          clear hst hlast
          have hq1 : wr.cell? ⟨B, 1, none⟩ = some (.int .i64 (nq : Int)) := HQI.out.cnt
          have hq2 : wr.cell? ⟨B, 2 + (j - 1), none⟩ = some (.int .i64 (dq (j - 1) : Int)) := HQI.out.at_ (by omega)
          have hf1 : wr.frozen? ⟨B, 1, none⟩ = false := HQI.out.frozen 1
          have hf2 : wr.frozen? ⟨B, 2 + (j - 1), none⟩ = false := HQI.out.frozen _
          have hnq := HI.out.cntq
          go_wp2_with fail
          all_goals
            go_roundg (j - 1)
            case measure => have := HK.out; omega
            case rel =>
              refine ⟨j - 1, max nq j, mi, upd dq (j - 1) g, di, rfl, by omega, by go_num, ?_, ?_, ?_, HRI.out, HST.out.1⟩
              · exact ((HQI.out.drewN _).setAt' (i := j - 1) rfl (by omega) _ rfl).setN' _ (by omega)
              · exact ((HWI.out.drewN _).far (by show B + 1 ≠ B; omega) _).far (by show B + 1 ≠ B; omega) _
              · exact ((below_drewN HBI.out _).setCell (by show B ≤ B; omega) _).setCell (by show B ≤ B; omega) _
        · have hc1 : (0 : Int) ≤ c := by omega
          have hge : num dz nz ≤ num di mi := by rcases HCC.out with ⟨h, _⟩ | ⟨_, h⟩ | ⟨_, h⟩ <;> omega
          have hlt2 : num di mi < num dz nz * W9 := by
            have h1 := HS.out
            have h2 := HVL.out
            omega
          go_wp2_with fail
          refine (estimate_any _ _ _ _ _ _ _ _ _ (HWI.out.drewN _) ((HZ.out.below HBI.out hbz).drewN _) HRI.out HRZ.out h1 hge hlt2).mono ?_
          rintro ee w4 ⟨⟨_, rfl, k, rfl, hk⟩, qe, rfl⟩
          have hk1 := hk.pos
          have hk2 := hk.lt
          have hkm := hk.mul
          have HKM := hide hkm
          clear hk hkm hge hlt2
          go_wp2_with fail
          have hz1 : (num di mi : Int) + -(k : Int) * num dz nz = ((num di mi - k * num dz nz : Nat) : Int) := by
            have := HKM.out
            rw [Int.natCast_sub this, Int.natCast_mul, Int.neg_mul]; omega
          have hz2 : num di mi - k * num dz nz < W9 ^ 232 := by
            have := num_lt HRI.out.lows mi
            have h3 : W9 ^ mi ≤ W9 ^ 232 := Nat.pow_le_pow_right (by decide) HRI.out.fits
            omega
          refine (carry_zero _ _ _ _ _ _ _ _ _ (-(k : Int)) (num di mi - k * num dz nz) (HWI.out.drewN _) ((HZ.out.below HBI.out hbz).drewN _) (by omega) HRI.out HRZ.out (by omega) (by omega) hz1 hz2).mono ?_
          clear hz1 hz2
          rintro ee w5 ⟨rfl, m2, d3, hg5, hW5, hR5, hn5⟩
          have hs5 : (g + k) * num dz nz + num d3 m2 = V0 := by
            have h1 := HKM.out
            have h2 := HS.out
            rw [hn5, Nat.add_mul]
            omega
          have hgk2 : g + k < 1000000000 := by
            have h2 := HVL.out
            exact div_lt (d := g + k) (Y := num dz nz) (R := num d3 m2) (by omega)
          have H5 := hide hs5
          have H6 := hide hn5
          have H7 := hide hg5
          have H8 := hide hW5
          have H9 := hide hR5
          clear hs5 hn5 hg5 hW5 hR5
          go_wp2_with fail
          go_roundg (num d3 m2)
          case measure =>
            have h1 := HKM.out
            have h2 := H6.out
            have h3 := HGK.out
            have h4 : 1 * 1 ≤ k * num dz nz := Nat.mul_le_mul hk1 (Nat.one_le_iff_ne_zero.2 HY.out)
            omega
          case rel =>
            refine ⟨g + k, m2, d3, by go_num, rfl, H8.out, H9.out, ?_, ?_, H5.out⟩
            · exact below_only (g := B + 1) (below_drewN HBI.out _) H7.out (by have := HWI.out.lt; simp; omega) (by omega)
            · exact Wd.grown (HQI.out.drewN _) H7.out (by simp)
end Go.Proofs.YthmmgjieppknkaaGreatDoor
namespace Go.Proofs.YthmmgjieppknkaaGreatDoor
open Go.RowKit MLab
theorem num_mul_lt {dx dz : Nat → Nat} {nx i : Nat} (h1 : Lows dx) (h2 : Lows dz) (h : nx + i ≤ 232) : num dx nx * num dz i < W9 ^ 232 := by
  have a := num_lt h1 nx
  have b := num_lt h2 i
  have c : num dx nx * num dz i ≤ num dx nx * W9 ^ i := Nat.mul_le_mul_left _ (by omega)
  have d : num dx nx * W9 ^ i < W9 ^ nx * W9 ^ i := Nat.mul_lt_mul_of_pos_right a (W9_pos i)
  rw [← Nat.pow_add] at d
  have e : W9 ^ (nx + i) ≤ W9 ^ 232 := Nat.pow_le_pow_right (by decide) h
  omega
set_option maxRecDepth 100000 in
set_option maxHeartbeats 1000000 in
theorem times_any (w : World) (bx bz : Nat) (lx lz : Bool) (nx nz : Nat) (dx dz : Nat → Nat) (hx : Wd w bx lx nx dx) (hz : Wd w bz lz nz dz) (rx : Rt nx dx) (rz : Rt nz dz) (hfit : nx + nz ≤ 232) :
    Calls Tryz.prog 159 #[.pointer (some ⟨bx, 0, none⟩), .pointer (some ⟨bz, 0, none⟩)] w fun e w' =>
      e = .returned (.pointer (some ⟨w.heap.size, 0, none⟩)) ∧ Below w.heap.size w w' ∧ ∃ m d, Wd w' w.heap.size (lx != lz) m d ∧ Rt m d ∧ num d m = num dx nx * num dz nz := by
  have hx1 := hx.sgn
  have hz1 := hz.sgn
  have hz2 := hz.cnt
  have hz232 := rz.fits
  have HX := hide hx
  have HZ := hide hz
  have HRX := hide rx
  have HRZ := hide rz
  have hbx := hx.lt
  have hbz := hz.lt
  clear hx hz rx rz
  go_enter Tryz.func159, Tryz.ntmps159
  go_wp2_with fail
  go_region
  go_wp2_with fail
  have hw0 : Wd ((w.alloc (.cells (Tryz.zeroCells221.setIfInBounds 0 (.bool (!(lx == lz)))) 221)).drew) w.heap.size (lx != lz) 0 (fun _ => 0) := (Wd.newl w (lx != lz)).drew
  have hb0 : Below w.heap.size w ((w.alloc (.cells (Tryz.zeroCells221.setIfInBounds 0 (.bool (!(lx == lz)))) 221)).drew) := ((Below.refl _ _).alloc (Nat.le_refl _) _).drew
  have H0 := hide hw0
  have HB0 := hide hb0
  clear hw0 hb0 hx1 hz1 hz2
  go_loopg [22] nz (fun k i wr => ∃ (j m : Nat) (d : Nat → Nat), i = .int .i64 (j : Int) ∧ k + j = nz ∧ Wd wr w.heap.size (lx != lz) m d ∧ Rt m d ∧ Below w.heap.size w wr ∧ num d m = num dx nx * num dz j)
  case atStart => exact ⟨0, 0, fun _ => 0, rfl, rfl, H0.out, ⟨fun _ => by decide, fun _ _ => rfl, .inl rfl, by omega⟩, HB0.out, by simp [num]⟩
  case round =>
    obtain ⟨j, m, d, rfl, hkj, hW, hR, hB, hn⟩ := hrel
    have HK := hide hkj
    have HW := hide hW
    have HR := hide hR
    have HB := hide hB
    have HN := hide hn
    have hj : j ≤ nz := by omega
    clear hkj hW hR hB hn H0 HB0
    by_cases hlt : j < nz
    · have hz3 : wr.cell? ⟨bz, 2 + j, none⟩ = some (.int .i64 (dz j : Int)) := (HZ.out.below HB.out hbz).at_ (by omega)
      have hzj : dz j < 1000000000 := HRZ.out.lows j
      have hltI : (j : Int) < (nz : Int) := by omega
      have hmul : num dx nx * num dz (j + 1) = num dx nx * num dz j + dz j * num dx nx * W9 ^ j := by
        rw [num_succ, Nat.mul_add, ← Nat.mul_assoc, Nat.mul_comm (num dx nx) (dz j)]
      have hZ : (num d m : Int) + (dz j : Int) * num dx nx * ((W9 ^ j : Nat) : Int) = ((num dx nx * num dz (j + 1) : Nat) : Int) := by
        rw [hmul, HN.out]; simp
      have hZ2 : num dx nx * num dz (j + 1) < W9 ^ 232 := num_mul_lt HRX.out.lows HRZ.out.lows (by omega)
      have HZZ := hide hZ
      have HZ2 := hide hZ2
      clear hmul hZ hZ2
      go_wp2_with fail
      refine (carry_any _ _ _ _ _ _ _ _ _ (dz j : Int) j (num dx nx * num dz (j + 1)) HW.out (HX.out.below HB.out hbx) (by omega) HR.out HRX.out (by omega) (by omega) (by omega) HZZ.out HZ2.out).mono ?_
      rintro ee w5 ⟨rfl, m2, d3, hg5, hW5, hR5, hn5⟩
      have H5 := hide hn5
      have H7 := hide hg5
      have H8 := hide hW5
      have H9 := hide hR5
      clear hn5 hg5 hW5 hR5
      go_wp2_with fail
      go_roundg (gk - 1)
      case measure => have := HK.out; omega
      case rel => exact ⟨j + 1, m2, d3, by go_num, by have := HK.out; omega, H8.out, H9.out, below_only HB.out H7.out (by have := HB.out.size; omega) (Nat.le_refl _), H5.out⟩
    · obtain rfl : j = nz := by omega
      have hltI : ¬ (j : Int) < (j : Int) := by omega
      go_wp2_with fail
      go_ret
      exact ⟨rfl, HB.out, m, d, HW.out, HR.out, HN.out⟩
def sval (l : Bool) (N : Nat) : Int := if l then -(N : Int) else (N : Int)
def Sgd (w : World) (b : Nat) (v : Int) : Prop := ∃ l m d, Wd w b l m d ∧ Rt m d ∧ sval l (num d m) = v
theorem wide_info : (Tryz.prog.info? 221).map (·.size) = some 234 := by kernel_rfl
theorem Wd.ones {w : World} {b n : Nat} {l : Bool} {d : Nat → Nat} {cs : Array Value} (h : Blk w b 221 cs ∧ cs.size = 234 ∧ cs[0]? = some (.bool l) ∧ cs[1]? = some (.int .i64 (n : Int)) ∧ ∀ i, i < 232 → cs[2 + i]? = some (.int .i64 (d i : Int))) : cs.all (·.oneCell') = true := by
  obtain ⟨_, h1, h2, h3, h4⟩ := h
  rw [Array.all_eq_true]
  intro i hi
  have hv : cs[i]? = some cs[i] := Array.getElem?_eq_getElem hi
  by_cases h0 : i = 0
  · subst h0; rw [h2] at hv; injection hv with hv; rw [← hv]; rfl
  · by_cases h1' : i = 1
    · subst h1'; rw [h3] at hv; injection hv with hv; rw [← hv]; rfl
    · have := h4 (i - 2) (by omega)
      rw [show 2 + (i - 2) = i by omega, hv] at this
      injection this with this
      rw [this]; rfl
theorem results_none {fn : Func} (h : fn.results = #[]) (tmps : Array Value) (P : Program) (w : World) : (results fn tmps).run P w = .ok (.tuple #[]) w := by simp [results, h]
set_option maxRecDepth 100000 in
set_option maxHeartbeats 1000000 in
theorem plus_any (w : World) (bx bz : Nat) (lx lz : Bool) (nx nz : Nat) (dx dz : Nat → Nat) (hx : Wd w bx lx nx dx) (hz : Wd w bz lz nz dz) (hne : bx ≠ bz) (rx : Rt nx dx) (rz : Rt nz dz) (hfit : num dx nx + num dz nz < W9 ^ 232) :
    Calls Tryz.prog 170 #[.pointer (some ⟨bx, 0, none⟩), .pointer (some ⟨bz, 0, none⟩)] w fun e w' =>
      e = .returned (.tuple #[]) ∧ w.grownBy w' (some bx) ∧ Sgd w' bx (sval lx (num dx nx) + sval lz (num dz nz)) := by
  have hx1 := hx.sgn
  have hz1 := hz.sgn
  have HX := hide hx
  have HZ := hide hz
  have HRX := hide rx
  have HRZ := hide rz
  have HF := hide hfit
  clear hx hz rx rz hfit
  by_cases hs : lx = lz
  · have hb : (lx == lz) = true := by rw [hs]; exact beq_self_eq_true lz
    have HS := hide hs
    clear hs
    go_enter Tryz.func170, Tryz.ntmps170
    go_wp2_with fail
    go_quiet (fail)
    go_wp2_with fail
    refine (carry_zero _ _ _ _ _ _ _ _ _ 1 (num dx nx + num dz nz) (HX.out.drewN _) (HZ.out.drewN _) hne HRX.out HRZ.out (by omega) (by omega) (by simp) HF.out).mono ?_
    rintro ee w5 ⟨rfl, m2, d3, hg5, hW5, hR5, hn5⟩
    have H5 := hide hn5
    have H7 := hide hg5
    have H8 := hide hW5
    have H9 := hide hR5
    clear hn5 hg5 hW5 hR5
    go_wp2_with fail
    refine bodyPost_ret (results_none rfl _ _ _) rfl ?_
    refine ⟨rfl, only_trans (only_drewN (only_refl _ _) _) H7.out, lx, m2, d3, H8.out, H9.out, ?_⟩
    rw [H5.out, ← HS.out]; unfold sval; cases lx <;> simp <;> omega
  · have hb : (lx == lz) = false := by rw [beq_eq_false_iff_ne]; exact hs
    have HS := hide hs
    clear hs
    go_enter Tryz.func170, Tryz.ntmps170
    go_wp2_with fail
    go_quiet (fail)
    go_wp2_with fail
    refine (beyond_any _ _ _ _ _ _ _ _ _ (HX.out.drewN _) (HZ.out.drewN _) HRX.out HRZ.out).mono ?_
    rintro ee w3 ⟨⟨c, rfl, hc⟩, qd, rfl⟩
    have HCC := hide hc
    clear hc
    by_cases hc0 : c < 0
    · have hc1 : ¬ (0 : Int) ≤ c := by omega
      have hlt : num dx nx < num dz nz := by rcases HCC.out with ⟨_, h⟩ | ⟨h, _⟩ | ⟨h, _⟩ <;> omega
      have hz1 : (num dz nz : Int) + -1 * num dx nx = ((num dz nz - num dx nx : Nat) : Int) := by omega
      have hz2 : num dz nz - num dx nx < W9 ^ 232 := by have := HF.out; omega
      have HZ1 := hide hz1
      have HZ2 := hide hz2
      have hbx := HX.out.lt
      clear hz1 hz2
      obtain ⟨cs, hblk, hsz, hcs⟩ := HZ.out
      have hone := Wd.ones ⟨hblk, hsz, hcs⟩
      have hi : (Tryz.prog.info? 221).map (·.size) = some cs.size := by rw [hsz]; exact wide_info
      have HBLK := hide hblk
      have HSZ := hide hsz
      have HCS := hide hcs
      have HONE := hide hone
      have HI := hide hi
      clear hblk hsz hcs hone hi
      go_wp2_with (first
        | (refine wpList_load_row rfl 221 (.tmp 25) rfl bz rfl 221 cs (0, 0) _ (HBLK.out.drewN _) Tryz.underlying221 rfl HI.out ?_)
        | (refine wpList_store_row rfl 221 (.tmp 4) (.tmp 26) rfl w.heap.size cs rfl rfl 221 Tryz.zeroCells221 (Blk.new _ _ _) HI.out (by rw [HSZ.out, zero_words]; simp) HONE.out ?_))
      refine (carry_zero _ _ _ lz lx nz nx dz dx (-1) (num dz nz - num dx nx) ?wz1 ?wx1 (by omega) HRZ.out HRX.out (by omega) (by omega) HZ1.out HZ2.out).mono ?_
      case wz1 => exact ⟨cs, setRow_heap _ _ _ cs _ _ (Blk.new _ _ _), HSZ.out, HCS.out⟩
      case wx1 => exact Wd.keep ((HX.out.drewN _).alloc _) (setRow_other _ _ _ _ (by omega))
      rintro ee w5 ⟨rfl, m2, d3, hg5, hW5, hR5, hn5⟩
      obtain ⟨cx, hbx5, hsx5, hcx5⟩ : Wd w5 bx lx nx dx := (Wd.keep ((HX.out.drewN _).alloc _) (setRow_other _ _ _ _ (by omega))).grown hg5 (by simp; omega)
      obtain ⟨c5, hblk5, hsz5, hcs5⟩ := hW5
      have hone5 := Wd.ones ⟨hblk5, hsz5, hcs5⟩
      have hi5 : (Tryz.prog.info? 221).map (·.size) = some c5.size := by rw [hsz5]; exact wide_info
      have hss : cx.size = c5.size := by rw [hsx5, hsz5]
      have K1 := hide hblk5
      have K2 := hide hsz5
      have K3 := hide hcs5
      have K4 := hide hone5
      have K5 := hide hi5
      have K6 := hide hbx5
      have K7 := hide hss
      have H5 := hide hn5
      have H7 := hide hg5
      have H9 := hide hR5
      clear hblk5 hsz5 hcs5 hone5 hi5 hbx5 hsx5 hcx5 hss hn5 hg5 hR5
      go_wp2_with (first
        | (refine wpList_load_row rfl 221 (.tmp 4) rfl w.heap.size rfl 221 c5 (0, 0) _ K1.out Tryz.underlying221 rfl K5.out ?_)
        | (refine wpList_store_row rfl 221 (.tmp 31) (.tmp 30) rfl bx c5 rfl rfl 221 cx K6.out K5.out K7.out K4.out ?_))
      go_end0
      refine ⟨rfl, only_setRow (only_new (only_setRow (only_alloc (only_drewN (only_refl _ _) _) _) (.inr (Nat.le_refl _)) _) H7.out (Nat.le_refl _)) (.inl rfl) _, lz, m2, d3, ⟨c5, setRow_heap _ _ _ _ _ _ K6.out, K2.out, K3.out⟩, H9.out, ?_⟩
      have hs := HS.out
      rw [H5.out]; unfold sval; cases lx <;> cases lz <;> simp at hs ⊢ <;> omega
    · have hc1 : (0 : Int) ≤ c := by omega
      have hge : num dz nz ≤ num dx nx := by rcases HCC.out with ⟨h, _⟩ | ⟨_, h⟩ | ⟨_, h⟩ <;> omega
      have hz1 : (num dx nx : Int) + -1 * num dz nz = ((num dx nx - num dz nz : Nat) : Int) := by omega
      have hz2 : num dx nx - num dz nz < W9 ^ 232 := by have := HF.out; omega
      have HZ1 := hide hz1
      have HZ2 := hide hz2
      clear hz1 hz2
      go_wp2_with fail
      refine (carry_zero _ _ _ _ _ _ _ _ _ (-1) (num dx nx - num dz nz) (HX.out.drewN _) (HZ.out.drewN _) hne HRX.out HRZ.out (by omega) (by omega) HZ1.out HZ2.out).mono ?_
      rintro ee w5 ⟨rfl, m2, d3, hg5, hW5, hR5, hn5⟩
      have H5 := hide hn5
      have H7 := hide hg5
      have H8 := hide hW5
      have H9 := hide hR5
      clear hn5 hg5 hW5 hR5
      go_wp2_with fail
      refine bodyPost_ret (results_none rfl _ _ _) rfl ?_
      refine ⟨rfl, only_trans (only_drewN (only_refl _ _) _) H7.out, lx, m2, d3, H8.out, H9.out, ?_⟩
      have hs := HS.out
      rw [H5.out]; unfold sval; cases lx <;> cases lz <;> simp at hs ⊢ <;> omega
end Go.Proofs.YthmmgjieppknkaaGreatDoor
