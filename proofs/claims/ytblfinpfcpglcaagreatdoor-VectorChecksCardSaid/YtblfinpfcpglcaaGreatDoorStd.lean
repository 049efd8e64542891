/- What every world of a call knows of the library's tables; whole.Of. -/
import Derived.Test.YtblfinpfcpglcaaGreatDoorBuilder
import Derived.Test.YtblfinpfcpglcaaGreatDoorBeyond
import Derived.WalkSmall
import Derived.Lib.AtoiErrMem
namespace Go.Proofs.YtblfinpfcpglcaaGreatDoor
open Go.RowKit MLab

/-- The library's tables read as its text lays them. -/
structure Std (w : World) : Prop where
  tab : Lib.TabIs Tryz.prog w "internal/strconv.uint64pow10" .u64 Lib.pow10Tab
  shp : w.ShapedOpen Tryz.prog

theorem tab_named : Tryz.prog.globalNamed "internal/strconv.uint64pow10" = some 1 := by kernel_rfl

theorem Std.tab_lt {w : World} (h : Std w) : 1 < w.heap.size := by
  have := h.tab
  unfold Lib.TabIs World.var? at this
  rw [tab_named] at this
  simp only [Option.bind_some] at this
  rcases Nat.lt_or_ge 1 w.heap.size with h' | h'
  · exact h'
  · rw [Array.getElem?_eq_none h'] at this; simp at this

theorem Std.below {w w' : World} {B : Nat} (h : Std w) (hb : Below B w w') (hB : w.heap.size ≤ B) : Std w' :=
  ⟨Go.var?_below (hb.mono (B' := w.heap.size) hB) tab_named h.tab_lt h.tab, h.shp.keptBut ((hb.mono (B' := w.heap.size) hB).frame (fun _ => False)) (fun _ hf => hf.elim)⟩

theorem Std.drew {w : World} (h : Std w) : Std w.drew := h.below (Below.refl _ _).drew (Nat.le_refl _)
theorem Std.drewN {w : World} (h : Std w) (n : Nat) : Std (w.drewN n) := h.below (below_drewN (Below.refl _ _) n) (Nat.le_refl _)

theorem owns_below {w w' : World} {base : Nat} {e : TypeId} {size n : Nat} {v : Value} {xs : List Value} (h : w.ownsRow base e size v n xs) (hb : Below w.heap.size w w') : w'.ownsRow base e size v n xs := by
  obtain ⟨h1, h2⟩ := h
  refine ⟨h1, ?_⟩
  rcases h2 with h2 | ⟨g, cap, cur, hv, hg, hh, r⟩
  · exact .inl h2
  · refine .inr ⟨g, cap, cur, hv, hg, ?_, r⟩
    rw [hb.block g (Blk.lt hh)]; exact hh
theorem Bld.below {w w' : World} {B b : Nat} {l : List UInt8} (h : Bld B b l w) (hb : Below w.heap.size w w') : Bld B b l w' := by
  have key : ∀ p, Lib.BuilderAt 189 5 B b p (Lib.byteCells l) w → Lib.BuilderAt 189 5 B b p (Lib.byteCells l) w' := by
    rintro p ⟨h1, v, hv, ho, hn⟩
    exact ⟨h1, v, by rw [hb.block b (Blk.lt hv)]; exact hv, owns_below ho hb, hn⟩
  exact h.imp (key _) (key _)

theorem Bld.drew {w : World} {B b : Nat} {l : List UInt8} (h : Bld B b l w) : Bld B b l w.drew := h.below (Below.refl _ _).drew

theorem grow_below {w : World} (k : Nat) (os : Array Obj) : Below w.heap.size w («Sort».grow (w.drewN k) os) :=
  ⟨rfl, rfl, rfl, by show w.heap.size ≤ (w.heap ++ os).size; simp, fun i hi => by show (w.heap ++ os)[i]? = _; rw [Array.getElem?_append_left hi]⟩

theorem atoi_any (s : ByteArray) (l : List UInt8) (hl : s.data.toList = l) (n : Int) (hlen : l.length ≤ 18) (h : Lib.atoi l = some n) (w : World) :
    Calls Tryz.prog 142 #[.string s] w fun e w' => e = .returned (.tuple #[.int .i64 n, .nilIface]) ∧ Below w.heap.size w w' :=
  (Tryz.strconv_Atoi s n (by rw [Lib.size_eq, hl]; exact hlen) (by rw [hl]; exact h) w).mono fun e w' ⟨he, t, hw⟩ => ⟨he, by subst hw; exact Lib.bytesWorld_below _ _ t⟩

set_option maxRecDepth 100000 in
set_option maxHeartbeats 400000 in
theorem itoa_any (n : Int) (h0 : -9223372036854775808 ≤ n) (h1 : n ≤ 9223372036854775807) (w : World) (hs : Std w) :
    Calls Tryz.prog 109 #[.int .i64 n] w fun e w' => e = .returned (.string ⟨(T n).toArray⟩) ∧ Below w.heap.size w w' :=
  (Tryz.strconv_Itoa n h0 h1 w hs.tab).mono fun e w' ⟨he, k, os, hw⟩ => ⟨he, by subst hw; exact grow_below k os⟩

set_option maxRecDepth 100000 in
theorem of_any (n : Int) (h0 : -9223372036854775808 ≤ n) (h1 : n ≤ 9223372036854775807) (w : World) (hs : Std w) :
    Calls Tryz.prog 59 #[.int .i64 n] w fun e w' => e = .returned (.string ⟨(T n).toArray⟩) ∧ Below w.heap.size w w' := by
  go_enter Tryz.func59, Tryz.ntmps59
  go_wp2_with fail
  refine (itoa_any n h0 h1 w hs).mono ?_
  rintro e w1 ⟨rfl, hb⟩
  go_wp2_with fail
  go_ret
  exact ⟨rfl, hb⟩

end Go.Proofs.YtblfinpfcpglcaaGreatDoor
