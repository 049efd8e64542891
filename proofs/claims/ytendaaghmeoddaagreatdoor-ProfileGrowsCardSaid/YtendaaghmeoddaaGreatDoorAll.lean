/- vector: which points are right; lists of points; all. -/
import Derived.Test.YtendaaghmeoddaaGreatDoorPts
namespace Go.Proofs.YtendaaghmeoddaaGreatDoor
open Go.RowKit MLab

set_option maxRecDepth 100000 in
theorem within_any (w : World) (x : Int) :
    Calls Tryz.prog 123 #[.int .i64 x] w fun e w' => e = .returned (.bool (decide (Co x))) ∧ w = w' := by
  go_enter Tryz.func123, Tryz.ntmps123
  by_cases h1 : -100000 ≤ x
  · by_cases h2 : x ≤ 100000
    · rw [decide_eq_true (show Co x from ⟨h1, h2⟩)]
      go_wp2_with fail
      go_ret
      exact ⟨rfl, rfl⟩
    · rw [decide_eq_false (show ¬ Co x from fun h => h2 h.2)]
      go_wp2_with fail
      go_ret
      exact ⟨rfl, rfl⟩
  · rw [decide_eq_false (show ¬ Co x from fun h => h1 h.1)]
    go_wp2_with fail
    go_ret
    exact ⟨rfl, rfl⟩

set_option maxRecDepth 100000 in
theorem rin_any (w : World) (x : Int) :
    Calls Tryz.prog 66 #[.int .i64 x] w fun e w' => e = .returned (.bool (decide (Co x))) ∧ w = w' := by
  go_enter Tryz.func66, Tryz.ntmps66
  by_cases h1 : -100000 ≤ x
  · by_cases h2 : x ≤ 100000
    · rw [decide_eq_true (show Co x from ⟨h1, h2⟩)]
      go_wp2_with fail
      go_ret
      exact ⟨rfl, rfl⟩
    · rw [decide_eq_false (show ¬ Co x from fun h => h2 h.2)]
      go_wp2_with fail
      go_ret
      exact ⟨rfl, rfl⟩
  · rw [decide_eq_false (show ¬ Co x from fun h => h1 h.1)]
    go_wp2_with fail
    go_ret
    exact ⟨rfl, rfl⟩

set_option maxRecDepth 100000 in
theorem flat_any (w : World) (x y : Int) :
    Calls Tryz.prog 92 #[.agg #[.int .i64 x, .int .i64 y]] w fun e w' => e = .returned (.bool (decide (Co x ∧ Co y))) ∧ Below w.heap.size w w' := by
  have hb0 := allocs_below w [.cells #[.int .i64 x, .int .i64 y] 24]
  by_cases h0 : Co x
  · have d0 := decide_eq_true h0
    by_cases h1 : Co y
    · have d1 := decide_eq_true h1
      rw [decide_eq_true (show Co x ∧ Co y from ⟨h0, h1⟩)]
      go_enter Tryz.func92, Tryz.ntmps92
      go_wp2_with fail
      refine (within_any _ x).mono ?_
      rintro e w1 ⟨rfl, rfl⟩
      go_wp2_with fail
      refine (within_any _ y).mono ?_
      rintro e w1 ⟨rfl, rfl⟩
      go_wp2_with fail
      go_ret
      exact ⟨rfl, hb0⟩
    · have d1 := decide_eq_false h1
      rw [decide_eq_false (show ¬ (Co x ∧ Co y) from fun h => h1 h.2)]
      go_enter Tryz.func92, Tryz.ntmps92
      go_wp2_with fail
      refine (within_any _ x).mono ?_
      rintro e w1 ⟨rfl, rfl⟩
      go_wp2_with fail
      refine (within_any _ y).mono ?_
      rintro e w1 ⟨rfl, rfl⟩
      go_wp2_with fail
      go_ret
      exact ⟨rfl, hb0⟩
  · have d0 := decide_eq_false h0
    rw [decide_eq_false (show ¬ (Co x ∧ Co y) from fun h => h0 h.1)]
    go_enter Tryz.func92, Tryz.ntmps92
    go_wp2_with fail
    refine (within_any _ x).mono ?_
    rintro e w1 ⟨rfl, rfl⟩
    go_wp2_with fail
    go_ret
    exact ⟨rfl, hb0⟩

set_option maxRecDepth 100000 in
theorem rright_any (w : World) (x y : Int) :
    Calls Tryz.prog 32 #[.agg #[.int .i64 x, .int .i64 y]] w fun e w' => e = .returned (.bool (decide (Co x ∧ Co y))) ∧ Below w.heap.size w w' := by
  have hb0 := allocs_below w [.cells #[.int .i64 x, .int .i64 y] 24]
  by_cases h0 : Co x
  · have d0 := decide_eq_true h0
    by_cases h1 : Co y
    · have d1 := decide_eq_true h1
      rw [decide_eq_true (show Co x ∧ Co y from ⟨h0, h1⟩)]
      go_enter Tryz.func32, Tryz.ntmps32
      go_wp2_with fail
      refine (rin_any _ x).mono ?_
      rintro e w1 ⟨rfl, rfl⟩
      go_wp2_with fail
      refine (rin_any _ y).mono ?_
      rintro e w1 ⟨rfl, rfl⟩
      go_wp2_with fail
      go_ret
      exact ⟨rfl, hb0⟩
    · have d1 := decide_eq_false h1
      rw [decide_eq_false (show ¬ (Co x ∧ Co y) from fun h => h1 h.2)]
      go_enter Tryz.func32, Tryz.ntmps32
      go_wp2_with fail
      refine (rin_any _ x).mono ?_
      rintro e w1 ⟨rfl, rfl⟩
      go_wp2_with fail
      refine (rin_any _ y).mono ?_
      rintro e w1 ⟨rfl, rfl⟩
      go_wp2_with fail
      go_ret
      exact ⟨rfl, hb0⟩
  · have d0 := decide_eq_false h0
    rw [decide_eq_false (show ¬ (Co x ∧ Co y) from fun h => h0 h.1)]
    go_enter Tryz.func32, Tryz.ntmps32
    go_wp2_with fail
    refine (rin_any _ x).mono ?_
    rintro e w1 ⟨rfl, rfl⟩
    go_wp2_with fail
    go_ret
    exact ⟨rfl, hb0⟩

/-- The slice value v reads as these points. -/
def Pts (w : World) (v : Value) (L : List (Int × Int)) : Prop :=
  ∃ (A : Option Addr) (c : Nat), v = .slice A L.length c ∧ (0 < L.length → ∃ b off, A = some ⟨b, off, none⟩ ∧ ∀ i p, L[i]? = some p → w.cell? ⟨b, off + i * 2, none⟩ = some (.int .i64 p.1) ∧ w.cell? ⟨b, off + i * 2 + 1, none⟩ = some (.int .i64 p.2))
def okPts (p : Int × Int) : Bool := decide (Co p.1 ∧ Co p.2)
def chkPts (L : List (Int × Int)) : Int := if L.all okPts then 0 else 2
theorem Pts.below {w w' : World} {v : Value} {L : List (Int × Int)} (h : Pts w v L) (hb : Below w.heap.size w w') : Pts w' v L := by
  obtain ⟨A, c, hv, hc⟩ := h
  refine ⟨A, c, hv, fun h0 => ?_⟩
  obtain ⟨b, off, hA, hcell⟩ := hc h0
  refine ⟨b, off, hA, fun i l hi => ?_⟩
  obtain ⟨h0, h1⟩ := hcell i l hi
  exact ⟨(hb.cell (p := ⟨b, off + i * 2, none⟩) (block_lt_of_cell h0)).trans h0, (hb.cell (p := ⟨b, off + i * 2 + 1, none⟩) (block_lt_of_cell h1)).trans h1⟩
theorem Pts.new (w : World) (L : List (Int × Int)) (t : TypeId) (cs : Array Value) (h : ∀ i p, L[i]? = some p → cs[i * 2]? = some (.int .i64 p.1) ∧ cs[i * 2 + 1]? = some (.int .i64 p.2)) (c : Nat) :
    Pts (w.alloc (.cells cs t)) (.slice (some ⟨w.heap.size, 0, none⟩) L.length c) L := by
  refine ⟨_, c, rfl, fun _ => ⟨w.heap.size, 0, rfl, fun i p hi => ?_⟩⟩
  have hb := Blk.new w t cs
  simp only [Nat.zero_add, hb.cell]
  exact h i p hi


/-- The slice value v reads as these points. -/
def Sps (w : World) (v : Value) (L : List (Int × Int × Int)) : Prop :=
  ∃ (A : Option Addr) (c : Nat), v = .slice A L.length c ∧ (0 < L.length → ∃ b off, A = some ⟨b, off, none⟩ ∧ ∀ i p, L[i]? = some p → w.cell? ⟨b, off + i * 3, none⟩ = some (.int .i64 p.1) ∧ w.cell? ⟨b, off + i * 3 + 1, none⟩ = some (.int .i64 p.2.1) ∧ w.cell? ⟨b, off + i * 3 + 2, none⟩ = some (.int .i64 p.2.2))
def okSps (p : Int × Int × Int) : Bool := decide (Co p.1 ∧ Co p.2.1 ∧ Co p.2.2)
def chkSps (L : List (Int × Int × Int)) : Int := if L.all okSps then 0 else 2
theorem Sps.below {w w' : World} {v : Value} {L : List (Int × Int × Int)} (h : Sps w v L) (hb : Below w.heap.size w w') : Sps w' v L := by
  obtain ⟨A, c, hv, hc⟩ := h
  refine ⟨A, c, hv, fun h0 => ?_⟩
  obtain ⟨b, off, hA, hcell⟩ := hc h0
  refine ⟨b, off, hA, fun i l hi => ?_⟩
  obtain ⟨h0, h1, h2⟩ := hcell i l hi
  exact ⟨(hb.cell (p := ⟨b, off + i * 3, none⟩) (block_lt_of_cell h0)).trans h0, (hb.cell (p := ⟨b, off + i * 3 + 1, none⟩) (block_lt_of_cell h1)).trans h1, (hb.cell (p := ⟨b, off + i * 3 + 2, none⟩) (block_lt_of_cell h2)).trans h2⟩
theorem Sps.new (w : World) (L : List (Int × Int × Int)) (t : TypeId) (cs : Array Value) (h : ∀ i p, L[i]? = some p → cs[i * 3]? = some (.int .i64 p.1) ∧ cs[i * 3 + 1]? = some (.int .i64 p.2.1) ∧ cs[i * 3 + 2]? = some (.int .i64 p.2.2)) (c : Nat) :
    Sps (w.alloc (.cells cs t)) (.slice (some ⟨w.heap.size, 0, none⟩) L.length c) L := by
  refine ⟨_, c, rfl, fun _ => ⟨w.heap.size, 0, rfl, fun i p hi => ?_⟩⟩
  have hb := Blk.new w t cs
  simp only [Nat.zero_add, hb.cell]
  exact h i p hi


set_option maxRecDepth 100000 in
set_option maxHeartbeats 1000000 in
theorem allp_any (w : World) (v : Value) (L : List (Int × Int)) (hv : Pts w v L) (hL : L.length ≤ 1000000000000) :
    Calls Tryz.prog 122 #[.func (.func 92) #[] #[], v] w fun e w' => e = .returned (.int .i64 (chkPts L)) ∧ Below w.heap.size w w' := by
  obtain ⟨A, c, rfl, hc⟩ := id hv
  have HC := hide hc
  clear hv hc
  go_enter Tryz.func122, Tryz.ntmps122
  go_wp2_with fail
  go_loopg [9] L.length (fun k i wr => ∃ j : Nat, i = .int .i64 (j : Int) ∧ k + j = L.length ∧ (L.take j).all okPts = true ∧ Below w.heap.size w wr)
  case atStart => exact ⟨0, rfl, rfl, rfl, Below.refl _ _⟩
  case round =>
    obtain ⟨j, rfl, hk, hok, hb⟩ := hrel
    have hj : j ≤ L.length := by omega
    have HK := hide hk
    have HOK := hide hok
    have HB := hide hb
    clear hk hok hb
    by_cases hlt : j < L.length
    · have hji : (j : Int) < (L.length : Int) := by omega
      obtain ⟨b, off, hA, hcell⟩ := HC.out (by omega)
      obtain ⟨h0, h1⟩ := hcell j _ (List.getElem?_eq_getElem hlt)
      have hc0 : wr.cell? ⟨b, off + j * 2, none⟩ = some (.int .i64 L[j].1) := (HB.out.cell (p := ⟨b, off + j * 2, none⟩) (block_lt_of_cell h0)).trans h0
      have hc1 : wr.cell? ⟨b, off + j * 2 + 1, none⟩ = some (.int .i64 L[j].2) := (HB.out.cell (p := ⟨b, off + j * 2 + 1, none⟩) (block_lt_of_cell h1)).trans h1
      clear hcell h0 h1 HC
      subst hA
      by_cases hz : okPts L[j] = true
      · have HZ := hide hz
        go_wp2_with fail
        refine (flat_any _ L[j].1 L[j].2).mono ?_
        rintro e w2 ⟨rfl, hb2⟩
        have HB2 := hide hb2
        clear hb2
        rw [okPts] at hz
        rw [hz]
        clear hz
        go_wp2_with fail
        go_roundg (gk - 1)
        case measure => have := HK.out; omega
        case rel =>
          refine ⟨j + 1, by go_num, by have := HK.out; omega, ?_, HB.out.trans (Below.mono ((allocs_below wr [_]).trans (HB2.out.mono (by simp))) HB.out.size)⟩
          rw [List.take_succ_eq_append_getElem hlt, List.all_append, HOK.out]; simpa using HZ.out
      · have HZ := hide hz
        rw [Bool.not_eq_true, okPts] at hz
        go_wp2_with fail
        refine (flat_any _ L[j].1 L[j].2).mono ?_
        rintro e w2 ⟨rfl, hb2⟩
        have HB2 := hide hb2
        clear hb2
        rw [hz]
        clear hz
        go_wp2_with fail
        go_ret
        refine ⟨?_, HB.out.trans (Below.mono ((allocs_below wr [_]).trans (HB2.out.mono (by simp))) HB.out.size)⟩
        rw [chkPts, if_neg (fun h => HZ.out (List.all_eq_true.1 h _ (List.getElem_mem hlt)))]; rfl
    · have hji : ¬ (j : Int) < (L.length : Int) := by omega
      go_wp2_with fail
      go_ret
      refine ⟨?_, HB.out⟩
      have h := HOK.out
      rw [List.take_of_length_le (by omega)] at h
      rw [chkPts, if_pos h]; rfl


end Go.Proofs.YtendaaghmeoddaaGreatDoor
