/- Which points are near; near, ContainsFunc and IndexFunc of the law. -/
import Derived.Test.YtblfinpfcpglcaaGreatDoorAwake
namespace Go.Proofs.YtblfinpfcpglcaaGreatDoor
open Go.RowKit MLab

/-- A point with small coordinates. -/
abbrev Sm (x y : Int) : Prop := -9000 ≤ x ∧ x ≤ 9000 ∧ -9000 ≤ y ∧ y ≤ 9000
def smP (p : Int × Int) : Bool := decide (Sm p.1 p.2)
def smS (p : Int × Int × Int) : Bool := decide (Sm p.1 p.2.1 ∧ Sm p.2.2 0)
/-- An index, or a negative number; whether it is an index. -/
def IdxR (b : Bool) (e : Ending) : Prop := ∃ n : Int, e = .returned (.int .i64 n) ∧ decide (0 ≤ n) = b
theorem bel_alloc {B : Nat} {w0 w : World} {R : Prop} (h : Below B w0 w ∧ R) (hB : B ≤ w0.heap.size) (o : Obj) : Below B w0 (w.alloc o) := h.1.alloc (Nat.le_trans hB h.1.size) o

set_option maxRecDepth 100000 in
theorem near1_any (w : World) (x y : Int) :
    Calls Tryz.prog 80 #[ptv x y] w fun e w' => e = .returned (.bool (!decide (Sm x y))) ∧ Below w.heap.size w w' := by
  have hb0 := allocs_below w [(.cells #[.int .i64 x, .int .i64 y] 23)]
  by_cases h1 : x < -9000
  · rw [decide_eq_false (show ¬ Sm x y from fun h => by omega)]
    go_enter Tryz.func80, Tryz.ntmps80
    go_wp2_with fail
    go_ret
    exact ⟨rfl, hb0⟩
  · have g1 : ¬ x < -9000 := h1
    by_cases h2 : 9000 < x
    · rw [decide_eq_false (show ¬ Sm x y from fun h => by omega)]
      go_enter Tryz.func80, Tryz.ntmps80
      go_wp2_with fail
      go_ret
      exact ⟨rfl, hb0⟩
    · by_cases h3 : y < -9000
      · rw [decide_eq_false (show ¬ Sm x y from fun h => by omega)]
        go_enter Tryz.func80, Tryz.ntmps80
        go_wp2_with fail
        go_ret
        exact ⟨rfl, hb0⟩
      · by_cases h4 : 9000 < y
        · rw [decide_eq_false (show ¬ Sm x y from fun h => by omega)]
          go_enter Tryz.func80, Tryz.ntmps80
          go_wp2_with fail
          go_ret
          exact ⟨rfl, hb0⟩
        · rw [decide_eq_true (show Sm x y from by omega)]
          go_enter Tryz.func80, Tryz.ntmps80
          go_wp2_with fail
          go_ret
          exact ⟨rfl, hb0⟩


set_option maxRecDepth 100000 in
set_option maxHeartbeats 1000000 in
theorem indexp_any (w : World) (v : Value) (L : List (Int × Int)) (hv : Pts w v L) (hL : L.length ≤ 1000000000000) :
    Calls Tryz.prog 98 #[v, .func (.func 80) #[] #[]] w fun e w' => IdxR (!L.all smP) e ∧ Below w.heap.size w w' := by
  obtain ⟨A, c, rfl, hc⟩ := id hv
  have HC := hide hc
  clear hv hc
  go_enter Tryz.func98, Tryz.ntmps98
  go_wp2_with fail
  go_loopg [8] L.length (fun k i wr => ∃ j : Nat, i = .int .i64 (j : Int) ∧ k + j = L.length ∧ (L.take j).all smP = true ∧ Below w.heap.size w wr)
  case atStart => exact ⟨0, rfl, rfl, rfl, Below.refl _ _⟩
  case round =>
    obtain ⟨j, rfl, hk, hok, hb⟩ := hrel
    have hj : j ≤ L.length := by omega
    have HK := hide hk
    have HOK := hide hok
    have HB := hide hb
    clear hk hok hb
    by_cases hlt : j < L.length
    · have hji : (j : Int) < (L.length : Int) := by omega
      obtain ⟨b, off, hA, hcell⟩ := HC.out (by omega)
      obtain ⟨h0, h1⟩ := hcell j _ (List.getElem?_eq_getElem hlt)
      have hc0 : wr.cell? ⟨b, off + j * 2, none⟩ = some (.int .i64 L[j].1) := (HB.out.cell (p := ⟨b, off + j * 2, none⟩) (block_lt_of_cell h0)).trans h0
      have hc1 : wr.cell? ⟨b, off + j * 2 + 1, none⟩ = some (.int .i64 L[j].2) := (HB.out.cell (p := ⟨b, off + j * 2 + 1, none⟩) (block_lt_of_cell h1)).trans h1
      clear hcell h0 h1 HC
      subst hA
      by_cases hz : smP L[j] = true
      · have HZ := hide hz
        go_wp2_with fail
        refine (near1_any _ L[j].1 L[j].2).mono ?_
        rintro e w2 ⟨rfl, hb2⟩
        have HB2 := hide hb2
        clear hb2
        rw [smP] at hz
        rw [hz]
        clear hz
        go_wp2_with fail
        go_roundg (gk - 1)
        case measure => have := HK.out; omega
        case rel =>
          refine ⟨j + 1, by go_num, by have := HK.out; omega, ?_, HB.out.trans (HB2.out.mono HB.out.size)⟩
          rw [List.take_succ_eq_append_getElem hlt, List.all_append, HOK.out]; simpa using HZ.out
      · have HZ := hide hz
        rw [Bool.not_eq_true, smP] at hz
        go_wp2_with fail
        refine (near1_any _ L[j].1 L[j].2).mono ?_
        rintro e w2 ⟨rfl, hb2⟩
        have HB2 := hide hb2
        clear hb2
        rw [hz]
        clear hz
        go_wp2_with fail
        go_ret
        refine ⟨⟨(j : Int), rfl, ?_⟩, HB.out.trans (HB2.out.mono HB.out.size)⟩
        have hn : L.all smP = false := by
          rw [← Bool.not_eq_true]
          exact fun h => HZ.out (List.all_eq_true.1 h _ (List.getElem_mem hlt))
        rw [hn]
        exact decide_eq_true (by omega)
    · have hji : ¬ (j : Int) < (L.length : Int) := by omega
      go_wp2_with fail
      go_ret
      have h := HOK.out
      rw [List.take_of_length_le (by omega)] at h
      rw [h]
      exact ⟨⟨-1, rfl, rfl⟩, HB.out⟩


set_option maxRecDepth 100000 in
theorem containsp_any (w : World) (v : Value) (L : List (Int × Int)) (hv : Pts w v L) (hL : L.length ≤ 1000000000000) :
    Calls Tryz.prog 79 #[v, .func (.func 80) #[] #[]] w fun e w' => e = .returned (.bool (!L.all smP)) ∧ Below w.heap.size w w' := by
  go_enter Tryz.func79, Tryz.ntmps79
  go_wp2_with fail
  refine (indexp_any _ _ L hv hL).mono ?_
  rintro e w1 ⟨⟨n, rfl, hn⟩, hb1⟩
  cases hl : L.all smP
  · rw [hl] at hn
    have hn2 : 0 ≤ n := of_decide_eq_true hn
    clear hn
    go_wp2_with fail
    go_ret
    exact ⟨by rw [hl]; rfl, hb1⟩
  · rw [hl] at hn
    have hn2 : decide (0 ≤ n) = false := hn
    clear hn
    go_wp2_with fail
    go_ret
    exact ⟨by rw [hl]; rfl, hb1⟩


set_option maxRecDepth 100000 in
theorem near_any (w : World) (v : Value) (L : List (Int × Int)) (hv : Pts w v L) (hL : L.length ≤ 1000000000000) :
    Calls Tryz.prog 27 #[v] w fun e w' => e = .returned (.bool (L.all smP)) ∧ Below w.heap.size w w' := by
  go_enter Tryz.func27, Tryz.ntmps27
  go_wp2_with fail
  refine (containsp_any _ _ L hv hL).mono ?_
  rintro e w1 ⟨rfl, hb1⟩
  cases hl : L.all smP
  · go_wp2_with fail
    go_ret
    exact ⟨by rw [hl]; rfl, hb1⟩
  · go_wp2_with fail
    go_ret
    exact ⟨by rw [hl]; rfl, hb1⟩

set_option maxRecDepth 100000 in
set_option maxHeartbeats 1000000 in
theorem near4_any (w : World) (x y z : Int) :
    Calls Tryz.prog 26 #[spv x y z] w fun e w' => e = .returned (.bool (!decide (Sm x y ∧ Sm z 0))) ∧ Below w.heap.size w w' := by
  have hall : [(x, y), (z, 0)].all smP = decide (Sm x y ∧ Sm z 0) := by simp [smP]
  generalize decide (Sm x y ∧ Sm z 0) = ok at *
  cases ok
  · go_enter Tryz.func26, Tryz.ntmps26
    go_upto_region 1 with (fail)
    have hb0 : Below w.heap.size w (w.alloc (.cells #[.int .i64 x, .int .i64 y, .int .i64 z] 33)) := allocs_below w [(.cells #[.int .i64 x, .int .i64 y, .int .i64 z] 33)]
    have s0 : w.heap.size + 1 ≤ (w.alloc (.cells #[.int .i64 x, .int .i64 y, .int .i64 z] 33)).heap.size := Nat.le_of_eq (allocs_size w [(.cells #[.int .i64 x, .int .i64 y, .int .i64 z] 33)]).symm
    have kb0 : (w.alloc (.cells #[.int .i64 x, .int .i64 y, .int .i64 z] 33)).heap[w.heap.size + 0]? = some (.cells #[.int .i64 x, .int .i64 y, .int .i64 z] 33) := allocs_at w [(.cells #[.int .i64 x, .int .i64 y, .int .i64 z] 33)] 0 rfl
    generalize (w.alloc (.cells #[.int .i64 x, .int .i64 y, .int .i64 z] 33)) = w0 at *
    have k0_0 : w0.cell? ⟨w.heap.size, 0, none⟩ = some (.int .i64 x) := (Blk.cell kb0 0).trans rfl
    have k0_1 : w0.cell? ⟨w.heap.size, 1, none⟩ = some (.int .i64 y) := (Blk.cell kb0 1).trans rfl
    have k0_2 : w0.cell? ⟨w.heap.size, 2, none⟩ = some (.int .i64 z) := (Blk.cell kb0 2).trans rfl
    clear kb0
    have SK : ∀ w', Below w0.heap.size w0 w' → Below w0.heap.size w0 w' ∧ w'.cell? ⟨w.heap.size, 0, none⟩ = some (.int .i64 x) ∧ w'.cell? ⟨w.heap.size, 1, none⟩ = some (.int .i64 y) ∧ w'.cell? ⟨w.heap.size, 2, none⟩ = some (.int .i64 z) := fun w' h => ⟨h, (bcell h _ _ (by omega)).trans k0_0, (bcell h _ _ (by omega)).trans k0_1, (bcell h _ _ (by omega)).trans k0_2⟩
    go_region_held3 (fun w' => Below w0.heap.size w0 w' ∧ w'.cell? ⟨w.heap.size, 0, none⟩ = some (.int .i64 x) ∧ w'.cell? ⟨w.heap.size, 1, none⟩ = some (.int .i64 y) ∧ w'.cell? ⟨w.heap.size, 2, none⟩ = some (.int .i64 z)) (first | exact SK _ (Below.refl _ _).drew | exact SK _ (bel_next (by assumption) (by assumption) (Nat.le_refl _)) | exact SK _ (bel_alloc (by assumption) (Nat.le_refl _) _))
      (first
        | (go_at_call_of 28 (.int .i64 x : Value); refine (at_any _ x y).mono ?_; rintro e w1 ⟨rfl, hb1⟩)
        | (go_at_call_of 28 (.int .i64 z : Value); refine (at_any _ z 0).mono ?_; rintro e w1 ⟨rfl, hb1⟩)
        | (go_at_call 27; refine (near_any _ _ [(x, y), (z, 0)] (Pts2 _ (x, y) (z, 0) _ _) (by simp)).mono ?_; rw [hall]; rintro e w1 ⟨rfl, hbN⟩; have hb1 := (allocs_below _ [_]).trans (hbN.mono (by simp))))
    go_wp2_with fail
    go_ret
    exact ⟨rfl, hb0.trans (Below.mono (And.left (by assumption)) hb0.size)⟩
  · go_enter Tryz.func26, Tryz.ntmps26
    go_upto_region 1 with (fail)
    have hb0 : Below w.heap.size w (w.alloc (.cells #[.int .i64 x, .int .i64 y, .int .i64 z] 33)) := allocs_below w [(.cells #[.int .i64 x, .int .i64 y, .int .i64 z] 33)]
    have s0 : w.heap.size + 1 ≤ (w.alloc (.cells #[.int .i64 x, .int .i64 y, .int .i64 z] 33)).heap.size := Nat.le_of_eq (allocs_size w [(.cells #[.int .i64 x, .int .i64 y, .int .i64 z] 33)]).symm
    have kb0 : (w.alloc (.cells #[.int .i64 x, .int .i64 y, .int .i64 z] 33)).heap[w.heap.size + 0]? = some (.cells #[.int .i64 x, .int .i64 y, .int .i64 z] 33) := allocs_at w [(.cells #[.int .i64 x, .int .i64 y, .int .i64 z] 33)] 0 rfl
    generalize (w.alloc (.cells #[.int .i64 x, .int .i64 y, .int .i64 z] 33)) = w0 at *
    have k0_0 : w0.cell? ⟨w.heap.size, 0, none⟩ = some (.int .i64 x) := (Blk.cell kb0 0).trans rfl
    have k0_1 : w0.cell? ⟨w.heap.size, 1, none⟩ = some (.int .i64 y) := (Blk.cell kb0 1).trans rfl
    have k0_2 : w0.cell? ⟨w.heap.size, 2, none⟩ = some (.int .i64 z) := (Blk.cell kb0 2).trans rfl
    clear kb0
    have SK : ∀ w', Below w0.heap.size w0 w' → Below w0.heap.size w0 w' ∧ w'.cell? ⟨w.heap.size, 0, none⟩ = some (.int .i64 x) ∧ w'.cell? ⟨w.heap.size, 1, none⟩ = some (.int .i64 y) ∧ w'.cell? ⟨w.heap.size, 2, none⟩ = some (.int .i64 z) := fun w' h => ⟨h, (bcell h _ _ (by omega)).trans k0_0, (bcell h _ _ (by omega)).trans k0_1, (bcell h _ _ (by omega)).trans k0_2⟩
    go_region_held3 (fun w' => Below w0.heap.size w0 w' ∧ w'.cell? ⟨w.heap.size, 0, none⟩ = some (.int .i64 x) ∧ w'.cell? ⟨w.heap.size, 1, none⟩ = some (.int .i64 y) ∧ w'.cell? ⟨w.heap.size, 2, none⟩ = some (.int .i64 z)) (first | exact SK _ (Below.refl _ _).drew | exact SK _ (bel_next (by assumption) (by assumption) (Nat.le_refl _)) | exact SK _ (bel_alloc (by assumption) (Nat.le_refl _) _))
      (first
        | (go_at_call_of 28 (.int .i64 x : Value); refine (at_any _ x y).mono ?_; rintro e w1 ⟨rfl, hb1⟩)
        | (go_at_call_of 28 (.int .i64 z : Value); refine (at_any _ z 0).mono ?_; rintro e w1 ⟨rfl, hb1⟩)
        | (go_at_call 27; refine (near_any _ _ [(x, y), (z, 0)] (Pts2 _ (x, y) (z, 0) _ _) (by simp)).mono ?_; rw [hall]; rintro e w1 ⟨rfl, hbN⟩; have hb1 := (allocs_below _ [_]).trans (hbN.mono (by simp))))
    go_wp2_with fail
    go_ret
    exact ⟨rfl, hb0.trans (Below.mono (And.left (by assumption)) hb0.size)⟩


set_option maxRecDepth 100000 in
set_option maxHeartbeats 1000000 in
theorem indexs_any (w : World) (v : Value) (L : List (Int × Int × Int)) (hv : Sps w v L) (hL : L.length ≤ 1000000000000) :
    Calls Tryz.prog 78 #[v, .func (.func 26) #[] #[]] w fun e w' => IdxR (!L.all smS) e ∧ Below w.heap.size w w' := by
  obtain ⟨A, c, rfl, hc⟩ := id hv
  have HC := hide hc
  clear hv hc
  go_enter Tryz.func78, Tryz.ntmps78
  go_wp2_with fail
  go_loopg [8] L.length (fun k i wr => ∃ j : Nat, i = .int .i64 (j : Int) ∧ k + j = L.length ∧ (L.take j).all smS = true ∧ Below w.heap.size w wr)
  case atStart => exact ⟨0, rfl, rfl, rfl, Below.refl _ _⟩
  case round =>
    obtain ⟨j, rfl, hk, hok, hb⟩ := hrel
    have hj : j ≤ L.length := by omega
    have HK := hide hk
    have HOK := hide hok
    have HB := hide hb
    clear hk hok hb
    by_cases hlt : j < L.length
    · have hji : (j : Int) < (L.length : Int) := by omega
      obtain ⟨b, off, hA, hcell⟩ := HC.out (by omega)
      obtain ⟨h0, h1, h2⟩ := hcell j _ (List.getElem?_eq_getElem hlt)
      have hc0 : wr.cell? ⟨b, off + j * 3, none⟩ = some (.int .i64 L[j].1) := (HB.out.cell (p := ⟨b, off + j * 3, none⟩) (block_lt_of_cell h0)).trans h0
      have hc1 : wr.cell? ⟨b, off + j * 3 + 1, none⟩ = some (.int .i64 L[j].2.1) := (HB.out.cell (p := ⟨b, off + j * 3 + 1, none⟩) (block_lt_of_cell h1)).trans h1
      have hc2 : wr.cell? ⟨b, off + j * 3 + 2, none⟩ = some (.int .i64 L[j].2.2) := (HB.out.cell (p := ⟨b, off + j * 3 + 2, none⟩) (block_lt_of_cell h2)).trans h2
      clear hcell h0 h1 h2 HC
      subst hA
      by_cases hz : smS L[j] = true
      · have HZ := hide hz
        go_wp2_with fail
        refine (near4_any _ L[j].1 L[j].2.1 L[j].2.2).mono ?_
        rintro e w2 ⟨rfl, hb2⟩
        have HB2 := hide hb2
        clear hb2
        rw [smS] at hz
        rw [hz]
        clear hz
        go_wp2_with fail
        go_roundg (gk - 1)
        case measure => have := HK.out; omega
        case rel =>
          refine ⟨j + 1, by go_num, by have := HK.out; omega, ?_, HB.out.trans (HB2.out.mono HB.out.size)⟩
          rw [List.take_succ_eq_append_getElem hlt, List.all_append, HOK.out]; simpa using HZ.out
      · have HZ := hide hz
        rw [Bool.not_eq_true, smS] at hz
        go_wp2_with fail
        refine (near4_any _ L[j].1 L[j].2.1 L[j].2.2).mono ?_
        rintro e w2 ⟨rfl, hb2⟩
        have HB2 := hide hb2
        clear hb2
        rw [hz]
        clear hz
        go_wp2_with fail
        go_ret
        refine ⟨⟨(j : Int), rfl, ?_⟩, HB.out.trans (HB2.out.mono HB.out.size)⟩
        have hn : L.all smS = false := by
          rw [← Bool.not_eq_true]
          exact fun h => HZ.out (List.all_eq_true.1 h _ (List.getElem_mem hlt))
        rw [hn]
        exact decide_eq_true (by omega)
    · have hji : ¬ (j : Int) < (L.length : Int) := by omega
      go_wp2_with fail
      go_ret
      have h := HOK.out
      rw [List.take_of_length_le (by omega)] at h
      rw [h]
      exact ⟨⟨-1, rfl, rfl⟩, HB.out⟩


set_option maxRecDepth 100000 in
theorem containss_any (w : World) (v : Value) (L : List (Int × Int × Int)) (hv : Sps w v L) (hL : L.length ≤ 1000000000000) :
    Calls Tryz.prog 25 #[v, .func (.func 26) #[] #[]] w fun e w' => e = .returned (.bool (!L.all smS)) ∧ Below w.heap.size w w' := by
  go_enter Tryz.func25, Tryz.ntmps25
  go_wp2_with fail
  refine (indexs_any _ _ L hv hL).mono ?_
  rintro e w1 ⟨⟨n, rfl, hn⟩, hb1⟩
  cases hl : L.all smS
  · rw [hl] at hn
    have hn2 : 0 ≤ n := of_decide_eq_true hn
    clear hn
    go_wp2_with fail
    go_ret
    exact ⟨by rw [hl]; rfl, hb1⟩
  · rw [hl] at hn
    have hn2 : decide (0 ≤ n) = false := hn
    clear hn
    go_wp2_with fail
    go_ret
    exact ⟨by rw [hl]; rfl, hb1⟩

end Go.Proofs.YtblfinpfcpglcaaGreatDoor
