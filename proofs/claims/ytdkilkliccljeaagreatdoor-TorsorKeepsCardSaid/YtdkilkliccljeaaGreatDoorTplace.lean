/- law 40: right, place, TorsorKeeps. -/
import Derived.Test.YtdkilkliccljeaaGreatDoorTappl
namespace Go.Proofs.YtdkilkliccljeaaGreatDoor
open Go.RowKit MLab

set_option maxRecDepth 100000 in
set_option maxHeartbeats 1000000 in
theorem place1_any (w : World) (s : ByteArray) (h : s.size ≤ 600) : Calls Tryz.prog 70 #[.string s] w fun e w' => e = .returned (.bool false) ∧ Below w.heap.size w w' := by
  have h1 : ¬ (600 : Int) < (s.size : Int) := by omega
  have h2 : ¬ 600 < s.size := by omega
  go_enter Tryz.func70, Tryz.ntmps70
  go_wp2_with fail
  go_ret
  exact ⟨rfl, Below.refl _ _⟩

set_option maxRecDepth 100000 in
set_option maxHeartbeats 2000000 in
theorem index_short (w : World) (g cap : Nat) (s0 s1 s2 : ByteArray) (h0 : w.cell? ⟨g, 0, none⟩ = some (.string s0)) (h1 : w.cell? ⟨g, 1, none⟩ = some (.string s1)) (h2 : w.cell? ⟨g, 2, none⟩ = some (.string s2)) (hz : s0.size ≤ 600 ∧ s1.size ≤ 600 ∧ s2.size ≤ 600) :
    Calls Tryz.prog 108 #[.slice (some ⟨g, 0, none⟩) 3 cap, .func (.func 70) #[] #[]] w fun e w' => e = .returned (.int .i64 (-1)) ∧ Below w.heap.size w w' := by
  have hcell : ∀ j, j < 3 → ∃ s : ByteArray, w.cell? ⟨g, j, none⟩ = some (.string s) ∧ s.size ≤ 600 := by
    intro j hj
    match j, hj with
    | 0, _ => exact ⟨s0, h0, hz.1⟩
    | 1, _ => exact ⟨s1, h1, hz.2.1⟩
    | 2, _ => exact ⟨s2, h2, hz.2.2⟩
  have HC := hide hcell
  clear h0 h1 h2 hz hcell
  go_enter Tryz.func108, Tryz.ntmps108
  go_wp2_with fail
  go_loopg [8] 3 (fun k i wr => ∃ j : Nat, i = .int .i64 (j : Int) ∧ k + j = 3 ∧ Below w.heap.size w wr)
  case atStart => exact ⟨0, rfl, rfl, Below.refl _ _⟩
  case round =>
    obtain ⟨j, rfl, hk, hb⟩ := hrel
    have HK := hide hk
    have HB := hide hb
    have hj : j ≤ 3 := by omega
    clear hk hb
    by_cases hlt : j < 3
    · have hji : (j : Int) < 3 := by omega
      have hj0 : (0 : Int) ≤ (j : Int) := by omega
      obtain ⟨s, hs1, hs2⟩ := HC.out j hlt
      have hc0 : wr.cell? ⟨g, j, none⟩ = some (.string s) := (HB.out.cell (p := ⟨g, j, none⟩) (block_lt_of_cell hs1)).trans hs1
      have HZ := hide hs2
      clear hs1 hs2
      go_wp2_with fail
      refine (place1_any _ s HZ.out).mono ?_
      rintro e w2 ⟨rfl, hb2⟩
      have HB2 := hide (HB.out.trans (hb2.mono HB.out.size))
      clear hb2
      go_wp2_with fail
      go_roundg (gk - 1)
      case measure => have := HK.out; omega
      case rel => exact ⟨j + 1, by go_num, by have := HK.out; omega, HB2.out⟩
    · have hji : ¬ (j : Int) < 3 := by omega
      go_wp2_with fail
      go_ret
      exact ⟨rfl, HB.out⟩

set_option maxRecDepth 100000 in
theorem contains_short (w : World) (g cap : Nat) (s0 s1 s2 : ByteArray) (h0 : w.cell? ⟨g, 0, none⟩ = some (.string s0)) (h1 : w.cell? ⟨g, 1, none⟩ = some (.string s1)) (h2 : w.cell? ⟨g, 2, none⟩ = some (.string s2)) (hz : s0.size ≤ 600 ∧ s1.size ≤ 600 ∧ s2.size ≤ 600) :
    Calls Tryz.prog 69 #[.slice (some ⟨g, 0, none⟩) 3 cap, .func (.func 70) #[] #[]] w fun e w' => e = .returned (.bool false) ∧ Below w.heap.size w w' := by
  have H := hide (index_short w g cap s0 s1 s2 h0 h1 h2 hz)
  clear h0 h1 h2 hz
  go_enter Tryz.func69, Tryz.ntmps69
  go_wp2_with fail
  refine H.out.mono ?_
  rintro e w1 ⟨rfl, hb1⟩
  go_wp2_with fail
  go_ret
  exact ⟨rfl, hb1⟩

theorem strs_three (w : World) (s0 s1 s2 : ByteArray) (t : TypeId) : Strs (w.alloc (.cells #[.string s0, .string s1, .string s2] t)) (.slice (some ⟨w.heap.size, 0, none⟩) 3 3) [s0.data.toList, s1.data.toList, s2.data.toList] := by
  refine ⟨_, 3, rfl, fun _ => ⟨w.heap.size, 0, rfl, fun i l hi => ?_⟩⟩
  have hb := Blk.new w t #[.string s0, .string s1, .string s2]
  match i, hi with
  | 0, hi => exact ⟨s0, by rw [hb.cell]; rfl, by simpa using hi⟩
  | 1, hi => exact ⟨s1, by rw [hb.cell]; rfl, by simpa using hi⟩
  | 2, hi => exact ⟨s2, by rw [hb.cell]; rfl, by simpa using hi⟩
  | j + 3, hi => simp at hi

set_option maxRecDepth 100000 in
set_option maxHeartbeats 2000000 in
theorem place_ok (w : World) (a b c : Rat) (ha : Fit a) (hb : Fit b) (hc : Fit c) (hz : (RT a).length ≤ 600 ∧ (RT b).length ≤ 600 ∧ (RT c).length ≤ 600) :
    Calls Tryz.prog 27 #[.agg #[.string ⟨(RT a).toArray⟩, .string ⟨(RT b).toArray⟩, .string ⟨(RT c).toArray⟩]] w fun e w' => e = .returned (.bool true) ∧ Below w.heap.size w w' := by
  have hN := rnums_any _ _ _ (strs_three w ⟨(RT a).toArray⟩ ⟨(RT b).toArray⟩ ⟨(RT c).toArray⟩ 23) (by simp) (by
    intro l hl
    simp only [List.mem_cons, List.not_mem_nil, or_false] at hl
    rcases hl with rfl | rfl | rfl
    · exact Nat.le_trans hz.1 (by omega)
    · exact Nat.le_trans hz.2.1 (by omega)
    · exact Nat.le_trans hz.2.2 (by omega))
  rw [show chkRs [(⟨(RT a).toArray⟩ : ByteArray).data.toList, (⟨(RT b).toArray⟩ : ByteArray).data.toList, (⟨(RT c).toArray⟩ : ByteArray).data.toList] = 0 from chkRs_fit (L := [a, b, c]) (by
      intro x hx
      simp only [List.mem_cons, List.not_mem_nil, or_false] at hx
      rcases hx with rfl | rfl | rfl
      · exact ha
      · exact hb
      · exact hc)] at hN
  have HN := hide hN
  have HZ := hide (show (⟨(RT a).toArray⟩ : ByteArray).size ≤ 600 ∧ (⟨(RT b).toArray⟩ : ByteArray).size ≤ 600 ∧ (⟨(RT c).toArray⟩ : ByteArray).size ≤ 600 from by simp only [Lib.size_eq]; exact hz)
  have K := hide (Blk.new w 23 #[.string ⟨(RT a).toArray⟩, .string ⟨(RT b).toArray⟩, .string ⟨(RT c).toArray⟩])
  have HB0 := hide (allocs_below w [.cells #[.string ⟨(RT a).toArray⟩, .string ⟨(RT b).toArray⟩, .string ⟨(RT c).toArray⟩] 23])
  clear hN ha hb hc hz
  go_enter Tryz.func27, Tryz.ntmps27
  go_wp2_with fail
  refine HN.out.mono ?_
  rintro e w1 ⟨rfl, hb1⟩
  have k1 := Blk.below K.out hb1 (Blk.lt K.out)
  have HS := hide (contains_short w1 w.heap.size 3 _ _ _ ((Blk.cell k1 0).trans rfl) ((Blk.cell k1 1).trans rfl) ((Blk.cell k1 2).trans rfl) HZ.out)
  have HB1 := hide (HB0.out.trans (Below.mono hb1 HB0.out.size))
  clear hb1 k1
  go_wp2_with fail
  refine HS.out.mono ?_
  rintro e w2 ⟨rfl, hb2⟩
  have HB2 := hide (HB1.out.trans (hb2.mono HB1.out.size))
  clear hb2
  go_wp2_with fail
  go_ret
  exact ⟨rfl, HB2.out⟩

set_option maxRecDepth 100000 in
set_option maxHeartbeats 2000000 in
theorem right_any (w : World) (s0 s1 s2 s3 s4 s5 : ByteArray) :
    Calls Tryz.prog 26 #[.agg #[.string s0, .string s1, .string s2, .string s3, .string s4, .string s5]] w fun e w' => e = .returned (.bool (decide (shortB [s0.data.toList, s1.data.toList, s2.data.toList, s3.data.toList, s4.data.toList, s5.data.toList] = true ∧ chkRs [s0.data.toList, s1.data.toList, s2.data.toList, s3.data.toList, s4.data.toList, s5.data.toList] = 0))) ∧ Below w.heap.size w w' := by
  have hb0 := hide (allocs_below w [.cells #[.string s0, .string s1, .string s2, .string s3, .string s4, .string s5] 25])
  have K0 := hide (Blk.new w 25 #[.string s0, .string s1, .string s2, .string s3, .string s4, .string s5])
  by_cases h : shortB [s0.data.toList, s1.data.toList, s2.data.toList, s3.data.toList, s4.data.toList, s5.data.toList] = true
  · obtain ⟨c, hc⟩ : ∃ c, chkRs [s0.data.toList, s1.data.toList, s2.data.toList, s3.data.toList, s4.data.toList, s5.data.toList] = c := ⟨_, rfl⟩
    have hC := fun w => rtCheck_any w s0 s1 s2 s3 s4 s5 (fun l hm => by have := shortB_len h l hm; omega)
    rw [hc] at hC
    have HC := hide hC
    have HD := hide h
    have HR := hide (show decide (shortB [s0.data.toList, s1.data.toList, s2.data.toList, s3.data.toList, s4.data.toList, s5.data.toList] = true ∧ chkRs [s0.data.toList, s1.data.toList, s2.data.toList, s3.data.toList, s4.data.toList, s5.data.toList] = 0) = decide (c = 0) by rw [hc, h]; simp)
    clear hc hC h
    go_enter Tryz.func26, Tryz.ntmps26
    go_wp2_with fail
    refine (rtShort_any _ s0 s1 s2 s3 s4 s5).mono ?_
    rw [HD.out]
    rintro e w1 ⟨rfl, hb1⟩
    have HB1 := hide (hb0.out.trans (Below.mono hb1 hb0.out.size))
    have kh := Blk.below K0.out hb1 (Blk.lt K0.out)
    have t0 := (Blk.cell kh 0).trans (rfl : _ = some (Value.string s0))
    have t1 := (Blk.cell kh 1).trans (rfl : _ = some (Value.string s1))
    have t2 := (Blk.cell kh 2).trans (rfl : _ = some (Value.string s2))
    have t3 := (Blk.cell kh 3).trans (rfl : _ = some (Value.string s3))
    have t4 := (Blk.cell kh 4).trans (rfl : _ = some (Value.string s4))
    have t5 := (Blk.cell kh 5).trans (rfl : _ = some (Value.string s5))
    clear kh hb1
    go_wp2_with fail
    refine (HC.out _).mono ?_
    rintro e w2 ⟨rfl, hb2⟩
    have HB2 := hide (HB1.out.trans (hb2.mono HB1.out.size))
    clear hb2
    by_cases h0 : c = 0
    · have HR2 := hide (HR.out.trans (decide_eq_true h0))
      subst h0
      go_wp2_with fail
      rw [HR2.out]
      go_ret
      exact ⟨rfl, HB2.out⟩
    · have HR2 := hide (HR.out.trans (decide_eq_false h0))
      have hcb : (c == 0) = false := by simpa using h0
      go_wp2_with fail
      rw [HR2.out]
      go_ret
      exact ⟨rfl, HB2.out⟩
  · have HD := hide (Bool.not_eq_true _ ▸ h : shortB [s0.data.toList, s1.data.toList, s2.data.toList, s3.data.toList, s4.data.toList, s5.data.toList] = false)
    have HR := hide (show decide (shortB [s0.data.toList, s1.data.toList, s2.data.toList, s3.data.toList, s4.data.toList, s5.data.toList] = true ∧ chkRs [s0.data.toList, s1.data.toList, s2.data.toList, s3.data.toList, s4.data.toList, s5.data.toList] = 0) = false from decide_eq_false fun hh => h hh.1)
    clear h
    go_enter Tryz.func26, Tryz.ntmps26
    go_wp2_with fail
    refine (rtShort_any _ s0 s1 s2 s3 s4 s5).mono ?_
    rw [HD.out]
    rintro e w1 ⟨rfl, hb1⟩
    have HB1 := hide (hb0.out.trans (Below.mono hb1 hb0.out.size))
    clear hb1
    go_wp2_with fail
    rw [HR.out]
    go_ret
    exact ⟨rfl, HB1.out⟩
end Go.Proofs.YtdkilkliccljeaaGreatDoor
