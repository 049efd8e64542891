/- law 40: TorsorAdds. -/
import Derived.Test.YtdkilkliccljeaaGreatDoorTappl
import Derived.Test.YtdkilkliccljeaaGreatDoorTadderr
import Derived.Test.YtdkilkliccljeaaGreatDoorRtadd
namespace Go.Proofs.YtdkilkliccljeaaGreatDoor
open Go.RowKit MLab

theorem tv1000 {q : Nat → Rat} {m : Nat} (h1 : 1 ≤ m) (hm : m ≤ 400) (hq : ∀ i, Sz m m (q i)) : ∀ s ∈ [(⟨(RT (q 0)).toArray⟩ : ByteArray), (⟨(RT (q 1)).toArray⟩ : ByteArray), (⟨(RT (q 2)).toArray⟩ : ByteArray), (⟨(RT (q 3)).toArray⟩ : ByteArray), (⟨(RT (q 4)).toArray⟩ : ByteArray), (⟨(RT (q 5)).toArray⟩ : ByteArray)], s.size ≤ 1000 := by
  have key : ∀ i, (⟨(RT (q i)).toArray⟩ : ByteArray).size ≤ 1000 := fun i => by
    have := RT_len_sz h1 (hq i)
    rw [Lib.size_eq]; show (RT (q i)).length ≤ 1000; omega
  intro s hs
  simp only [List.mem_cons, List.not_mem_nil, or_false] at hs
  rcases hs with rfl | rfl | rfl | rfl | rfl | rfl <;> exact key _
theorem six_zero : ∀ s ∈ [(⟨#[]⟩ : ByteArray), ⟨#[]⟩, ⟨#[]⟩, ⟨#[]⟩, ⟨#[]⟩, ⟨#[]⟩], s.size ≤ 1000 := by decide
theorem add_both (s0 s1 s2 s3 s4 s5 t0 t1 t2 t3 t4 t5 : ByteArray) (h1 : shortB [s0.data.toList, s1.data.toList, s2.data.toList, s3.data.toList, s4.data.toList, s5.data.toList] = true) (h2 : shortB [t0.data.toList, t1.data.toList, t2.data.toList, t3.data.toList, t4.data.toList, t5.data.toList] = true) : ∃ (a0 a1 a2 a3 a4 a5 : ByteArray) (c : Int), (∀ s ∈ [a0, a1, a2, a3, a4, a5], s.size ≤ 1000) ∧
    (∀ w, Std w → Calls Tryz.prog 31 #[.agg #[.string s0, .string s1, .string s2, .string s3, .string s4, .string s5], .agg #[.string t0, .string t1, .string t2, .string t3, .string t4, .string t5]] w fun e w' => e = .returned (.tuple #[.agg #[.string a0, .string a1, .string a2, .string a3, .string a4, .string a5], .int .i64 c]) ∧ Below w.heap.size w w') ∧ (∀ w, Calls Tryz.prog 32 #[.agg #[.string s0, .string s1, .string s2, .string s3, .string s4, .string s5], .agg #[.string t0, .string t1, .string t2, .string t3, .string t4, .string t5]] w fun e w' => e = .returned (.tuple #[.agg #[.string a0, .string a1, .string a2, .string a3, .string a4, .string a5], .int .i64 c]) ∧ Below w.heap.size w w') := by
  have hl1 := shortB_len h1
  have hl2 := shortB_len h2
  by_cases hc : chkRs [s0.data.toList, s1.data.toList, s2.data.toList, s3.data.toList, s4.data.toList, s5.data.toList] = 0
  · by_cases hd : chkRs [t0.data.toList, t1.data.toList, t2.data.toList, t3.data.toList, t4.data.toList, t5.data.toList] = 0
    · obtain ⟨p, hp, rfl, rfl, rfl, rfl, rfl, rfl⟩ := short_six h1 hc
      obtain ⟨q, hq, rfl, rfl, rfl, rfl, rfl, rfl⟩ := short_six h2 hd
      exact ⟨_, _, _, _, _, _, 0, tv1000 (q := fun i => p i + q i) (m := 49) (by omega) (by omega) (fun i => (Sz.add (m := 48) (hp i) (hq i) (by omega) (by omega)).mono (by omega) (by omega)), fun w hs => tadd_ok w _ _ _ _ _ _ _ _ _ _ _ _ p q hs ⟨rfl, rfl, rfl, rfl, rfl, rfl⟩ ⟨rfl, rfl, rfl, rfl, rfl, rfl⟩ (fun i _ => bnd_of (m := 24) (by omega) (hp i) (hq i)), fun w => rtadd_ok w p q (m := 24) (by omega) (fun i _ => hp i) (fun i _ => hq i)⟩
    · exact ⟨_, _, _, _, _, _, _, six_zero, fun w hs => tadd_bad1 w _ _ _ _ _ _ _ _ _ _ _ _ hc _ rfl hd (fun l hm => by have := hl1 l hm; omega) (fun l hm => by have := hl2 l hm; omega) hs, fun w => rtadd_bad1 w _ _ _ _ _ _ _ _ _ _ _ _ hc _ rfl hd (fun l hm => by have := hl1 l hm; omega) (fun l hm => by have := hl2 l hm; omega)⟩
  · exact ⟨_, _, _, _, _, _, _, six_zero, fun w hs => tadd_bad0 w _ _ _ _ _ _ _ _ _ _ _ _ _ rfl hc (fun l hm => by have := hl1 l hm; omega) (fun l hm => by have := hl2 l hm; omega) hs, fun w => rtadd_bad0 w _ _ _ _ _ _ _ _ _ _ _ _ _ rfl hc (fun l hm => by have := hl1 l hm; omega) (fun l hm => by have := hl2 l hm; omega)⟩
theorem scale_both (k t0 t1 t2 t3 t4 t5 : ByteArray) (h1 : k.size ≤ 24) (h2 : shortB [t0.data.toList, t1.data.toList, t2.data.toList, t3.data.toList, t4.data.toList, t5.data.toList] = true) : ∃ (a0 a1 a2 a3 a4 a5 : ByteArray) (c : Int), (∀ s ∈ [a0, a1, a2, a3, a4, a5], s.size ≤ 1000) ∧
    (∀ w, Std w → Calls Tryz.prog 33 #[.string k, .agg #[.string t0, .string t1, .string t2, .string t3, .string t4, .string t5]] w fun e w' => e = .returned (.tuple #[.agg #[.string a0, .string a1, .string a2, .string a3, .string a4, .string a5], .int .i64 c]) ∧ Below w.heap.size w w') ∧ (∀ w, Calls Tryz.prog 34 #[.string k, .agg #[.string t0, .string t1, .string t2, .string t3, .string t4, .string t5]] w fun e w' => e = .returned (.tuple #[.agg #[.string a0, .string a1, .string a2, .string a3, .string a4, .string a5], .int .i64 c]) ∧ Below w.heap.size w w') := by
  have hl2 := shortB_len h2
  have hk : k.data.toList.length ≤ 24 := by rw [← Lib.size_eq]; exact h1
  by_cases hc : chkR k.data.toList = 0
  · by_cases hd : chkRs [t0.data.toList, t1.data.toList, t2.data.toList, t3.data.toList, t4.data.toList, t5.data.toList] = 0
    · obtain ⟨p, ht, hp⟩ := short_sz (k := 24) (by omega) hc hk
      obtain rfl := ba_eq ht
      obtain ⟨q, hq, rfl, rfl, rfl, rfl, rfl, rfl⟩ := short_six h2 hd
      exact ⟨_, _, _, _, _, _, 0, tv1000 (q := fun i => p * q i) (m := 48) (by omega) (by omega) (fun i => (Sz.mul hp (hq i)).mono (by omega) (by omega)), fun w hs => tscale_ok w _ _ _ _ _ _ _ p q hs rfl ⟨rfl, rfl, rfl, rfl, rfl, rfl⟩ (fun i _ => bndM_of (m := 24) (by omega) hp (hq i)), fun w => rtscale_ok w p q (m := 24) (by omega) hp (fun i _ => hq i)⟩
    · exact ⟨_, _, _, _, _, _, _, six_zero, fun w hs => tscale_bad1 w k _ _ _ _ _ _ hc _ rfl hd (by omega) (fun l hm => by have := hl2 l hm; omega) hs, fun w => rtscale_bad1 w k _ _ _ _ _ _ hc _ rfl hd (by omega) (fun l hm => by have := hl2 l hm; omega)⟩
  · exact ⟨_, _, _, _, _, _, _, six_zero, fun w hs => tscale_bad0 w k _ _ _ _ _ _ _ rfl hc (by omega) (fun l hm => by have := hl2 l hm; omega) hs, fun w => rtscale_bad0 w k _ _ _ _ _ _ _ rfl hc (by omega) (fun l hm => by have := hl2 l hm; omega)⟩

set_option maxRecDepth 100000 in
set_option maxHeartbeats 16000000 in
theorem adds_any (w : World) (s0 s1 s2 s3 s4 s5 t0 t1 t2 t3 t4 t5 k : ByteArray) (hk : k.size ≤ maxLen) (hs : Std w) :
    Calls Tryz.prog 7 #[.agg #[.string s0, .string s1, .string s2, .string s3, .string s4, .string s5], .agg #[.string t0, .string t1, .string t2, .string t3, .string t4, .string t5], .string k] w fun e w' => e = .returned (.bool true) ∧ Below w.heap.size w w' := by
  have HB := allocs_below w [.cells #[.string s0, .string s1, .string s2, .string s3, .string s4, .string s5] 25, .cells #[.string t0, .string t1, .string t2, .string t3, .string t4, .string t5] 25]
  have K_x : Blk (allocs w [.cells #[.string s0, .string s1, .string s2, .string s3, .string s4, .string s5] 25, .cells #[.string t0, .string t1, .string t2, .string t3, .string t4, .string t5] 25]) (w.heap.size + 0) 25 #[.string s0, .string s1, .string s2, .string s3, .string s4, .string s5] := allocs_at w [.cells #[.string s0, .string s1, .string s2, .string s3, .string s4, .string s5] 25, .cells #[.string t0, .string t1, .string t2, .string t3, .string t4, .string t5] 25] 0 rfl
  have K_y : Blk (allocs w [.cells #[.string s0, .string s1, .string s2, .string s3, .string s4, .string s5] 25, .cells #[.string t0, .string t1, .string t2, .string t3, .string t4, .string t5] 25]) (w.heap.size + 1) 25 #[.string t0, .string t1, .string t2, .string t3, .string t4, .string t5] := allocs_at w [.cells #[.string s0, .string s1, .string s2, .string s3, .string s4, .string s5] 25, .cells #[.string t0, .string t1, .string t2, .string t3, .string t4, .string t5] 25] 1 rfl
  unfold allocs at HB K_x K_y
  simp only [List.foldl_cons, List.foldl_nil] at HB K_x K_y
  rw [Nat.add_zero] at K_x
  have HS := hide hs
  have hln : k.size < 9223372036854775808 := by unfold maxLen at hk; omega
  clear hs hk
  by_cases h1 : shortB [s0.data.toList, s1.data.toList, s2.data.toList, s3.data.toList, s4.data.toList, s5.data.toList] = true
  · by_cases h2 : shortB [t0.data.toList, t1.data.toList, t2.data.toList, t3.data.toList, t4.data.toList, t5.data.toList] = true
    · by_cases hl : k.size ≤ 24
      · have H1 := hide h1
        have H2 := hide h2
        have hl1 : ¬ (24 : Int) < (k.size : Int) := by omega
        have hl2 : ¬ 24 < k.size := by omega
        obtain ⟨a0, a1, a2, a3, a4, a5, c, hz, hA, hRA⟩ := add_both s0 s1 s2 s3 s4 s5 t0 t1 t2 t3 t4 t5 h1 h2
        obtain ⟨b0, b1, b2, b3, b4, b5, d, hz2, hC, hRC⟩ := scale_both k s0 s1 s2 s3 s4 s5 hl h1
        have m6 : ∀ s ∈ [a0, a1, a2, a3, a4, a5], s.size ≤ maxLen := fun s h => by have := hz s h; unfold maxLen; omega
        have n6 : ∀ s ∈ [b0, b1, b2, b3, b4, b5], s.size ≤ maxLen := fun s h => by have := hz2 s h; unfold maxLen; omega
        have e1 := fun w => self_tor a0 a1 a2 a3 a4 a5 (m6 _ (by simp)) (m6 _ (by simp)) (m6 _ (by simp)) (m6 _ (by simp)) (m6 _ (by simp)) (m6 _ (by simp)) w
        have e2 := fun w => self_tor b0 b1 b2 b3 b4 b5 (n6 _ (by simp)) (n6 _ (by simp)) (n6 _ (by simp)) (n6 _ (by simp)) (n6 _ (by simp)) (n6 _ (by simp)) w
        have HA := hide hA
        have HRA := hide hRA
        have HC := hide hC
        have HRC := hide hRC
        clear h1 h2 hA hRA hC hRC hz hz2 m6 n6
        go_enter Tryz.func7, Tryz.ntmps7
        go_upto_region 1 with (fail)
        generalize ((w.alloc (.cells #[.string s0, .string s1, .string s2, .string s3, .string s4, .string s5] 25)).alloc (.cells #[.string t0, .string t1, .string t2, .string t3, .string t4, .string t5] 25)) = w0 at *
        replace K_x := hide K_x
        replace K_y := hide K_y
        replace HB := hide HB
        have x0 := (Blk.cell K_x.out 0).trans (rfl : _ = some (Value.string s0))
        have x1 := (Blk.cell K_x.out 1).trans (rfl : _ = some (Value.string s1))
        have x2 := (Blk.cell K_x.out 2).trans (rfl : _ = some (Value.string s2))
        have x3 := (Blk.cell K_x.out 3).trans (rfl : _ = some (Value.string s3))
        have x4 := (Blk.cell K_x.out 4).trans (rfl : _ = some (Value.string s4))
        have x5 := (Blk.cell K_x.out 5).trans (rfl : _ = some (Value.string s5))
        go_wp2_with fail
        refine (rtShort_any _ s0 s1 s2 s3 s4 s5).mono ?_
        rw [H1.out]
        rintro e w1 ⟨rfl, hb1⟩
        clear x0 x1 x2 x3 x4 x5
        replace K_x := hide (Blk.below K_x.out hb1 (Blk.lt K_x.out))
        replace K_y := hide (Blk.below K_y.out hb1 (Blk.lt K_y.out))
        replace HB := hide (HB.out.trans (hb1.mono HB.out.size))
        clear hb1
        have y0 := (Blk.cell K_y.out 0).trans (rfl : _ = some (Value.string t0))
        have y1 := (Blk.cell K_y.out 1).trans (rfl : _ = some (Value.string t1))
        have y2 := (Blk.cell K_y.out 2).trans (rfl : _ = some (Value.string t2))
        have y3 := (Blk.cell K_y.out 3).trans (rfl : _ = some (Value.string t3))
        have y4 := (Blk.cell K_y.out 4).trans (rfl : _ = some (Value.string t4))
        have y5 := (Blk.cell K_y.out 5).trans (rfl : _ = some (Value.string t5))
        go_wp2_with fail
        refine (rtShort_any _ t0 t1 t2 t3 t4 t5).mono ?_
        rw [H2.out]
        rintro e w2 ⟨rfl, hb2⟩
        clear y0 y1 y2 y3 y4 y5
        replace K_x := hide (Blk.below K_x.out hb2 (Blk.lt K_x.out))
        replace K_y := hide (Blk.below K_y.out hb2 (Blk.lt K_y.out))
        replace HB := hide (HB.out.trans (hb2.mono HB.out.size))
        clear hb2
        have x0 := (Blk.cell K_x.out 0).trans (rfl : _ = some (Value.string s0))
        have x1 := (Blk.cell K_x.out 1).trans (rfl : _ = some (Value.string s1))
        have x2 := (Blk.cell K_x.out 2).trans (rfl : _ = some (Value.string s2))
        have x3 := (Blk.cell K_x.out 3).trans (rfl : _ = some (Value.string s3))
        have x4 := (Blk.cell K_x.out 4).trans (rfl : _ = some (Value.string s4))
        have x5 := (Blk.cell K_x.out 5).trans (rfl : _ = some (Value.string s5))
        have y0 := (Blk.cell K_y.out 0).trans (rfl : _ = some (Value.string t0))
        have y1 := (Blk.cell K_y.out 1).trans (rfl : _ = some (Value.string t1))
        have y2 := (Blk.cell K_y.out 2).trans (rfl : _ = some (Value.string t2))
        have y3 := (Blk.cell K_y.out 3).trans (rfl : _ = some (Value.string t3))
        have y4 := (Blk.cell K_y.out 4).trans (rfl : _ = some (Value.string t4))
        have y5 := (Blk.cell K_y.out 5).trans (rfl : _ = some (Value.string t5))
        go_wp2_with fail
        refine (HA.out _ (std_next HS.out HB.out)).mono ?_
        rintro e w3 ⟨rfl, hb3⟩
        clear x0 x1 x2 x3 x4 x5 y0 y1 y2 y3 y4 y5
        replace K_x := hide (Blk.below K_x.out hb3 (Blk.lt K_x.out))
        replace K_y := hide (Blk.below K_y.out hb3 (Blk.lt K_y.out))
        replace HB := hide (HB.out.trans (hb3.mono HB.out.size))
        clear hb3
        go_upto_region 4 with (fail)
        have lt_ra_x : w.heap.size < w3.heap.size := Blk.lt K_x.out
        have lt_ra_y : w.heap.size + 1 < w3.heap.size := Blk.lt K_y.out
        replace K_x := K_x.out.alloc (.cells #[.string a0, .string a1, .string a2, .string a3, .string a4, .string a5] 25)
        replace K_y := K_y.out.alloc (.cells #[.string a0, .string a1, .string a2, .string a3, .string a4, .string a5] 25)
        replace HB := HB.out.alloc HB.out.size (.cells #[.string a0, .string a1, .string a2, .string a3, .string a4, .string a5] 25)
        have K_ra := Blk.new w3 25 #[.string a0, .string a1, .string a2, .string a3, .string a4, .string a5]
        generalize w3.alloc (.cells #[.string a0, .string a1, .string a2, .string a3, .string a4, .string a5] 25) = w4 at *
        replace K_x := hide K_x
        replace K_y := hide K_y
        replace K_ra := hide K_ra
        replace HB := hide HB
        have x0 := (Blk.cell K_x.out 0).trans (rfl : _ = some (Value.string s0))
        have x1 := (Blk.cell K_x.out 1).trans (rfl : _ = some (Value.string s1))
        have x2 := (Blk.cell K_x.out 2).trans (rfl : _ = some (Value.string s2))
        have x3 := (Blk.cell K_x.out 3).trans (rfl : _ = some (Value.string s3))
        have x4 := (Blk.cell K_x.out 4).trans (rfl : _ = some (Value.string s4))
        have x5 := (Blk.cell K_x.out 5).trans (rfl : _ = some (Value.string s5))
        have y0 := (Blk.cell K_y.out 0).trans (rfl : _ = some (Value.string t0))
        have y1 := (Blk.cell K_y.out 1).trans (rfl : _ = some (Value.string t1))
        have y2 := (Blk.cell K_y.out 2).trans (rfl : _ = some (Value.string t2))
        have y3 := (Blk.cell K_y.out 3).trans (rfl : _ = some (Value.string t3))
        have y4 := (Blk.cell K_y.out 4).trans (rfl : _ = some (Value.string t4))
        have y5 := (Blk.cell K_y.out 5).trans (rfl : _ = some (Value.string t5))
        go_wp2_with fail
        refine (HRA.out _).mono ?_
        rintro e w5 ⟨rfl, hb5⟩
        clear x0 x1 x2 x3 x4 x5 y0 y1 y2 y3 y4 y5
        replace K_x := hide (Blk.below K_x.out hb5 (Blk.lt K_x.out))
        replace K_y := hide (Blk.below K_y.out hb5 (Blk.lt K_y.out))
        replace K_ra := hide (Blk.below K_ra.out hb5 (Blk.lt K_ra.out))
        replace HB := hide (HB.out.trans (hb5.mono HB.out.size))
        clear hb5
        go_upto_region 5 with (fail)
        have lt_rb_x : w.heap.size < w5.heap.size := Blk.lt K_x.out
        have lt_rb_y : w.heap.size + 1 < w5.heap.size := Blk.lt K_y.out
        have lt_rb_ra : w3.heap.size < w5.heap.size := Blk.lt K_ra.out
        replace K_x := K_x.out.alloc (.cells #[.string a0, .string a1, .string a2, .string a3, .string a4, .string a5] 25)
        replace K_y := K_y.out.alloc (.cells #[.string a0, .string a1, .string a2, .string a3, .string a4, .string a5] 25)
        replace K_ra := K_ra.out.alloc (.cells #[.string a0, .string a1, .string a2, .string a3, .string a4, .string a5] 25)
        replace HB := HB.out.alloc HB.out.size (.cells #[.string a0, .string a1, .string a2, .string a3, .string a4, .string a5] 25)
        have K_rb := Blk.new w5 25 #[.string a0, .string a1, .string a2, .string a3, .string a4, .string a5]
        generalize w5.alloc (.cells #[.string a0, .string a1, .string a2, .string a3, .string a4, .string a5] 25) = w6 at *
        replace K_x := hide K_x
        replace K_y := hide K_y
        replace K_ra := hide K_ra
        replace K_rb := hide K_rb
        replace HB := hide HB
        have x0 := (Blk.cell K_x.out 0).trans (rfl : _ = some (Value.string s0))
        have x1 := (Blk.cell K_x.out 1).trans (rfl : _ = some (Value.string s1))
        have x2 := (Blk.cell K_x.out 2).trans (rfl : _ = some (Value.string s2))
        have x3 := (Blk.cell K_x.out 3).trans (rfl : _ = some (Value.string s3))
        have x4 := (Blk.cell K_x.out 4).trans (rfl : _ = some (Value.string s4))
        have x5 := (Blk.cell K_x.out 5).trans (rfl : _ = some (Value.string s5))
        go_wp2_with fail
        refine (HC.out _ (std_next HS.out HB.out)).mono ?_
        rintro e w7 ⟨rfl, hb7⟩
        clear x0 x1 x2 x3 x4 x5
        replace K_x := hide (Blk.below K_x.out hb7 (Blk.lt K_x.out))
        replace K_y := hide (Blk.below K_y.out hb7 (Blk.lt K_y.out))
        replace K_ra := hide (Blk.below K_ra.out hb7 (Blk.lt K_ra.out))
        replace K_rb := hide (Blk.below K_rb.out hb7 (Blk.lt K_rb.out))
        replace HB := hide (HB.out.trans (hb7.mono HB.out.size))
        clear hb7
        go_upto_region 6 with (fail)
        have lt_rc_x : w.heap.size < w7.heap.size := Blk.lt K_x.out
        have lt_rc_y : w.heap.size + 1 < w7.heap.size := Blk.lt K_y.out
        have lt_rc_ra : w3.heap.size < w7.heap.size := Blk.lt K_ra.out
        have lt_rc_rb : w5.heap.size < w7.heap.size := Blk.lt K_rb.out
        replace K_x := K_x.out.alloc (.cells #[.string b0, .string b1, .string b2, .string b3, .string b4, .string b5] 25)
        replace K_y := K_y.out.alloc (.cells #[.string b0, .string b1, .string b2, .string b3, .string b4, .string b5] 25)
        replace K_ra := K_ra.out.alloc (.cells #[.string b0, .string b1, .string b2, .string b3, .string b4, .string b5] 25)
        replace K_rb := K_rb.out.alloc (.cells #[.string b0, .string b1, .string b2, .string b3, .string b4, .string b5] 25)
        replace HB := HB.out.alloc HB.out.size (.cells #[.string b0, .string b1, .string b2, .string b3, .string b4, .string b5] 25)
        have K_rc := Blk.new w7 25 #[.string b0, .string b1, .string b2, .string b3, .string b4, .string b5]
        generalize w7.alloc (.cells #[.string b0, .string b1, .string b2, .string b3, .string b4, .string b5] 25) = w8 at *
        replace K_x := hide K_x
        replace K_y := hide K_y
        replace K_ra := hide K_ra
        replace K_rb := hide K_rb
        replace K_rc := hide K_rc
        replace HB := hide HB
        have x0 := (Blk.cell K_x.out 0).trans (rfl : _ = some (Value.string s0))
        have x1 := (Blk.cell K_x.out 1).trans (rfl : _ = some (Value.string s1))
        have x2 := (Blk.cell K_x.out 2).trans (rfl : _ = some (Value.string s2))
        have x3 := (Blk.cell K_x.out 3).trans (rfl : _ = some (Value.string s3))
        have x4 := (Blk.cell K_x.out 4).trans (rfl : _ = some (Value.string s4))
        have x5 := (Blk.cell K_x.out 5).trans (rfl : _ = some (Value.string s5))
        go_wp2_with fail
        refine (HRC.out _).mono ?_
        rintro e w9 ⟨rfl, hb9⟩
        clear x0 x1 x2 x3 x4 x5
        replace K_x := hide (Blk.below K_x.out hb9 (Blk.lt K_x.out))
        replace K_y := hide (Blk.below K_y.out hb9 (Blk.lt K_y.out))
        replace K_ra := hide (Blk.below K_ra.out hb9 (Blk.lt K_ra.out))
        replace K_rb := hide (Blk.below K_rb.out hb9 (Blk.lt K_rb.out))
        replace K_rc := hide (Blk.below K_rc.out hb9 (Blk.lt K_rc.out))
        replace HB := hide (HB.out.trans (hb9.mono HB.out.size))
        clear hb9
        go_upto_region 7 with (fail)
        have lt_rd_x : w.heap.size < w9.heap.size := Blk.lt K_x.out
        have lt_rd_y : w.heap.size + 1 < w9.heap.size := Blk.lt K_y.out
        have lt_rd_ra : w3.heap.size < w9.heap.size := Blk.lt K_ra.out
        have lt_rd_rb : w5.heap.size < w9.heap.size := Blk.lt K_rb.out
        have lt_rd_rc : w7.heap.size < w9.heap.size := Blk.lt K_rc.out
        replace K_x := K_x.out.alloc (.cells #[.string b0, .string b1, .string b2, .string b3, .string b4, .string b5] 25)
        replace K_y := K_y.out.alloc (.cells #[.string b0, .string b1, .string b2, .string b3, .string b4, .string b5] 25)
        replace K_ra := K_ra.out.alloc (.cells #[.string b0, .string b1, .string b2, .string b3, .string b4, .string b5] 25)
        replace K_rb := K_rb.out.alloc (.cells #[.string b0, .string b1, .string b2, .string b3, .string b4, .string b5] 25)
        replace K_rc := K_rc.out.alloc (.cells #[.string b0, .string b1, .string b2, .string b3, .string b4, .string b5] 25)
        replace HB := HB.out.alloc HB.out.size (.cells #[.string b0, .string b1, .string b2, .string b3, .string b4, .string b5] 25)
        have K_rd := Blk.new w9 25 #[.string b0, .string b1, .string b2, .string b3, .string b4, .string b5]
        generalize w9.alloc (.cells #[.string b0, .string b1, .string b2, .string b3, .string b4, .string b5] 25) = w10 at *
        replace K_x := hide K_x
        replace K_y := hide K_y
        replace K_ra := hide K_ra
        replace K_rb := hide K_rb
        replace K_rc := hide K_rc
        replace K_rd := hide K_rd
        replace HB := hide HB
        have ra0 := (Blk.cell K_ra.out 0).trans (rfl : _ = some (Value.string a0))
        have ra1 := (Blk.cell K_ra.out 1).trans (rfl : _ = some (Value.string a1))
        have ra2 := (Blk.cell K_ra.out 2).trans (rfl : _ = some (Value.string a2))
        have ra3 := (Blk.cell K_ra.out 3).trans (rfl : _ = some (Value.string a3))
        have ra4 := (Blk.cell K_ra.out 4).trans (rfl : _ = some (Value.string a4))
        have ra5 := (Blk.cell K_ra.out 5).trans (rfl : _ = some (Value.string a5))
        have rb0 := (Blk.cell K_rb.out 0).trans (rfl : _ = some (Value.string a0))
        have rb1 := (Blk.cell K_rb.out 1).trans (rfl : _ = some (Value.string a1))
        have rb2 := (Blk.cell K_rb.out 2).trans (rfl : _ = some (Value.string a2))
        have rb3 := (Blk.cell K_rb.out 3).trans (rfl : _ = some (Value.string a3))
        have rb4 := (Blk.cell K_rb.out 4).trans (rfl : _ = some (Value.string a4))
        have rb5 := (Blk.cell K_rb.out 5).trans (rfl : _ = some (Value.string a5))
        have rc0 := (Blk.cell K_rc.out 0).trans (rfl : _ = some (Value.string b0))
        have rc1 := (Blk.cell K_rc.out 1).trans (rfl : _ = some (Value.string b1))
        have rc2 := (Blk.cell K_rc.out 2).trans (rfl : _ = some (Value.string b2))
        have rc3 := (Blk.cell K_rc.out 3).trans (rfl : _ = some (Value.string b3))
        have rc4 := (Blk.cell K_rc.out 4).trans (rfl : _ = some (Value.string b4))
        have rc5 := (Blk.cell K_rc.out 5).trans (rfl : _ = some (Value.string b5))
        have rd0 := (Blk.cell K_rd.out 0).trans (rfl : _ = some (Value.string b0))
        have rd1 := (Blk.cell K_rd.out 1).trans (rfl : _ = some (Value.string b1))
        have rd2 := (Blk.cell K_rd.out 2).trans (rfl : _ = some (Value.string b2))
        have rd3 := (Blk.cell K_rd.out 3).trans (rfl : _ = some (Value.string b3))
        have rd4 := (Blk.cell K_rd.out 4).trans (rfl : _ = some (Value.string b4))
        have rd5 := (Blk.cell K_rd.out 5).trans (rfl : _ = some (Value.string b5))
        go_wp2_with fail
        refine (awake40 _ (std_next HS.out HB.out)).mono ?_
        rintro e w11 ⟨rfl, hb11⟩
        clear ra0 ra1 ra2 ra3 ra4 ra5 rb0 rb1 rb2 rb3 rb4 rb5 rc0 rc1 rc2 rc3 rc4 rc5 rd0 rd1 rd2 rd3 rd4 rd5
        replace K_x := hide (Blk.below K_x.out hb11 (Blk.lt K_x.out))
        replace K_y := hide (Blk.below K_y.out hb11 (Blk.lt K_y.out))
        replace K_ra := hide (Blk.below K_ra.out hb11 (Blk.lt K_ra.out))
        replace K_rb := hide (Blk.below K_rb.out hb11 (Blk.lt K_rb.out))
        replace K_rc := hide (Blk.below K_rc.out hb11 (Blk.lt K_rc.out))
        replace K_rd := hide (Blk.below K_rd.out hb11 (Blk.lt K_rd.out))
        replace HB := hide (HB.out.trans (hb11.mono HB.out.size))
        clear hb11
        go_wp2_with fail
        go_ret
        exact ⟨rfl, HB.out⟩
      · have H1 := hide h1
        have H2 := hide h2
        have hl1 : (24 : Int) < (k.size : Int) := by omega
        have hl2 : 24 < k.size := by omega
        clear h1 h2
        go_enter Tryz.func7, Tryz.ntmps7
        go_upto_region 1 with (fail)
        generalize ((w.alloc (.cells #[.string s0, .string s1, .string s2, .string s3, .string s4, .string s5] 25)).alloc (.cells #[.string t0, .string t1, .string t2, .string t3, .string t4, .string t5] 25)) = w0 at *
        replace K_x := hide K_x
        replace K_y := hide K_y
        replace HB := hide HB
        have x0 := (Blk.cell K_x.out 0).trans (rfl : _ = some (Value.string s0))
        have x1 := (Blk.cell K_x.out 1).trans (rfl : _ = some (Value.string s1))
        have x2 := (Blk.cell K_x.out 2).trans (rfl : _ = some (Value.string s2))
        have x3 := (Blk.cell K_x.out 3).trans (rfl : _ = some (Value.string s3))
        have x4 := (Blk.cell K_x.out 4).trans (rfl : _ = some (Value.string s4))
        have x5 := (Blk.cell K_x.out 5).trans (rfl : _ = some (Value.string s5))
        go_wp2_with fail
        refine (rtShort_any _ s0 s1 s2 s3 s4 s5).mono ?_
        rw [H1.out]
        rintro e w1 ⟨rfl, hb1⟩
        clear x0 x1 x2 x3 x4 x5
        replace K_x := hide (Blk.below K_x.out hb1 (Blk.lt K_x.out))
        replace K_y := hide (Blk.below K_y.out hb1 (Blk.lt K_y.out))
        replace HB := hide (HB.out.trans (hb1.mono HB.out.size))
        clear hb1
        have y0 := (Blk.cell K_y.out 0).trans (rfl : _ = some (Value.string t0))
        have y1 := (Blk.cell K_y.out 1).trans (rfl : _ = some (Value.string t1))
        have y2 := (Blk.cell K_y.out 2).trans (rfl : _ = some (Value.string t2))
        have y3 := (Blk.cell K_y.out 3).trans (rfl : _ = some (Value.string t3))
        have y4 := (Blk.cell K_y.out 4).trans (rfl : _ = some (Value.string t4))
        have y5 := (Blk.cell K_y.out 5).trans (rfl : _ = some (Value.string t5))
        go_wp2_with fail
        refine (rtShort_any _ t0 t1 t2 t3 t4 t5).mono ?_
        rw [H2.out]
        rintro e w2 ⟨rfl, hb2⟩
        clear y0 y1 y2 y3 y4 y5
        replace K_x := hide (Blk.below K_x.out hb2 (Blk.lt K_x.out))
        replace K_y := hide (Blk.below K_y.out hb2 (Blk.lt K_y.out))
        replace HB := hide (HB.out.trans (hb2.mono HB.out.size))
        clear hb2
        go_wp2_with fail
        refine (awake40 _ (std_next HS.out HB.out)).mono ?_
        rintro e w3 ⟨rfl, hb3⟩
        replace K_x := hide (Blk.below K_x.out hb3 (Blk.lt K_x.out))
        replace K_y := hide (Blk.below K_y.out hb3 (Blk.lt K_y.out))
        replace HB := hide (HB.out.trans (hb3.mono HB.out.size))
        clear hb3
        go_wp2_with fail
        go_ret
        exact ⟨rfl, HB.out⟩
    · have H1 := hide h1
      have H2 := hide (Bool.not_eq_true _ ▸ h2 : shortB [t0.data.toList, t1.data.toList, t2.data.toList, t3.data.toList, t4.data.toList, t5.data.toList] = false)
      clear h1 h2
      go_enter Tryz.func7, Tryz.ntmps7
      go_upto_region 1 with (fail)
      generalize ((w.alloc (.cells #[.string s0, .string s1, .string s2, .string s3, .string s4, .string s5] 25)).alloc (.cells #[.string t0, .string t1, .string t2, .string t3, .string t4, .string t5] 25)) = w0 at *
      replace K_x := hide K_x
      replace K_y := hide K_y
      replace HB := hide HB
      have x0 := (Blk.cell K_x.out 0).trans (rfl : _ = some (Value.string s0))
      have x1 := (Blk.cell K_x.out 1).trans (rfl : _ = some (Value.string s1))
      have x2 := (Blk.cell K_x.out 2).trans (rfl : _ = some (Value.string s2))
      have x3 := (Blk.cell K_x.out 3).trans (rfl : _ = some (Value.string s3))
      have x4 := (Blk.cell K_x.out 4).trans (rfl : _ = some (Value.string s4))
      have x5 := (Blk.cell K_x.out 5).trans (rfl : _ = some (Value.string s5))
      go_wp2_with fail
      refine (rtShort_any _ s0 s1 s2 s3 s4 s5).mono ?_
      rw [H1.out]
      rintro e w1 ⟨rfl, hb1⟩
      clear x0 x1 x2 x3 x4 x5
      replace K_x := hide (Blk.below K_x.out hb1 (Blk.lt K_x.out))
      replace K_y := hide (Blk.below K_y.out hb1 (Blk.lt K_y.out))
      replace HB := hide (HB.out.trans (hb1.mono HB.out.size))
      clear hb1
      have y0 := (Blk.cell K_y.out 0).trans (rfl : _ = some (Value.string t0))
      have y1 := (Blk.cell K_y.out 1).trans (rfl : _ = some (Value.string t1))
      have y2 := (Blk.cell K_y.out 2).trans (rfl : _ = some (Value.string t2))
      have y3 := (Blk.cell K_y.out 3).trans (rfl : _ = some (Value.string t3))
      have y4 := (Blk.cell K_y.out 4).trans (rfl : _ = some (Value.string t4))
      have y5 := (Blk.cell K_y.out 5).trans (rfl : _ = some (Value.string t5))
      go_wp2_with fail
      refine (rtShort_any _ t0 t1 t2 t3 t4 t5).mono ?_
      rw [H2.out]
      rintro e w2 ⟨rfl, hb2⟩
      clear y0 y1 y2 y3 y4 y5
      replace K_x := hide (Blk.below K_x.out hb2 (Blk.lt K_x.out))
      replace K_y := hide (Blk.below K_y.out hb2 (Blk.lt K_y.out))
      replace HB := hide (HB.out.trans (hb2.mono HB.out.size))
      clear hb2
      go_wp2_with fail
      refine (awake40 _ (std_next HS.out HB.out)).mono ?_
      rintro e w3 ⟨rfl, hb3⟩
      replace K_x := hide (Blk.below K_x.out hb3 (Blk.lt K_x.out))
      replace K_y := hide (Blk.below K_y.out hb3 (Blk.lt K_y.out))
      replace HB := hide (HB.out.trans (hb3.mono HB.out.size))
      clear hb3
      go_wp2_with fail
      go_ret
      exact ⟨rfl, HB.out⟩
  · have H1 := hide (Bool.not_eq_true _ ▸ h1 : shortB [s0.data.toList, s1.data.toList, s2.data.toList, s3.data.toList, s4.data.toList, s5.data.toList] = false)
    clear h1
    go_enter Tryz.func7, Tryz.ntmps7
    go_upto_region 1 with (fail)
    generalize ((w.alloc (.cells #[.string s0, .string s1, .string s2, .string s3, .string s4, .string s5] 25)).alloc (.cells #[.string t0, .string t1, .string t2, .string t3, .string t4, .string t5] 25)) = w0 at *
    replace K_x := hide K_x
    replace K_y := hide K_y
    replace HB := hide HB
    have x0 := (Blk.cell K_x.out 0).trans (rfl : _ = some (Value.string s0))
    have x1 := (Blk.cell K_x.out 1).trans (rfl : _ = some (Value.string s1))
    have x2 := (Blk.cell K_x.out 2).trans (rfl : _ = some (Value.string s2))
    have x3 := (Blk.cell K_x.out 3).trans (rfl : _ = some (Value.string s3))
    have x4 := (Blk.cell K_x.out 4).trans (rfl : _ = some (Value.string s4))
    have x5 := (Blk.cell K_x.out 5).trans (rfl : _ = some (Value.string s5))
    go_wp2_with fail
    refine (rtShort_any _ s0 s1 s2 s3 s4 s5).mono ?_
    rw [H1.out]
    rintro e w1 ⟨rfl, hb1⟩
    clear x0 x1 x2 x3 x4 x5
    replace K_x := hide (Blk.below K_x.out hb1 (Blk.lt K_x.out))
    replace K_y := hide (Blk.below K_y.out hb1 (Blk.lt K_y.out))
    replace HB := hide (HB.out.trans (hb1.mono HB.out.size))
    clear hb1
    go_wp2_with fail
    refine (awake40 _ (std_next HS.out HB.out)).mono ?_
    rintro e w2 ⟨rfl, hb2⟩
    replace K_x := hide (Blk.below K_x.out hb2 (Blk.lt K_x.out))
    replace K_y := hide (Blk.below K_y.out hb2 (Blk.lt K_y.out))
    replace HB := hide (HB.out.trans (hb2.mono HB.out.size))
    clear hb2
    go_wp2_with fail
    go_ret
    exact ⟨rfl, HB.out⟩
end Go.Proofs.YtdkilkliccljeaaGreatDoor
