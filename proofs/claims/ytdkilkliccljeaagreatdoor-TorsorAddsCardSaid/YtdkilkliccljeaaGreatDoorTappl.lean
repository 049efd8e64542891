/- law 40: TorsorApplies. -/
import Derived.Test.YtdkilkliccljeaaGreatDoorTawake
namespace Go.Proofs.YtdkilkliccljeaaGreatDoor
open Go.RowKit MLab

theorem shortB_len {L : List (List UInt8)} (h : shortB L = true) : ∀ l ∈ L, l.length ≤ 24 := fun l hl => of_decide_eq_true (List.all_eq_true.1 h l hl)
/-- The numbers of short right texts. -/
theorem short_six {s0 s1 s2 s3 s4 s5 : ByteArray} (h : shortB [s0.data.toList, s1.data.toList, s2.data.toList, s3.data.toList, s4.data.toList, s5.data.toList] = true) (hc : chkRs [s0.data.toList, s1.data.toList, s2.data.toList, s3.data.toList, s4.data.toList, s5.data.toList] = 0) : ∃ q : Nat → Rat, (∀ i, Sz 24 24 (q i)) ∧ s0 = ⟨(RT (q 0)).toArray⟩ ∧ s1 = ⟨(RT (q 1)).toArray⟩ ∧ s2 = ⟨(RT (q 2)).toArray⟩ ∧ s3 = ⟨(RT (q 3)).toArray⟩ ∧ s4 = ⟨(RT (q 4)).toArray⟩ ∧ s5 = ⟨(RT (q 5)).toArray⟩ := by
  have hl := shortB_len h
  obtain ⟨Q, hQ, hF⟩ := chkRs_zero hc
  have key : ∀ l ∈ [s0.data.toList, s1.data.toList, s2.data.toList, s3.data.toList, s4.data.toList, s5.data.toList], ∃ q, l = RT q ∧ Sz 24 24 q := by
    intro l hm
    have h1 : l ∈ Q.map RT := hQ ▸ hm
    obtain ⟨p, hp, rfl⟩ := List.mem_map.1 h1
    exact short_sz (by omega) (chkR_RT (hF p hp)) (hl _ hm)
  obtain ⟨q0, e0, z0⟩ := key s0.data.toList (by simp)
  obtain ⟨q1, e1, z1⟩ := key s1.data.toList (by simp)
  obtain ⟨q2, e2, z2⟩ := key s2.data.toList (by simp)
  obtain ⟨q3, e3, z3⟩ := key s3.data.toList (by simp)
  obtain ⟨q4, e4, z4⟩ := key s4.data.toList (by simp)
  obtain ⟨q5, e5, z5⟩ := key s5.data.toList (by simp)
  refine ⟨fun i => match i with | 0 => q0 | 1 => q1 | 2 => q2 | 3 => q3 | 4 => q4 | _ => q5, fun i => ?_, ba_eq e0, ba_eq e1, ba_eq e2, ba_eq e3, ba_eq e4, ba_eq e5⟩
  match i with
  | 0 => exact z0
  | 1 => exact z1
  | 2 => exact z2
  | 3 => exact z3
  | 4 => exact z4
  | _ + 5 => exact z5

theorem apply_both (s0 s1 s2 s3 s4 s5 : ByteArray) (x y z : Int) (h : shortB [s0.data.toList, s1.data.toList, s2.data.toList, s3.data.toList, s4.data.toList, s5.data.toList] = true) : ∃ (a0 a1 a2 : ByteArray) (c : Int), (a0.size ≤ 1000 ∧ a1.size ≤ 1000 ∧ a2.size ≤ 1000) ∧
    (∀ w, Std w → Calls Tryz.prog 12 #[.agg #[.string s0, .string s1, .string s2, .string s3, .string s4, .string s5], .agg #[.int .i64 x, .int .i64 y, .int .i64 z]] w fun e w' => e = .returned (.tuple #[.agg #[.string a0, .string a1, .string a2], .int .i64 c]) ∧ Below w.heap.size w w') ∧
    (∀ w, Calls Tryz.prog 13 #[.agg #[.string s0, .string s1, .string s2, .string s3, .string s4, .string s5], .agg #[.int .i64 x, .int .i64 y, .int .i64 z]] w fun e w' => e = .returned (.tuple #[.agg #[.string a0, .string a1, .string a2], .int .i64 c]) ∧ Below w.heap.size w w') := by
  have hl := shortB_len h
  have hz : (⟨#[]⟩ : ByteArray).size ≤ 1000 := by decide
  by_cases hc : chkRs [s0.data.toList, s1.data.toList, s2.data.toList, s3.data.toList, s4.data.toList, s5.data.toList] = 0
  · by_cases hw : Co x ∧ Co y ∧ Co z
    · obtain ⟨q, hq, rfl, rfl, rfl, rfl, rfl, rfl⟩ := short_six h hc
      have hsz : ∀ k, (⟨(RT (mvd k x y z q)).toArray⟩ : ByteArray).size ≤ 1000 := fun k => by
        have := RT_len_sz (by omega) (mvd_sz k hw.1.cb hw.2.1.cb hw.2.2.cb (fun i _ => hq i))
        rw [Lib.size_eq]; show (RT (mvd k x y z q)).length ≤ 1000; omega
      exact ⟨_, _, _, 0, ⟨hsz 0, hsz 1, hsz 2⟩, fun w hs => tapply_ok w _ _ _ _ _ _ q x y z (m := 24) (by omega) (fun i _ => hq i) ⟨rfl, rfl, rfl, rfl, rfl, rfl⟩ hw hs, fun w => rtapply_ok w x y z q (m := 24) (by omega) (fun i _ => hq i) hw⟩
    · exact ⟨_, _, _, 2, ⟨hz, hz, hz⟩, fun w hs => tapply_spot w _ _ _ _ _ _ x y z hc hw (fun l hm => by have := hl l hm; omega) hs, fun w => rtapply_spot w _ _ _ _ _ _ x y z hc hw (fun l hm => by have := hl l hm; omega)⟩
  · exact ⟨_, _, _, _, ⟨hz, hz, hz⟩, fun w hs => tapply_bad w _ _ _ _ _ _ x y z _ rfl hc (fun l hm => by have := hl l hm; omega) hs, fun w => rtapply_bad w _ _ _ _ _ _ x y z _ rfl hc (fun l hm => by have := hl l hm; omega)⟩

set_option maxRecDepth 100000 in
set_option maxHeartbeats 8000000 in
theorem applies_any (w : World) (s0 s1 s2 s3 s4 s5 : ByteArray) (x y z : Int) (hs : Std w) : Calls Tryz.prog 3 #[.agg #[.string s0, .string s1, .string s2, .string s3, .string s4, .string s5], .agg #[.int .i64 x, .int .i64 y, .int .i64 z]] w fun e w' => e = .returned (.bool true) ∧ Below w.heap.size w w' := by
  have hb0 := allocs_below w [.cells #[.string s0, .string s1, .string s2, .string s3, .string s4, .string s5] 25, .cells #[.int .i64 x, .int .i64 y, .int .i64 z] 27]
  have hk0 : Blk (allocs w [.cells #[.string s0, .string s1, .string s2, .string s3, .string s4, .string s5] 25, .cells #[.int .i64 x, .int .i64 y, .int .i64 z] 27]) (w.heap.size + 0) 25 #[.string s0, .string s1, .string s2, .string s3, .string s4, .string s5] := allocs_at w [.cells #[.string s0, .string s1, .string s2, .string s3, .string s4, .string s5] 25, .cells #[.int .i64 x, .int .i64 y, .int .i64 z] 27] 0 rfl
  have hk1 : Blk (allocs w [.cells #[.string s0, .string s1, .string s2, .string s3, .string s4, .string s5] 25, .cells #[.int .i64 x, .int .i64 y, .int .i64 z] 27]) (w.heap.size + 1) 27 #[.int .i64 x, .int .i64 y, .int .i64 z] := allocs_at w [.cells #[.string s0, .string s1, .string s2, .string s3, .string s4, .string s5] 25, .cells #[.int .i64 x, .int .i64 y, .int .i64 z] 27] 1 rfl
  unfold allocs at hb0 hk0 hk1
  simp only [List.foldl_cons, List.foldl_nil] at hb0 hk0 hk1
  rw [Nat.add_zero] at hk0
  have HS := hide hs
  have HB0 := hide hb0
  have K0 := hide hk0
  have K1 := hide hk1
  clear hs hb0 hk0 hk1
  by_cases hsh : shortB [s0.data.toList, s1.data.toList, s2.data.toList, s3.data.toList, s4.data.toList, s5.data.toList] = true
  · obtain ⟨a0, a1, a2, c, hz, hA, hB⟩ := apply_both s0 s1 s2 s3 s4 s5 x y z hsh
    have HA := hide hA
    have HB := hide hB
    have hck := (fun l hm => by have := shortB_len hsh l hm; omega : ∀ l ∈ [s0.data.toList, s1.data.toList, s2.data.toList, s3.data.toList, s4.data.toList, s5.data.toList], l.length ≤ 200000)
    have HCK := hide hck
    have HD := hide hsh
    have e1 := fun w => self_r3 a0 a1 a2 (by unfold maxLen; omega) (by unfold maxLen; omega) (by unfold maxLen; omega) w
    have e2 := fun w => self_tor ⟨#[48]⟩ ⟨#[48]⟩ ⟨#[48]⟩ ⟨#[48]⟩ ⟨#[48]⟩ ⟨#[48]⟩ (by decide) (by decide) (by decide) (by decide) (by decide) (by decide) w
    obtain ⟨d, hd⟩ : ∃ d, chkRs [s0.data.toList, s1.data.toList, s2.data.toList, s3.data.toList, s4.data.toList, s5.data.toList] = d := ⟨_, rfl⟩
    have C1 := fun w hs => tCheck_any w s0 s1 s2 s3 s4 s5 (fun l hm => by have := HCK.out l hm; omega) hs
    have C2 := fun w => rtCheck_any w s0 s1 s2 s3 s4 s5 HCK.out
    rw [hd] at C1 C2
    have HC1 := hide C1
    have HC2 := hide C2
    clear hA hB hck hsh hz C1 C2 hd
    go_enter Tryz.func3, Tryz.ntmps3
    go_wp2_with fail
    refine (rtShort_any _ s0 s1 s2 s3 s4 s5).mono ?_
    rw [HD.out]
    rintro e w1 ⟨rfl, hb1⟩
    have HB1 := hide (HB0.out.trans (hb1.mono HB0.out.size))
    have L1 := hide hb1
    clear hb1
    have th := Blk.below K0.out L1.out (Blk.lt K0.out)
    have t0 : w1.cell? ⟨w.heap.size, 0, none⟩ = some (.string s0) := (Blk.cell th 0).trans rfl
    have t1 : w1.cell? ⟨w.heap.size, 1, none⟩ = some (.string s1) := (Blk.cell th 1).trans rfl
    have t2 : w1.cell? ⟨w.heap.size, 2, none⟩ = some (.string s2) := (Blk.cell th 2).trans rfl
    have t3 : w1.cell? ⟨w.heap.size, 3, none⟩ = some (.string s3) := (Blk.cell th 3).trans rfl
    have t4 : w1.cell? ⟨w.heap.size, 4, none⟩ = some (.string s4) := (Blk.cell th 4).trans rfl
    have t5 : w1.cell? ⟨w.heap.size, 5, none⟩ = some (.string s5) := (Blk.cell th 5).trans rfl
    clear th
    have ph := Blk.below K1.out L1.out (Blk.lt K1.out)
    have p0 : w1.cell? ⟨w.heap.size + 1, 0, none⟩ = some (.int .i64 x) := (Blk.cell ph 0).trans rfl
    have p1 : w1.cell? ⟨w.heap.size + 1, 1, none⟩ = some (.int .i64 y) := (Blk.cell ph 1).trans rfl
    have p2 : w1.cell? ⟨w.heap.size + 1, 2, none⟩ = some (.int .i64 z) := (Blk.cell ph 2).trans rfl
    clear ph
    go_wp2_with fail
    refine (HA.out _ (std_next HS.out HB1.out)).mono ?_
    rintro e w2 ⟨rfl, hb2⟩
    have hl2 := L1.out.trans (hb2.mono L1.out.size)
    have hn2 := Blk.new w2 23 #[.string a0, .string a1, .string a2]
    have B2 := hide (HB1.out.trans (hb2.mono HB1.out.size))
    clear hb2 t0 t1 t2 t3 t4 t5 p0 p1 p2
    have H2 := hide hl2
    have N2 := hide hn2
    have B3 := hide (B2.out.alloc B2.out.size (.cells #[.string a0, .string a1, .string a2] 23))
    have hl3 := hl2.alloc hl2.size (.cells #[.string a0, .string a1, .string a2] 23)
    clear hl2 hn2
    go_upto_region 4 with (fail)
    generalize hw3 : w2.alloc (.cells #[.string a0, .string a1, .string a2] 23) = w3 at *
    have L3 := hide hl3
    clear hl3 hw3
    have th := Blk.below K0.out L3.out (Blk.lt K0.out)
    have t0 : w3.cell? ⟨w.heap.size, 0, none⟩ = some (.string s0) := (Blk.cell th 0).trans rfl
    have t1 : w3.cell? ⟨w.heap.size, 1, none⟩ = some (.string s1) := (Blk.cell th 1).trans rfl
    have t2 : w3.cell? ⟨w.heap.size, 2, none⟩ = some (.string s2) := (Blk.cell th 2).trans rfl
    have t3 : w3.cell? ⟨w.heap.size, 3, none⟩ = some (.string s3) := (Blk.cell th 3).trans rfl
    have t4 : w3.cell? ⟨w.heap.size, 4, none⟩ = some (.string s4) := (Blk.cell th 4).trans rfl
    have t5 : w3.cell? ⟨w.heap.size, 5, none⟩ = some (.string s5) := (Blk.cell th 5).trans rfl
    clear th
    have ph := Blk.below K1.out L3.out (Blk.lt K1.out)
    have p0 : w3.cell? ⟨w.heap.size + 1, 0, none⟩ = some (.int .i64 x) := (Blk.cell ph 0).trans rfl
    have p1 : w3.cell? ⟨w.heap.size + 1, 1, none⟩ = some (.int .i64 y) := (Blk.cell ph 1).trans rfl
    have p2 : w3.cell? ⟨w.heap.size + 1, 2, none⟩ = some (.int .i64 z) := (Blk.cell ph 2).trans rfl
    clear ph
    go_wp2_with fail
    refine (HB.out _).mono ?_
    rintro e w4 ⟨rfl, hb4⟩
    have hl4 := L3.out.trans (hb4.mono L3.out.size)
    have hn4 := Blk.new w4 23 #[.string a0, .string a1, .string a2]
    have hk2 := Blk.below N2.out hb4 (Blk.lt N2.out)
    have B4 := hide (B3.out.trans (hb4.mono B3.out.size))
    clear hb4 t0 t1 t2 t3 t4 t5 p0 p1 p2
    have hk4 := hk2.alloc (.cells #[.string a0, .string a1, .string a2] 23)
    have hl5 := hl4.alloc hl4.size (.cells #[.string a0, .string a1, .string a2] 23)
    have B5 := hide (B4.out.alloc B4.out.size (.cells #[.string a0, .string a1, .string a2] 23))
    clear hl4 hk2
    go_upto_region 5 with (fail)
    generalize hw5 : w4.alloc (.cells #[.string a0, .string a1, .string a2] 23) = w5 at *
    have L5 := hide hl5
    have N4 := hide hn4
    have M4 := hide hk4
    clear hl5 hw5 hn4 hk4
    have th := Blk.below K0.out L5.out (Blk.lt K0.out)
    have t0 : w5.cell? ⟨w.heap.size, 0, none⟩ = some (.string s0) := (Blk.cell th 0).trans rfl
    have t1 : w5.cell? ⟨w.heap.size, 1, none⟩ = some (.string s1) := (Blk.cell th 1).trans rfl
    have t2 : w5.cell? ⟨w.heap.size, 2, none⟩ = some (.string s2) := (Blk.cell th 2).trans rfl
    have t3 : w5.cell? ⟨w.heap.size, 3, none⟩ = some (.string s3) := (Blk.cell th 3).trans rfl
    have t4 : w5.cell? ⟨w.heap.size, 4, none⟩ = some (.string s4) := (Blk.cell th 4).trans rfl
    have t5 : w5.cell? ⟨w.heap.size, 5, none⟩ = some (.string s5) := (Blk.cell th 5).trans rfl
    clear th
    have u0 : w5.cell? ⟨w2.heap.size, 0, none⟩ = some (.string a0) := (Blk.cell M4.out 0).trans rfl
    have u1 : w5.cell? ⟨w2.heap.size, 1, none⟩ = some (.string a1) := (Blk.cell M4.out 1).trans rfl
    have u2 : w5.cell? ⟨w2.heap.size, 2, none⟩ = some (.string a2) := (Blk.cell M4.out 2).trans rfl
    have v0 : w5.cell? ⟨w4.heap.size, 0, none⟩ = some (.string a0) := (Blk.cell N4.out 0).trans rfl
    have v1 : w5.cell? ⟨w4.heap.size, 1, none⟩ = some (.string a1) := (Blk.cell N4.out 1).trans rfl
    have v2 : w5.cell? ⟨w4.heap.size, 2, none⟩ = some (.string a2) := (Blk.cell N4.out 2).trans rfl
    have SK : ∀ w', Below w5.heap.size w5 w' → Below w5.heap.size w5 w' ∧ w'.cell? ⟨w.heap.size, 0, none⟩ = some (.string s0) ∧ w'.cell? ⟨w.heap.size, 1, none⟩ = some (.string s1) ∧ w'.cell? ⟨w.heap.size, 2, none⟩ = some (.string s2) ∧ w'.cell? ⟨w.heap.size, 3, none⟩ = some (.string s3) ∧ w'.cell? ⟨w.heap.size, 4, none⟩ = some (.string s4) ∧ w'.cell? ⟨w.heap.size, 5, none⟩ = some (.string s5) ∧ w'.cell? ⟨w2.heap.size, 0, none⟩ = some (.string a0) ∧ w'.cell? ⟨w2.heap.size, 1, none⟩ = some (.string a1) ∧ w'.cell? ⟨w2.heap.size, 2, none⟩ = some (.string a2) ∧ w'.cell? ⟨w4.heap.size, 0, none⟩ = some (.string a0) ∧ w'.cell? ⟨w4.heap.size, 1, none⟩ = some (.string a1) ∧ w'.cell? ⟨w4.heap.size, 2, none⟩ = some (.string a2) := fun w' h => ⟨h, (bcell h _ _ (block_lt_of_cell t0)).trans t0, (bcell h _ _ (block_lt_of_cell t1)).trans t1, (bcell h _ _ (block_lt_of_cell t2)).trans t2, (bcell h _ _ (block_lt_of_cell t3)).trans t3, (bcell h _ _ (block_lt_of_cell t4)).trans t4, (bcell h _ _ (block_lt_of_cell t5)).trans t5, (bcell h _ _ (block_lt_of_cell u0)).trans u0, (bcell h _ _ (block_lt_of_cell u1)).trans u1, (bcell h _ _ (block_lt_of_cell u2)).trans u2, (bcell h _ _ (block_lt_of_cell v0)).trans v0, (bcell h _ _ (block_lt_of_cell v1)).trans v1, (bcell h _ _ (block_lt_of_cell v2)).trans v2⟩
    have SS' : ∀ {R : Prop} {W : World}, Below w5.heap.size w5 W ∧ R → Std W := fun h => HS.out.below (B5.out.trans (h.1.mono B5.out.size)) (Nat.le_refl _)
    go_region_held3 (fun w' => Below w5.heap.size w5 w' ∧ w'.cell? ⟨w.heap.size, 0, none⟩ = some (.string s0) ∧ w'.cell? ⟨w.heap.size, 1, none⟩ = some (.string s1) ∧ w'.cell? ⟨w.heap.size, 2, none⟩ = some (.string s2) ∧ w'.cell? ⟨w.heap.size, 3, none⟩ = some (.string s3) ∧ w'.cell? ⟨w.heap.size, 4, none⟩ = some (.string s4) ∧ w'.cell? ⟨w.heap.size, 5, none⟩ = some (.string s5) ∧ w'.cell? ⟨w2.heap.size, 0, none⟩ = some (.string a0) ∧ w'.cell? ⟨w2.heap.size, 1, none⟩ = some (.string a1) ∧ w'.cell? ⟨w2.heap.size, 2, none⟩ = some (.string a2) ∧ w'.cell? ⟨w4.heap.size, 0, none⟩ = some (.string a0) ∧ w'.cell? ⟨w4.heap.size, 1, none⟩ = some (.string a1) ∧ w'.cell? ⟨w4.heap.size, 2, none⟩ = some (.string a2)) (first | exact SK _ (Below.refl _ _).drew | exact SK _ (Below.refl _ _) | exact SK _ (bel_next (by assumption) (by assumption) (Nat.le_refl _)))
      (first
        | (go_at_call 14; refine (HC1.out _ (SS' (by assumption))).mono ?_; rintro e wx ⟨rfl, hbW⟩)
        | (go_at_call 15; refine (HC2.out _).mono ?_; rintro e wx ⟨rfl, hbW⟩)
        | (go_at_call 16; refine (tzero_any _).mono ?_; rintro e wx ⟨rfl, hbW⟩)
        | (go_at_call 17; refine (rtzero_any _).mono ?_; rintro e wx ⟨rfl, hbW⟩)
        | (go_at_call 11; refine (awake40 _ (SS' (by assumption))).mono ?_; rintro e wx ⟨rfl, hbW⟩))
    obtain ⟨hbx, _⟩ : Below w5.heap.size w5 _ ∧ _ := by assumption
    have HX := hide (B5.out.trans (hbx.mono B5.out.size))
    clear hbx
    go_wp2_with fail
    go_ret
    exact ⟨rfl, HX.out⟩
  · have HD := hide (Bool.not_eq_true _ ▸ hsh : shortB [s0.data.toList, s1.data.toList, s2.data.toList, s3.data.toList, s4.data.toList, s5.data.toList] = false)
    clear hsh
    go_enter Tryz.func3, Tryz.ntmps3
    go_wp2_with fail
    refine (rtShort_any _ s0 s1 s2 s3 s4 s5).mono ?_
    rw [HD.out]
    rintro e w1 ⟨rfl, hb1⟩
    have HB1 := hide (HB0.out.trans (hb1.mono HB0.out.size))
    clear hb1
    go_wp2_with fail
    refine (awake40 _ (std_next HS.out HB1.out)).mono ?_
    rintro e w2 ⟨rfl, hb2⟩
    have HB2 := hide (HB1.out.trans (hb2.mono HB1.out.size))
    clear hb2
    go_wp2_with fail
    go_ret
    exact ⟨rfl, HB2.out⟩
end Go.Proofs.YtdkilkliccljeaaGreatDoor
