/- law 40: TorsorKeeps. -/
import Derived.Test.YtdkilkliccljeaaGreatDoorTplace
namespace Go.Proofs.YtdkilkliccljeaaGreatDoor
open Go.RowKit MLab

/-- The partial sums of the products of a difference and what it lacks of the displacements' difference. -/
def ksum (n : Nat → Int) (a b : Nat → Rat) : Nat → Rat
  | 0 => 0
  | j + 1 => ksum n a b j + (n j : Rat) * ((a j - b j) - (n j : Rat))
theorem kterm_sz {n : Nat → Int} {a b : Nat → Rat} {j : Nat} (hn : Cb (n j)) (ha : Sz 163 156 (a j)) (hb : Sz 163 156 (b j)) : Sz 320 320 (a j - b j) ∧ Sz 321 321 ((a j - b j) - (n j : Rat)) ∧ Sz 327 312 ((n j : Rat) * ((a j - b j) - (n j : Rat))) := by
  have h1 : Sz 320 312 (a j - b j) := Sz.sub (m := 319) ha hb (by omega) (by omega)
  have h2 : Sz 321 312 ((a j - b j) - (n j : Rat)) := (Sz.sub (m := 320) h1 hn.sz (by omega) (by omega)).mono (by omega) (by omega)
  have h3 := Sz.mul hn.sz h2
  exact ⟨h1.mono (by omega) (by omega), h2.mono (by omega) (by omega), h3.mono (by omega) (by omega)⟩
theorem ksum_sz {n : Nat → Int} {a b : Nat → Rat} (hn : ∀ i, i < 3 → Cb (n i)) (ha : ∀ i, i < 3 → Sz 163 156 (a i)) (hb : ∀ i, i < 3 → Sz 163 156 (b i)) (j : Nat) (hj : j < 3) : Sz 641 641 (ksum n a b j) := by
  have t0 := (kterm_sz (hn 0 (by omega)) (ha 0 (by omega)) (hb 0 (by omega))).2.2
  have t1 := (kterm_sz (hn 1 (by omega)) (ha 1 (by omega)) (hb 1 (by omega))).2.2
  have s1 : Sz 328 312 (ksum n a b 1) := (Sz.add (m := 327) (sz_zero 0 0) t0 (by omega) (by omega)).mono (by omega) (by omega)
  have s2 : Sz 641 624 (ksum n a b 2) := (Sz.add (m := 640) s1 t1 (by omega) (by omega)).mono (by omega) (by omega)
  match j, hj with
  | 0, _ => exact sz_zero _ _
  | 1, _ => exact s1.mono (by omega) (by omega)
  | 2, _ => exact s2.mono (by omega) (by omega)
def kn (px py pz qx qy qz : Int) : Nat → Int := fun i => coo i (px - qx) (py - qy) (pz - qz)
theorem ksum_end (px py pz qx qy qz : Int) (q : Nat → Rat) : ksum (kn px py pz qx qy qz) (fun i => mvd i px py pz q) (fun i => mvd i qx qy qz q) 3 = 0 := keeps_zero px py pz qx qy qz q
theorem kn_cb {px py pz qx qy qz : Int} (hp : Co px ∧ Co py ∧ Co pz) (hq : Co qx ∧ Co qy ∧ Co qz) (i : Nat) : Cb (kn px py pz qx qy qz i) := by
  obtain ⟨a, b, c⟩ := hp
  obtain ⟨d, e, f⟩ := hq
  have k : ∀ {x y : Int}, Co x → Co y → Cb (x - y) := fun h1 h2 => by unfold Cb; have := h1.1; have := h1.2; have := h2.1; have := h2.2; omega
  unfold kn coo
  split
  · exact k a d
  · exact k b e
  · exact k c f
theorem RT_pos (q : Rat) : 0 < (⟨(RT q).toArray⟩ : ByteArray).size := by
  rw [Lib.size_eq]
  show 0 < (RT q).length
  unfold RT
  split
  · exact List.length_pos_iff.2 (T_ne _)
  · rw [List.length_append, List.length_cons]; omega
theorem beq_int_self (c : Int) : (c == c) = true := by simp

set_option maxRecDepth 100000 in
set_option maxHeartbeats 1500000 in
theorem keeps_any (w : World) (s0 s1 s2 s3 s4 s5 : ByteArray) (px py pz qx qy qz : Int) (hs : Std w) :
    Calls Tryz.prog 6 #[.agg #[.string s0, .string s1, .string s2, .string s3, .string s4, .string s5], .agg #[.int .i64 px, .int .i64 py, .int .i64 pz], .agg #[.int .i64 qx, .int .i64 qy, .int .i64 qz]] w fun e w' => e = .returned (.bool true) ∧ Below w.heap.size w w' := by
  have HB := allocs_below w [.cells #[.string s0, .string s1, .string s2, .string s3, .string s4, .string s5] 25, .cells #[.int .i64 px, .int .i64 py, .int .i64 pz] 27, .cells #[.int .i64 qx, .int .i64 qy, .int .i64 qz] 27]
  have K_t : Blk (allocs w [.cells #[.string s0, .string s1, .string s2, .string s3, .string s4, .string s5] 25, .cells #[.int .i64 px, .int .i64 py, .int .i64 pz] 27, .cells #[.int .i64 qx, .int .i64 qy, .int .i64 qz] 27]) (w.heap.size + 0) 25 #[.string s0, .string s1, .string s2, .string s3, .string s4, .string s5] := allocs_at w [.cells #[.string s0, .string s1, .string s2, .string s3, .string s4, .string s5] 25, .cells #[.int .i64 px, .int .i64 py, .int .i64 pz] 27, .cells #[.int .i64 qx, .int .i64 qy, .int .i64 qz] 27] 0 rfl
  have K_p : Blk (allocs w [.cells #[.string s0, .string s1, .string s2, .string s3, .string s4, .string s5] 25, .cells #[.int .i64 px, .int .i64 py, .int .i64 pz] 27, .cells #[.int .i64 qx, .int .i64 qy, .int .i64 qz] 27]) (w.heap.size + 1) 27 #[.int .i64 px, .int .i64 py, .int .i64 pz] := allocs_at w [.cells #[.string s0, .string s1, .string s2, .string s3, .string s4, .string s5] 25, .cells #[.int .i64 px, .int .i64 py, .int .i64 pz] 27, .cells #[.int .i64 qx, .int .i64 qy, .int .i64 qz] 27] 1 rfl
  have K_q : Blk (allocs w [.cells #[.string s0, .string s1, .string s2, .string s3, .string s4, .string s5] 25, .cells #[.int .i64 px, .int .i64 py, .int .i64 pz] 27, .cells #[.int .i64 qx, .int .i64 qy, .int .i64 qz] 27]) (w.heap.size + 2) 27 #[.int .i64 qx, .int .i64 qy, .int .i64 qz] := allocs_at w [.cells #[.string s0, .string s1, .string s2, .string s3, .string s4, .string s5] 25, .cells #[.int .i64 px, .int .i64 py, .int .i64 pz] 27, .cells #[.int .i64 qx, .int .i64 qy, .int .i64 qz] 27] 2 rfl
  unfold allocs at HB K_t K_p K_q
  simp only [List.foldl_cons, List.foldl_nil] at HB K_t K_p K_q
  rw [Nat.add_zero] at K_t
  have HS := hide hs
  clear hs
  by_cases hr : shortB [s0.data.toList, s1.data.toList, s2.data.toList, s3.data.toList, s4.data.toList, s5.data.toList] = true ∧ chkRs [s0.data.toList, s1.data.toList, s2.data.toList, s3.data.toList, s4.data.toList, s5.data.toList] = 0
  · by_cases hp : Co px ∧ Co py ∧ Co pz
    · by_cases hq : Co qx ∧ Co qy ∧ Co qz
      · have HR := hide (decide_eq_true hr)
        have HD := hide (decide_eq_true hp)
        have HE := hide (decide_eq_true hq)
        have HCP := hide hp
        have HCQ := hide hq
        obtain ⟨q, hz, rfl, rfl, rfl, rfl, rfl, rfl⟩ := short_six hr.1 hr.2
        have HZ := hide hz
        have HP := hide (fun w hs => tapply_ok w ⟨(RT (q 0)).toArray⟩ ⟨(RT (q 1)).toArray⟩ ⟨(RT (q 2)).toArray⟩ ⟨(RT (q 3)).toArray⟩ ⟨(RT (q 4)).toArray⟩ ⟨(RT (q 5)).toArray⟩ q px py pz (m := 24) (by omega) (fun i _ => hz i) ⟨rfl, rfl, rfl, rfl, rfl, rfl⟩ hp hs)
        have HQ := hide (fun w hs => tapply_ok w ⟨(RT (q 0)).toArray⟩ ⟨(RT (q 1)).toArray⟩ ⟨(RT (q 2)).toArray⟩ ⟨(RT (q 3)).toArray⟩ ⟨(RT (q 4)).toArray⟩ ⟨(RT (q 5)).toArray⟩ q qx qy qz (m := 24) (by omega) (fun i _ => hz i) ⟨rfl, rfl, rfl, rfl, rfl, rfl⟩ hq hs)
        have za : ∀ i, Sz 163 156 (mvd i px py pz q) := fun i => (mvd_sz (m := 24) i hp.1.cb hp.2.1.cb hp.2.2.cb (fun i _ => hz i)).mono (by omega) (by omega)
        have zb : ∀ i, Sz 163 156 (mvd i qx qy qz q) := fun i => (mvd_sz (m := 24) i hq.1.cb hq.2.1.cb hq.2.2.cb (fun i _ => hz i)).mono (by omega) (by omega)
        have pl : ∀ a b c : Rat, Sz 163 156 a → Sz 163 156 b → Sz 163 156 c → ∀ w, Calls Tryz.prog 27 #[.agg #[.string ⟨(RT a).toArray⟩, .string ⟨(RT b).toArray⟩, .string ⟨(RT c).toArray⟩]] w fun e w' => e = .returned (.bool true) ∧ Below w.heap.size w w' := fun a b c ha hb hc w => place_ok w a b c (ha.fit (by omega) (by omega)) (hb.fit (by omega) (by omega)) (hc.fit (by omega) (by omega)) ⟨by have := RT_len_sz (by omega) ha; omega, by have := RT_len_sz (by omega) hb; omega, by have := RT_len_sz (by omega) hc; omega⟩
        have PA := hide (pl _ _ _ (za 0) (za 1) (za 2))
        have PB := hide (pl _ _ _ (zb 0) (zb 1) (zb 2))
        have ZA := hide za
        have ZB := hide zb
        have bd : (-100000 ≤ px ∧ px ≤ 100000) ∧ (-100000 ≤ py ∧ py ≤ 100000) ∧ (-100000 ≤ pz ∧ pz ≤ 100000) := hp
        have bq : (-100000 ≤ qx ∧ qx ≤ 100000) ∧ (-100000 ≤ qy ∧ qy ≤ 100000) ∧ (-100000 ≤ qz ∧ qz ≤ 100000) := hq
        obtain ⟨⟨p1, p2⟩, ⟨p3, p4⟩, p5, p6⟩ := bd
        obtain ⟨⟨q1, q2⟩, ⟨q3, q4⟩, q5, q6⟩ := bq
        clear hr hp hq hz za zb pl
        go_enter Tryz.func6, Tryz.ntmps6
        go_upto_region 1 with (fail)
        generalize (((w.alloc (.cells #[.string ⟨(RT (q 0)).toArray⟩, .string ⟨(RT (q 1)).toArray⟩, .string ⟨(RT (q 2)).toArray⟩, .string ⟨(RT (q 3)).toArray⟩, .string ⟨(RT (q 4)).toArray⟩, .string ⟨(RT (q 5)).toArray⟩] 25)).alloc (.cells #[.int .i64 px, .int .i64 py, .int .i64 pz] 27)).alloc (.cells #[.int .i64 qx, .int .i64 qy, .int .i64 qz] 27)) = w0 at *
        replace K_t := hide K_t
        replace K_p := hide K_p
        replace K_q := hide K_q
        replace HB := hide HB
        have t0 := (Blk.cell K_t.out 0).trans (rfl : _ = some (Value.string ⟨(RT (q 0)).toArray⟩))
        have t1 := (Blk.cell K_t.out 1).trans (rfl : _ = some (Value.string ⟨(RT (q 1)).toArray⟩))
        have t2 := (Blk.cell K_t.out 2).trans (rfl : _ = some (Value.string ⟨(RT (q 2)).toArray⟩))
        have t3 := (Blk.cell K_t.out 3).trans (rfl : _ = some (Value.string ⟨(RT (q 3)).toArray⟩))
        have t4 := (Blk.cell K_t.out 4).trans (rfl : _ = some (Value.string ⟨(RT (q 4)).toArray⟩))
        have t5 := (Blk.cell K_t.out 5).trans (rfl : _ = some (Value.string ⟨(RT (q 5)).toArray⟩))
        go_wp2_with fail
        refine (right_any _ ⟨(RT (q 0)).toArray⟩ ⟨(RT (q 1)).toArray⟩ ⟨(RT (q 2)).toArray⟩ ⟨(RT (q 3)).toArray⟩ ⟨(RT (q 4)).toArray⟩ ⟨(RT (q 5)).toArray⟩).mono ?_
        rw [HR.out]
        rintro e w1 ⟨rfl, hb1⟩
        clear t0 t1 t2 t3 t4 t5
        replace K_t := hide (Blk.below K_t.out hb1 (Blk.lt K_t.out))
        replace K_p := hide (Blk.below K_p.out hb1 (Blk.lt K_p.out))
        replace K_q := hide (Blk.below K_q.out hb1 (Blk.lt K_q.out))
        replace HB := hide (HB.out.trans (hb1.mono HB.out.size))
        clear hb1
        have p0 := (Blk.cell K_p.out 0).trans (rfl : _ = some (Value.int .i64 px))
        have p1 := (Blk.cell K_p.out 1).trans (rfl : _ = some (Value.int .i64 py))
        have p2 := (Blk.cell K_p.out 2).trans (rfl : _ = some (Value.int .i64 pz))
        go_wp2_with fail
        refine (rrights_any _ px py pz).mono ?_
        rw [HD.out]
        rintro e w2 ⟨rfl, hb2⟩
        clear p0 p1 p2
        replace K_t := hide (Blk.below K_t.out hb2 (Blk.lt K_t.out))
        replace K_p := hide (Blk.below K_p.out hb2 (Blk.lt K_p.out))
        replace K_q := hide (Blk.below K_q.out hb2 (Blk.lt K_q.out))
        replace HB := hide (HB.out.trans (hb2.mono HB.out.size))
        clear hb2
        have q0 := (Blk.cell K_q.out 0).trans (rfl : _ = some (Value.int .i64 qx))
        have q1 := (Blk.cell K_q.out 1).trans (rfl : _ = some (Value.int .i64 qy))
        have q2 := (Blk.cell K_q.out 2).trans (rfl : _ = some (Value.int .i64 qz))
        go_wp2_with fail
        refine (rrights_any _ qx qy qz).mono ?_
        rw [HE.out]
        rintro e w3 ⟨rfl, hb3⟩
        clear q0 q1 q2
        replace K_t := hide (Blk.below K_t.out hb3 (Blk.lt K_t.out))
        replace K_p := hide (Blk.below K_p.out hb3 (Blk.lt K_p.out))
        replace K_q := hide (Blk.below K_q.out hb3 (Blk.lt K_q.out))
        replace HB := hide (HB.out.trans (hb3.mono HB.out.size))
        clear hb3
        have t0 := (Blk.cell K_t.out 0).trans (rfl : _ = some (Value.string ⟨(RT (q 0)).toArray⟩))
        have t1 := (Blk.cell K_t.out 1).trans (rfl : _ = some (Value.string ⟨(RT (q 1)).toArray⟩))
        have t2 := (Blk.cell K_t.out 2).trans (rfl : _ = some (Value.string ⟨(RT (q 2)).toArray⟩))
        have t3 := (Blk.cell K_t.out 3).trans (rfl : _ = some (Value.string ⟨(RT (q 3)).toArray⟩))
        have t4 := (Blk.cell K_t.out 4).trans (rfl : _ = some (Value.string ⟨(RT (q 4)).toArray⟩))
        have t5 := (Blk.cell K_t.out 5).trans (rfl : _ = some (Value.string ⟨(RT (q 5)).toArray⟩))
        have p0 := (Blk.cell K_p.out 0).trans (rfl : _ = some (Value.int .i64 px))
        have p1 := (Blk.cell K_p.out 1).trans (rfl : _ = some (Value.int .i64 py))
        have p2 := (Blk.cell K_p.out 2).trans (rfl : _ = some (Value.int .i64 pz))
        go_wp2_with fail
        refine (HP.out _ (std_next HS.out HB.out)).mono ?_
        rintro e w4 ⟨rfl, hb4⟩
        clear t0 t1 t2 t3 t4 t5 p0 p1 p2
        replace K_t := hide (Blk.below K_t.out hb4 (Blk.lt K_t.out))
        replace K_p := hide (Blk.below K_p.out hb4 (Blk.lt K_p.out))
        replace K_q := hide (Blk.below K_q.out hb4 (Blk.lt K_q.out))
        replace HB := hide (HB.out.trans (hb4.mono HB.out.size))
        clear hb4
        go_upto_region 4 with (fail)
        have lt_a_t : w.heap.size < w4.heap.size := Blk.lt K_t.out
        have lt_a_p : w.heap.size + 1 < w4.heap.size := Blk.lt K_p.out
        have lt_a_q : w.heap.size + 2 < w4.heap.size := Blk.lt K_q.out
        replace K_t := K_t.out.alloc (.cells #[.string ⟨(RT (mvd 0 px py pz q)).toArray⟩, .string ⟨(RT (mvd 1 px py pz q)).toArray⟩, .string ⟨(RT (mvd 2 px py pz q)).toArray⟩] 23)
        replace K_p := K_p.out.alloc (.cells #[.string ⟨(RT (mvd 0 px py pz q)).toArray⟩, .string ⟨(RT (mvd 1 px py pz q)).toArray⟩, .string ⟨(RT (mvd 2 px py pz q)).toArray⟩] 23)
        replace K_q := K_q.out.alloc (.cells #[.string ⟨(RT (mvd 0 px py pz q)).toArray⟩, .string ⟨(RT (mvd 1 px py pz q)).toArray⟩, .string ⟨(RT (mvd 2 px py pz q)).toArray⟩] 23)
        replace HB := HB.out.alloc HB.out.size (.cells #[.string ⟨(RT (mvd 0 px py pz q)).toArray⟩, .string ⟨(RT (mvd 1 px py pz q)).toArray⟩, .string ⟨(RT (mvd 2 px py pz q)).toArray⟩] 23)
        have K_a := Blk.new w4 23 #[.string ⟨(RT (mvd 0 px py pz q)).toArray⟩, .string ⟨(RT (mvd 1 px py pz q)).toArray⟩, .string ⟨(RT (mvd 2 px py pz q)).toArray⟩]
        generalize w4.alloc (.cells #[.string ⟨(RT (mvd 0 px py pz q)).toArray⟩, .string ⟨(RT (mvd 1 px py pz q)).toArray⟩, .string ⟨(RT (mvd 2 px py pz q)).toArray⟩] 23) = w5 at *
        replace K_t := hide K_t
        replace K_p := hide K_p
        replace K_q := hide K_q
        replace K_a := hide K_a
        replace HB := hide HB
        have t0 := (Blk.cell K_t.out 0).trans (rfl : _ = some (Value.string ⟨(RT (q 0)).toArray⟩))
        have t1 := (Blk.cell K_t.out 1).trans (rfl : _ = some (Value.string ⟨(RT (q 1)).toArray⟩))
        have t2 := (Blk.cell K_t.out 2).trans (rfl : _ = some (Value.string ⟨(RT (q 2)).toArray⟩))
        have t3 := (Blk.cell K_t.out 3).trans (rfl : _ = some (Value.string ⟨(RT (q 3)).toArray⟩))
        have t4 := (Blk.cell K_t.out 4).trans (rfl : _ = some (Value.string ⟨(RT (q 4)).toArray⟩))
        have t5 := (Blk.cell K_t.out 5).trans (rfl : _ = some (Value.string ⟨(RT (q 5)).toArray⟩))
        have q0 := (Blk.cell K_q.out 0).trans (rfl : _ = some (Value.int .i64 qx))
        have q1 := (Blk.cell K_q.out 1).trans (rfl : _ = some (Value.int .i64 qy))
        have q2 := (Blk.cell K_q.out 2).trans (rfl : _ = some (Value.int .i64 qz))
        go_wp2_with fail
        refine (HQ.out _ (std_next HS.out HB.out)).mono ?_
        rintro e w6 ⟨rfl, hb6⟩
        clear t0 t1 t2 t3 t4 t5 q0 q1 q2
        replace K_t := hide (Blk.below K_t.out hb6 (Blk.lt K_t.out))
        replace K_p := hide (Blk.below K_p.out hb6 (Blk.lt K_p.out))
        replace K_q := hide (Blk.below K_q.out hb6 (Blk.lt K_q.out))
        replace K_a := hide (Blk.below K_a.out hb6 (Blk.lt K_a.out))
        replace HB := hide (HB.out.trans (hb6.mono HB.out.size))
        clear hb6
        go_upto_region 5 with (fail)
        have lt_b_t : w.heap.size < w6.heap.size := Blk.lt K_t.out
        have lt_b_p : w.heap.size + 1 < w6.heap.size := Blk.lt K_p.out
        have lt_b_q : w.heap.size + 2 < w6.heap.size := Blk.lt K_q.out
        have lt_b_a : w4.heap.size < w6.heap.size := Blk.lt K_a.out
        replace K_t := K_t.out.alloc (.cells #[.string ⟨(RT (mvd 0 qx qy qz q)).toArray⟩, .string ⟨(RT (mvd 1 qx qy qz q)).toArray⟩, .string ⟨(RT (mvd 2 qx qy qz q)).toArray⟩] 23)
        replace K_p := K_p.out.alloc (.cells #[.string ⟨(RT (mvd 0 qx qy qz q)).toArray⟩, .string ⟨(RT (mvd 1 qx qy qz q)).toArray⟩, .string ⟨(RT (mvd 2 qx qy qz q)).toArray⟩] 23)
        replace K_q := K_q.out.alloc (.cells #[.string ⟨(RT (mvd 0 qx qy qz q)).toArray⟩, .string ⟨(RT (mvd 1 qx qy qz q)).toArray⟩, .string ⟨(RT (mvd 2 qx qy qz q)).toArray⟩] 23)
        replace K_a := K_a.out.alloc (.cells #[.string ⟨(RT (mvd 0 qx qy qz q)).toArray⟩, .string ⟨(RT (mvd 1 qx qy qz q)).toArray⟩, .string ⟨(RT (mvd 2 qx qy qz q)).toArray⟩] 23)
        replace HB := HB.out.alloc HB.out.size (.cells #[.string ⟨(RT (mvd 0 qx qy qz q)).toArray⟩, .string ⟨(RT (mvd 1 qx qy qz q)).toArray⟩, .string ⟨(RT (mvd 2 qx qy qz q)).toArray⟩] 23)
        have K_b := Blk.new w6 23 #[.string ⟨(RT (mvd 0 qx qy qz q)).toArray⟩, .string ⟨(RT (mvd 1 qx qy qz q)).toArray⟩, .string ⟨(RT (mvd 2 qx qy qz q)).toArray⟩]
        generalize w6.alloc (.cells #[.string ⟨(RT (mvd 0 qx qy qz q)).toArray⟩, .string ⟨(RT (mvd 1 qx qy qz q)).toArray⟩, .string ⟨(RT (mvd 2 qx qy qz q)).toArray⟩] 23) = w7 at *
        replace K_t := hide K_t
        replace K_p := hide K_p
        replace K_q := hide K_q
        replace K_a := hide K_a
        replace K_b := hide K_b
        replace HB := hide HB
        have a0 := (Blk.cell K_a.out 0).trans (rfl : _ = some (Value.string ⟨(RT (mvd 0 px py pz q)).toArray⟩))
        have a1 := (Blk.cell K_a.out 1).trans (rfl : _ = some (Value.string ⟨(RT (mvd 1 px py pz q)).toArray⟩))
        have a2 := (Blk.cell K_a.out 2).trans (rfl : _ = some (Value.string ⟨(RT (mvd 2 px py pz q)).toArray⟩))
        go_wp2_with fail
        refine (PA.out _).mono ?_
        rintro e w8 ⟨rfl, hb8⟩
        clear a0 a1 a2
        replace K_t := hide (Blk.below K_t.out hb8 (Blk.lt K_t.out))
        replace K_p := hide (Blk.below K_p.out hb8 (Blk.lt K_p.out))
        replace K_q := hide (Blk.below K_q.out hb8 (Blk.lt K_q.out))
        replace K_a := hide (Blk.below K_a.out hb8 (Blk.lt K_a.out))
        replace K_b := hide (Blk.below K_b.out hb8 (Blk.lt K_b.out))
        replace HB := hide (HB.out.trans (hb8.mono HB.out.size))
        clear hb8
        have b0 := (Blk.cell K_b.out 0).trans (rfl : _ = some (Value.string ⟨(RT (mvd 0 qx qy qz q)).toArray⟩))
        have b1 := (Blk.cell K_b.out 1).trans (rfl : _ = some (Value.string ⟨(RT (mvd 1 qx qy qz q)).toArray⟩))
        have b2 := (Blk.cell K_b.out 2).trans (rfl : _ = some (Value.string ⟨(RT (mvd 2 qx qy qz q)).toArray⟩))
        go_wp2_with fail
        refine (PB.out _).mono ?_
        rintro e w9 ⟨rfl, hb9⟩
        clear b0 b1 b2
        replace K_t := hide (Blk.below K_t.out hb9 (Blk.lt K_t.out))
        replace K_p := hide (Blk.below K_p.out hb9 (Blk.lt K_p.out))
        replace K_q := hide (Blk.below K_q.out hb9 (Blk.lt K_q.out))
        replace K_a := hide (Blk.below K_a.out hb9 (Blk.lt K_a.out))
        replace K_b := hide (Blk.below K_b.out hb9 (Blk.lt K_b.out))
        replace HB := hide (HB.out.trans (hb9.mono HB.out.size))
        clear hb9
        have p0 := (Blk.cell K_p.out 0).trans (rfl : _ = some (Value.int .i64 px))
        have p1 := (Blk.cell K_p.out 1).trans (rfl : _ = some (Value.int .i64 py))
        have p2 := (Blk.cell K_p.out 2).trans (rfl : _ = some (Value.int .i64 pz))
        have q0 := (Blk.cell K_q.out 0).trans (rfl : _ = some (Value.int .i64 qx))
        have q1 := (Blk.cell K_q.out 1).trans (rfl : _ = some (Value.int .i64 qy))
        have q2 := (Blk.cell K_q.out 2).trans (rfl : _ = some (Value.int .i64 qz))
        have Z0 := hide (show (⟨(RT (ksum (kn px py pz qx qy qz) (fun i => mvd i px py pz q) (fun i => mvd i qx qy qz q) 0)).toArray⟩ : ByteArray) = ⟨#[48]⟩ from ft_zero)
        go_wp2_with fail
        clear p0 p1 p2 q0 q1 q2
        go_loopg [11, 73] 3 (fun n sv iv wr => ∃ j : Nat, iv = .int .i64 (j : Int) ∧ n + j = 3 ∧ sv = .string ⟨(RT (ksum (kn px py pz qx qy qz) (fun i => mvd i px py pz q) (fun i => mvd i qx qy qz q) j)).toArray⟩ ∧ Below w9.heap.size w9 wr)
        case atStart => exact ⟨0, rfl, rfl, by rw [Z0.out], Below.refl _ _⟩
        case round =>
          obtain ⟨j, rfl, hn, rfl, hb⟩ := hrel
          have HN := hide hn
          have HBj := hide hb
          have HBw := hide (HB.out.trans (hb.mono HB.out.size))
          have hile : j ≤ 3 := by omega
          clear hn hb
          by_cases hlt : j < 3
          · have hii : (j : Int) < 3 := by omega
            have hi0 : (0 : Int) ≤ (j : Int) := by omega
            have hci : (#[.int .i64 (px - qx), .int .i64 (py - qy), .int .i64 (pz - qz)] : Array Value)[j]? = some (.int .i64 (kn px py pz qx qy qz j)) := by
              match j, hlt with
              | 0, _ => rfl
              | 1, _ => rfl
              | 2, _ => rfl
            have hidx := idx_int Tryz.underlying56 hlt hci wr
            have hia : (#[.string ⟨(RT (mvd 0 px py pz q)).toArray⟩, .string ⟨(RT (mvd 1 px py pz q)).toArray⟩, .string ⟨(RT (mvd 2 px py pz q)).toArray⟩] : Array Value)[j]? = some (.string ⟨(RT (mvd j px py pz q)).toArray⟩) := by
              match j, hlt with
              | 0, _ => rfl
              | 1, _ => rfl
              | 2, _ => rfl
            have hib : (#[.string ⟨(RT (mvd 0 qx qy qz q)).toArray⟩, .string ⟨(RT (mvd 1 qx qy qz q)).toArray⟩, .string ⟨(RT (mvd 2 qx qy qz q)).toArray⟩] : Array Value)[j]? = some (.string ⟨(RT (mvd j qx qy qz q)).toArray⟩) := by
              match j, hlt with
              | 0, _ => rfl
              | 1, _ => rfl
              | 2, _ => rfl
            have ca := (Blk.cell (Blk.below K_a.out HBj.out (Blk.lt K_a.out)) j).trans hia
            have cb := (Blk.cell (Blk.below K_b.out HBj.out (Blk.lt K_b.out)) j).trans hib
            obtain ⟨A, hA⟩ : ∃ A, A = mvd j px py pz q := ⟨_, rfl⟩
            obtain ⟨B, hB⟩ : ∃ B, B = mvd j qx qy qz q := ⟨_, rfl⟩
            obtain ⟨N, hN⟩ : ∃ N, N = kn px py pz qx qy qz j := ⟨_, rfl⟩
            have hks : (ksum (kn px py pz qx qy qz) (fun i => mvd i px py pz q) (fun i => mvd i qx qy qz q) (j + 1)) = (ksum (kn px py pz qx qy qz) (fun i => mvd i px py pz q) (fun i => mvd i qx qy qz q) j) + (N : Rat) * ((A - B) - (N : Rat)) := by rw [hA, hB, hN]; rfl
            have zk := ksum_sz (n := kn px py pz qx qy qz) (a := fun i => mvd i px py pz q) (b := fun i => mvd i qx qy qz q) (fun i _ => kn_cb HCP.out HCQ.out i) (fun i _ => ZA.out i) (fun i _ => ZB.out i) j hlt
            have zt := kterm_sz (n := kn px py pz qx qy qz) (a := fun i => mvd i px py pz q) (b := fun i => mvd i qx qy qz q) (j := j) (kn_cb HCP.out HCQ.out j) (ZA.out j) (ZB.out j)
            have zn := kn_cb HCP.out HCQ.out j
            have zaj := ZA.out j
            have zbj := ZB.out j
            obtain ⟨K, hK⟩ : ∃ K, K = (ksum (kn px py pz qx qy qz) (fun i => mvd i px py pz q) (fun i => mvd i qx qy qz q) j) := ⟨_, rfl⟩
            rw [← hA, ← hB, ← hN] at zt
            rw [← hN] at zn hidx
            rw [← hA] at zaj ca
            rw [← hB] at zbj cb
            rw [← hK] at zk hks
            have HKS := hide hks
            have HK := hide hK
            have M1 := hide (fun W => rqless_any W ⟨(RT A).toArray⟩ ⟨(RT B).toArray⟩ A B rfl rfl (m := 163) (by omega) (zaj.mono (by omega) (by omega)) (zbj.mono (by omega) (by omega)))
            have M2 := hide (fun W => rqless_any W ⟨(RT (A - B)).toArray⟩ ⟨(RT (N : Rat)).toArray⟩ (A - B) (N : Rat) rfl rfl (m := 320) (by omega) zt.1 (zn.sz.mono (by omega) (by omega)))
            have M3 := hide (fun W => rqtimes_any W ⟨(RT (N : Rat)).toArray⟩ ⟨(RT (A - B - (N : Rat))).toArray⟩ (N : Rat) (A - B - (N : Rat)) rfl rfl (m := 321) (by omega) (zn.sz.mono (by omega) (by omega)) zt.2.1)
            have M4 := hide (fun W => rqplus_any W ⟨(RT K).toArray⟩ ⟨(RT ((N : Rat) * (A - B - (N : Rat)))).toArray⟩ K ((N : Rat) * (A - B - (N : Rat))) rfl rfl (m := 641) (by omega) zk (zt.2.2.mono (by omega) (by omega)))
            have MW := hide (fun W => r2whole_any N (by unfold Cb at zn; omega) (by unfold Cb at zn; omega) W)
            have pA := RT_pos A
            have pB := RT_pos B
            obtain ⟨sA, hsA⟩ : ∃ s : ByteArray, s = ⟨(RT A).toArray⟩ := ⟨_, rfl⟩
            obtain ⟨sB, hsB⟩ : ∃ s : ByteArray, s = ⟨(RT B).toArray⟩ := ⟨_, rfl⟩
            rw [← hsA] at ca pA M1
            rw [← hsB] at cb pB M1
            have nA : ((sA.size : Int) == 0) = false := by rw [beq_eq_false_iff_ne]; omega
            have nB : ((sB.size : Int) == 0) = false := by rw [beq_eq_false_iff_ne]; omega
            have SA := hide hsA
            have SB := hide hsB
            have HNN := hide hN
            rw [← hK]
            clear hks hK hA hB hN hci hia hib zk zt zn zaj zbj hsA hsB
            go_wp2_with fail
            refine (MW.out _).mono ?_
            rintro e v1 ⟨rfl, hv1⟩
            have ca1 := (bcell hv1 _ _ (block_lt_of_cell ca)).trans ca
            have cb1 := (bcell hv1 _ _ (block_lt_of_cell cb)).trans cb
            have HB1 := hide (HBj.out.trans (hv1.mono HBj.out.size))
            clear hv1 ca cb hidx
            have SK : ∀ w', Below v1.heap.size v1 w' → Below v1.heap.size v1 w' ∧ w'.cell? ⟨w4.heap.size, j, none⟩ = some (.string sA) ∧ w'.cell? ⟨w6.heap.size, j, none⟩ = some (.string sB) := fun w' h => ⟨h, (bcell h _ _ (block_lt_of_cell ca1)).trans ca1, (bcell h _ _ (block_lt_of_cell cb1)).trans cb1⟩
            go_upto_region 14 with (fail)
            go_region_held3 (fun w' => Below v1.heap.size v1 w' ∧ w'.cell? ⟨w4.heap.size, j, none⟩ = some (.string sA) ∧ w'.cell? ⟨w6.heap.size, j, none⟩ = some (.string sB)) (first | exact SK _ (Below.refl _ _).drew | exact SK _ (Below.refl _ _) | exact SK _ (bel_next (by assumption) (by assumption) (Nat.le_refl _)))
              (first
                | (go_at_call 30; ((with_reducible refine (M1.out _).mono ?_); rintro e wx ⟨rfl, hbW⟩))
                | (go_at_call 30; ((with_reducible refine (M2.out _).mono ?_); rintro e wx ⟨rfl, hbW⟩))
                | (go_at_call 29; refine (M3.out _).mono ?_; rintro e wx ⟨rfl, hbW⟩)
                | (go_at_call 28; refine (M4.out _).mono ?_; rintro e wx ⟨rfl, hbW⟩))
            obtain ⟨hbx, _⟩ : Below v1.heap.size v1 _ ∧ _ := by assumption
            have HX := hide (HB1.out.trans (hbx.mono HB1.out.size))
            clear hbx SK ca1 cb1
            go_wp2_with fail
            go_roundg (gk - 1)
            case measure => have := HN.out; omega
            case rel => exact ⟨j + 1, by go_num, by have := HN.out; omega, by rw [HKS.out], HX.out⟩
          · have hii : ¬ (j : Int) < 3 := by omega
            have hj3 : j = 3 := by omega
            subst hj3
            have hz : (⟨(RT (ksum (kn px py pz qx qy qz) (fun i => mvd i px py pz q) (fun i => mvd i qx qy qz q) 3)).toArray⟩ : ByteArray) = ⟨#[48]⟩ := by rw [ksum_end]; exact ft_zero
            rw [hz]
            clear hz
            go_wp2_with fail
            refine (awake40 _ (std_next HS.out HBw.out)).mono ?_
            rintro e v1 ⟨rfl, hv1⟩
            have HX := hide (HBw.out.trans (hv1.mono HBw.out.size))
            clear hv1
            go_wp2_with fail
            go_ret
            exact ⟨rfl, HX.out⟩
      · have HR := hide (decide_eq_true hr)
        have HD := hide (decide_eq_true hp)
        have HE := hide (decide_eq_false hq)
        clear hr hp hq
        go_enter Tryz.func6, Tryz.ntmps6
        go_upto_region 1 with (fail)
        generalize (((w.alloc (.cells #[.string s0, .string s1, .string s2, .string s3, .string s4, .string s5] 25)).alloc (.cells #[.int .i64 px, .int .i64 py, .int .i64 pz] 27)).alloc (.cells #[.int .i64 qx, .int .i64 qy, .int .i64 qz] 27)) = w0 at *
        replace K_t := hide K_t
        replace K_p := hide K_p
        replace K_q := hide K_q
        replace HB := hide HB
        have t0 := (Blk.cell K_t.out 0).trans (rfl : _ = some (Value.string s0))
        have t1 := (Blk.cell K_t.out 1).trans (rfl : _ = some (Value.string s1))
        have t2 := (Blk.cell K_t.out 2).trans (rfl : _ = some (Value.string s2))
        have t3 := (Blk.cell K_t.out 3).trans (rfl : _ = some (Value.string s3))
        have t4 := (Blk.cell K_t.out 4).trans (rfl : _ = some (Value.string s4))
        have t5 := (Blk.cell K_t.out 5).trans (rfl : _ = some (Value.string s5))
        go_wp2_with fail
        refine (right_any _ s0 s1 s2 s3 s4 s5).mono ?_
        rw [HR.out]
        rintro e w1 ⟨rfl, hb1⟩
        clear t0 t1 t2 t3 t4 t5
        replace K_t := hide (Blk.below K_t.out hb1 (Blk.lt K_t.out))
        replace K_p := hide (Blk.below K_p.out hb1 (Blk.lt K_p.out))
        replace K_q := hide (Blk.below K_q.out hb1 (Blk.lt K_q.out))
        replace HB := hide (HB.out.trans (hb1.mono HB.out.size))
        clear hb1
        have p0 := (Blk.cell K_p.out 0).trans (rfl : _ = some (Value.int .i64 px))
        have p1 := (Blk.cell K_p.out 1).trans (rfl : _ = some (Value.int .i64 py))
        have p2 := (Blk.cell K_p.out 2).trans (rfl : _ = some (Value.int .i64 pz))
        go_wp2_with fail
        refine (rrights_any _ px py pz).mono ?_
        rw [HD.out]
        rintro e w2 ⟨rfl, hb2⟩
        clear p0 p1 p2
        replace K_t := hide (Blk.below K_t.out hb2 (Blk.lt K_t.out))
        replace K_p := hide (Blk.below K_p.out hb2 (Blk.lt K_p.out))
        replace K_q := hide (Blk.below K_q.out hb2 (Blk.lt K_q.out))
        replace HB := hide (HB.out.trans (hb2.mono HB.out.size))
        clear hb2
        have q0 := (Blk.cell K_q.out 0).trans (rfl : _ = some (Value.int .i64 qx))
        have q1 := (Blk.cell K_q.out 1).trans (rfl : _ = some (Value.int .i64 qy))
        have q2 := (Blk.cell K_q.out 2).trans (rfl : _ = some (Value.int .i64 qz))
        go_wp2_with fail
        refine (rrights_any _ qx qy qz).mono ?_
        rw [HE.out]
        rintro e w3 ⟨rfl, hb3⟩
        clear q0 q1 q2
        replace K_t := hide (Blk.below K_t.out hb3 (Blk.lt K_t.out))
        replace K_p := hide (Blk.below K_p.out hb3 (Blk.lt K_p.out))
        replace K_q := hide (Blk.below K_q.out hb3 (Blk.lt K_q.out))
        replace HB := hide (HB.out.trans (hb3.mono HB.out.size))
        clear hb3
        go_wp2_with fail
        refine (awake40 _ (std_next HS.out HB.out)).mono ?_
        rintro e w4 ⟨rfl, hb4⟩
        replace K_t := hide (Blk.below K_t.out hb4 (Blk.lt K_t.out))
        replace K_p := hide (Blk.below K_p.out hb4 (Blk.lt K_p.out))
        replace K_q := hide (Blk.below K_q.out hb4 (Blk.lt K_q.out))
        replace HB := hide (HB.out.trans (hb4.mono HB.out.size))
        clear hb4
        go_wp2_with fail
        go_ret
        exact ⟨rfl, HB.out⟩
    · have HR := hide (decide_eq_true hr)
      have HD := hide (decide_eq_false hp)
      clear hr hp
      go_enter Tryz.func6, Tryz.ntmps6
      go_upto_region 1 with (fail)
      generalize (((w.alloc (.cells #[.string s0, .string s1, .string s2, .string s3, .string s4, .string s5] 25)).alloc (.cells #[.int .i64 px, .int .i64 py, .int .i64 pz] 27)).alloc (.cells #[.int .i64 qx, .int .i64 qy, .int .i64 qz] 27)) = w0 at *
      replace K_t := hide K_t
      replace K_p := hide K_p
      replace K_q := hide K_q
      replace HB := hide HB
      have t0 := (Blk.cell K_t.out 0).trans (rfl : _ = some (Value.string s0))
      have t1 := (Blk.cell K_t.out 1).trans (rfl : _ = some (Value.string s1))
      have t2 := (Blk.cell K_t.out 2).trans (rfl : _ = some (Value.string s2))
      have t3 := (Blk.cell K_t.out 3).trans (rfl : _ = some (Value.string s3))
      have t4 := (Blk.cell K_t.out 4).trans (rfl : _ = some (Value.string s4))
      have t5 := (Blk.cell K_t.out 5).trans (rfl : _ = some (Value.string s5))
      go_wp2_with fail
      refine (right_any _ s0 s1 s2 s3 s4 s5).mono ?_
      rw [HR.out]
      rintro e w1 ⟨rfl, hb1⟩
      clear t0 t1 t2 t3 t4 t5
      replace K_t := hide (Blk.below K_t.out hb1 (Blk.lt K_t.out))
      replace K_p := hide (Blk.below K_p.out hb1 (Blk.lt K_p.out))
      replace K_q := hide (Blk.below K_q.out hb1 (Blk.lt K_q.out))
      replace HB := hide (HB.out.trans (hb1.mono HB.out.size))
      clear hb1
      have p0 := (Blk.cell K_p.out 0).trans (rfl : _ = some (Value.int .i64 px))
      have p1 := (Blk.cell K_p.out 1).trans (rfl : _ = some (Value.int .i64 py))
      have p2 := (Blk.cell K_p.out 2).trans (rfl : _ = some (Value.int .i64 pz))
      go_wp2_with fail
      refine (rrights_any _ px py pz).mono ?_
      rw [HD.out]
      rintro e w2 ⟨rfl, hb2⟩
      clear p0 p1 p2
      replace K_t := hide (Blk.below K_t.out hb2 (Blk.lt K_t.out))
      replace K_p := hide (Blk.below K_p.out hb2 (Blk.lt K_p.out))
      replace K_q := hide (Blk.below K_q.out hb2 (Blk.lt K_q.out))
      replace HB := hide (HB.out.trans (hb2.mono HB.out.size))
      clear hb2
      go_wp2_with fail
      refine (awake40 _ (std_next HS.out HB.out)).mono ?_
      rintro e w3 ⟨rfl, hb3⟩
      replace K_t := hide (Blk.below K_t.out hb3 (Blk.lt K_t.out))
      replace K_p := hide (Blk.below K_p.out hb3 (Blk.lt K_p.out))
      replace K_q := hide (Blk.below K_q.out hb3 (Blk.lt K_q.out))
      replace HB := hide (HB.out.trans (hb3.mono HB.out.size))
      clear hb3
      go_wp2_with fail
      go_ret
      exact ⟨rfl, HB.out⟩
  · have HR := hide (decide_eq_false hr)
    clear hr
    go_enter Tryz.func6, Tryz.ntmps6
    go_upto_region 1 with (fail)
    generalize (((w.alloc (.cells #[.string s0, .string s1, .string s2, .string s3, .string s4, .string s5] 25)).alloc (.cells #[.int .i64 px, .int .i64 py, .int .i64 pz] 27)).alloc (.cells #[.int .i64 qx, .int .i64 qy, .int .i64 qz] 27)) = w0 at *
    replace K_t := hide K_t
    replace K_p := hide K_p
    replace K_q := hide K_q
    replace HB := hide HB
    have t0 := (Blk.cell K_t.out 0).trans (rfl : _ = some (Value.string s0))
    have t1 := (Blk.cell K_t.out 1).trans (rfl : _ = some (Value.string s1))
    have t2 := (Blk.cell K_t.out 2).trans (rfl : _ = some (Value.string s2))
    have t3 := (Blk.cell K_t.out 3).trans (rfl : _ = some (Value.string s3))
    have t4 := (Blk.cell K_t.out 4).trans (rfl : _ = some (Value.string s4))
    have t5 := (Blk.cell K_t.out 5).trans (rfl : _ = some (Value.string s5))
    go_wp2_with fail
    refine (right_any _ s0 s1 s2 s3 s4 s5).mono ?_
    rw [HR.out]
    rintro e w1 ⟨rfl, hb1⟩
    clear t0 t1 t2 t3 t4 t5
    replace K_t := hide (Blk.below K_t.out hb1 (Blk.lt K_t.out))
    replace K_p := hide (Blk.below K_p.out hb1 (Blk.lt K_p.out))
    replace K_q := hide (Blk.below K_q.out hb1 (Blk.lt K_q.out))
    replace HB := hide (HB.out.trans (hb1.mono HB.out.size))
    clear hb1
    go_wp2_with fail
    refine (awake40 _ (std_next HS.out HB.out)).mono ?_
    rintro e w2 ⟨rfl, hb2⟩
    replace K_t := hide (Blk.below K_t.out hb2 (Blk.lt K_t.out))
    replace K_p := hide (Blk.below K_p.out hb2 (Blk.lt K_p.out))
    replace K_q := hide (Blk.below K_q.out hb2 (Blk.lt K_q.out))
    replace HB := hide (HB.out.trans (hb2.mono HB.out.size))
    clear hb2
    go_wp2_with fail
    go_ret
    exact ⟨rfl, HB.out⟩
end Go.Proofs.YtdkilkliccljeaaGreatDoor
