/- metrolabref40: axis, Form, Around, About. -/
import Derived.Test.YtdkilkliccljeaaGreatDoorRtmoved
namespace Go.Proofs.YtdkilkliccljeaaGreatDoor
open Go.RowKit MLab

set_option maxRecDepth 100000 in
set_option maxHeartbeats 2000000 in
theorem rtaxis_any (w : World) (k x y z : Int) :
    Calls Tryz.prog 58 #[.int .i64 k, .agg #[.int .i64 x, .int .i64 y, .int .i64 z]] w fun e w' => e = .returned (.int .i64 (gvn k x y z)) ∧ Below w.heap.size w w' := by
  have hb0 := hide (allocs_below w [.cells #[.int .i64 x, .int .i64 y, .int .i64 z] 27])
  by_cases h1 : k < 0
  · have HG := hide (show gvn k x y z = 1 by rw [gvn, if_pos (.inl h1)])
    go_enter Tryz.func58, Tryz.ntmps58
    go_wp2_with fail
    rw [HG.out]
    go_ret
    exact ⟨rfl, hb0.out⟩
  · by_cases h2 : 2 < k
    · have HG := hide (show gvn k x y z = 1 by rw [gvn, if_pos (.inr (by omega))])
      go_enter Tryz.func58, Tryz.ntmps58
      go_wp2_with fail
      rw [HG.out]
      go_ret
      exact ⟨rfl, hb0.out⟩
    · by_cases hw : Co x ∧ Co y ∧ Co z
      · have HG := hide (show gvn k x y z = 0 by rw [gvn, if_neg (by omega), if_pos hw])
        have HD := hide (decide_eq_true hw)
        clear hw
        go_enter Tryz.func58, Tryz.ntmps58
        go_wp2_with fail
        refine (rrights_any _ x y z).mono ?_
        rw [HD.out]
        rintro e w1 ⟨rfl, hb1⟩
        have HB1 := hide (hb0.out.trans (Below.mono hb1 hb0.out.size))
        clear hb1
        go_wp2_with fail
        rw [HG.out]
        go_ret
        exact ⟨rfl, HB1.out⟩
      · have HG := hide (show gvn k x y z = 2 by rw [gvn, if_neg (by omega), if_neg hw])
        have HD := hide (decide_eq_false hw)
        clear hw
        go_enter Tryz.func58, Tryz.ntmps58
        go_wp2_with fail
        refine (rrights_any _ x y z).mono ?_
        rw [HD.out]
        rintro e w1 ⟨rfl, hb1⟩
        have HB1 := hide (hb0.out.trans (Below.mono hb1 hb0.out.size))
        clear hb1
        go_wp2_with fail
        rw [HG.out]
        go_ret
        exact ⟨rfl, HB1.out⟩

set_option maxRecDepth 100000 in
set_option maxHeartbeats 2000000 in
theorem rtForm_bad (w : World) (k x y z : Int) (c : Int) (hc : gvn k x y z = c) (h0 : c ≠ 0) :
    Calls Tryz.prog 19 #[.int .i64 k, .agg #[.int .i64 x, .int .i64 y, .int .i64 z]] w fun e w' => e = .returned (.tuple #[.slice none 0 0, .int .i64 c]) ∧ Below w.heap.size w w' := by
  have hb0 := hide (allocs_below w [.cells #[.int .i64 x, .int .i64 y, .int .i64 z] 27])
  have HC := hide hc
  clear hc
  go_enter Tryz.func19, Tryz.ntmps19
  go_wp2_with fail
  refine (rtaxis_any _ k x y z).mono ?_
  rw [HC.out]
  rintro e w1 ⟨rfl, hb1⟩
  have HB1 := hide (hb0.out.trans (Below.mono hb1 hb0.out.size))
  clear hb1
  go_wp2_with fail
  go_ret2
  exact ⟨rfl, HB1.out⟩

set_option maxRecDepth 100000 in
set_option maxHeartbeats 2000000 in
theorem rtForm_ok (w : World) (k : Nat) (hk : k < 3) (x y z : Int) (hw : Co x ∧ Co y ∧ Co z) :
    Calls Tryz.prog 19 #[.int .i64 (k : Int), .agg #[.int .i64 x, .int .i64 y, .int .i64 z]] w fun e w' => FormR (frmT k x y z) 0 e w' ∧ Below w.heap.size w w' := by
  have HG := hide (show gvn (k : Int) x y z = 0 by rw [gvn, if_neg (by omega), if_pos hw])
  have hb0 := hide (allocs_below w [.cells #[.int .i64 x, .int .i64 y, .int .i64 z] 27])
  have K0 := hide (show Blk (allocs w [.cells #[.int .i64 x, .int .i64 y, .int .i64 z] 27]) (w.heap.size + 0) 27 #[.int .i64 x, .int .i64 y, .int .i64 z] from allocs_at w [.cells #[.int .i64 x, .int .i64 y, .int .i64 z] 27] 0 rfl)
  have HCO := hide hw
  clear hw
  go_enter Tryz.func19, Tryz.ntmps19
  go_wp2_with fail
  refine (rtaxis_any _ k x y z).mono ?_
  rw [HG.out]
  rintro e w1 ⟨rfl, hb1⟩
  have HB1 := hide (hb0.out.trans (Below.mono hb1 hb0.out.size))
  have hz1 := Blk.below K0.out hb1 (Blk.lt K0.out)
  have p0 : w1.cell? ⟨w.heap.size + 0, 0, none⟩ = some (.int .i64 x) := (Blk.cell hz1 0).trans rfl
  have p1 : w1.cell? ⟨w.heap.size + 0, 1, none⟩ = some (.int .i64 y) := (Blk.cell hz1 1).trans rfl
  have p2 : w1.cell? ⟨w.heap.size + 0, 2, none⟩ = some (.int .i64 z) := (Blk.cell hz1 2).trans rfl
  rw [Nat.add_zero] at p0 p1 p2
  clear hb1 hz1 K0
  go_wp2_with fail
  refine (rtrow_any _ k hk x y z HCO.out.1.cb HCO.out.2.1.cb HCO.out.2.2.cb).mono ?_
  rintro e w2 ⟨⟨v, rfl, hsix⟩, hb2⟩
  have HSIX := hide hsix
  have HB2 := hide (HB1.out.trans (hb2.mono HB1.out.size))
  clear hsix hb2 p0 p1 p2
  go_wp2_with fail
  go_ret2
  exact ⟨⟨v, rfl, HSIX.out⟩, HB2.out⟩

theorem tv_wq0 (t : Rat) : TV (wq 0 t) = #[.string ⟨#[48]⟩, .string ⟨#[48]⟩, .string ⟨#[48]⟩, .string ⟨(RT t).toArray⟩, .string ⟨#[48]⟩, .string ⟨#[48]⟩] := by simp [TV, wq, RT_zeroT]
set_option maxRecDepth 100000 in
set_option maxHeartbeats 8000000 in
theorem raround0 (w : World) (x y z : Int) (t : Rat) {m : Nat} (hm : m ≤ 140) (hq : Sz m m t) (hw : Co x ∧ Co y ∧ Co z) :
    Calls Tryz.prog 61 #[.int .i64 0, .agg #[.int .i64 x, .int .i64 y, .int .i64 z], .string ⟨(RT t).toArray⟩] w fun e w' => e = .returned (.agg (TV (abt 0 x y z t))) ∧ Below w.heap.size w w' := by
  have HCO := hide hw
  have HQ := hide hq
  clear hw hq
  have hb0 := hide (allocs_below w [.cells #[.int .i64 x, .int .i64 y, .int .i64 z] 27, .cells six0 25])
  have K0 := hide (show Blk (allocs w [.cells #[.int .i64 x, .int .i64 y, .int .i64 z] 27, .cells six0 25]) (w.heap.size + 0) 27 #[.int .i64 x, .int .i64 y, .int .i64 z] from allocs_at w [.cells #[.int .i64 x, .int .i64 y, .int .i64 z] 27, .cells six0 25] 0 rfl)
  have K1 := hide (show Blk (allocs w [.cells #[.int .i64 x, .int .i64 y, .int .i64 z] 27, .cells six0 25]) (w.heap.size + 1) 25 six0 from allocs_at w [.cells #[.int .i64 x, .int .i64 y, .int .i64 z] 27, .cells six0 25] 1 rfl)
  go_enter Tryz.func61, Tryz.ntmps61
  go_wp2_with fail
  refine (rtzero_any _).mono ?_
  rintro e w3 ⟨rfl, hb3⟩
  have HL3 := hide hb3
  have HB3 := hide (hb0.out.trans (Below.mono hb3 hb0.out.size))
  clear hb3
  have hsz3 : w.heap.size + 1 < w3.heap.size := Blk.lt (Blk.below K1.out HL3.out (Blk.lt K1.out))
  go_upto_region 4 with (fail)
  have hA0 := ((Blk.below K0.out HL3.out (Blk.lt K0.out)).alloc (.cells #[.string ⟨#[48]⟩, .string ⟨#[48]⟩, .string ⟨#[48]⟩, .string ⟨(RT t).toArray⟩, .string ⟨#[48]⟩, .string ⟨#[48]⟩] 25)).alloc (.cells #[.string ⟨#[48]⟩, .string ⟨#[48]⟩, .string ⟨#[48]⟩, .string ⟨(RT t).toArray⟩, .string ⟨#[48]⟩, .string ⟨#[48]⟩] 25)
  have hA1 := ((Blk.below K1.out HL3.out (Blk.lt K1.out)).alloc (.cells #[.string ⟨#[48]⟩, .string ⟨#[48]⟩, .string ⟨#[48]⟩, .string ⟨(RT t).toArray⟩, .string ⟨#[48]⟩, .string ⟨#[48]⟩] 25)).alloc (.cells #[.string ⟨#[48]⟩, .string ⟨#[48]⟩, .string ⟨#[48]⟩, .string ⟨(RT t).toArray⟩, .string ⟨#[48]⟩, .string ⟨#[48]⟩] 25)
  have hA2 : Blk ((w3.alloc (.cells #[.string ⟨#[48]⟩, .string ⟨#[48]⟩, .string ⟨#[48]⟩, .string ⟨(RT t).toArray⟩, .string ⟨#[48]⟩, .string ⟨#[48]⟩] 25)).alloc (.cells #[.string ⟨#[48]⟩, .string ⟨#[48]⟩, .string ⟨#[48]⟩, .string ⟨(RT t).toArray⟩, .string ⟨#[48]⟩, .string ⟨#[48]⟩] 25)) w3.heap.size 25 #[.string ⟨#[48]⟩, .string ⟨#[48]⟩, .string ⟨#[48]⟩, .string ⟨(RT t).toArray⟩, .string ⟨#[48]⟩, .string ⟨#[48]⟩] := (Blk.new w3 25 #[.string ⟨#[48]⟩, .string ⟨#[48]⟩, .string ⟨#[48]⟩, .string ⟨(RT t).toArray⟩, .string ⟨#[48]⟩, .string ⟨#[48]⟩]).alloc (.cells #[.string ⟨#[48]⟩, .string ⟨#[48]⟩, .string ⟨#[48]⟩, .string ⟨(RT t).toArray⟩, .string ⟨#[48]⟩, .string ⟨#[48]⟩] 25)
  have hB4 := (HB3.out.alloc HB3.out.size (.cells #[.string ⟨#[48]⟩, .string ⟨#[48]⟩, .string ⟨#[48]⟩, .string ⟨(RT t).toArray⟩, .string ⟨#[48]⟩, .string ⟨#[48]⟩] 25)).alloc (by have := HB3.out.size; simp; omega) (.cells #[.string ⟨#[48]⟩, .string ⟨#[48]⟩, .string ⟨#[48]⟩, .string ⟨(RT t).toArray⟩, .string ⟨#[48]⟩, .string ⟨#[48]⟩] 25)
  have hr4 : ((w3.alloc (.cells #[.string ⟨#[48]⟩, .string ⟨#[48]⟩, .string ⟨#[48]⟩, .string ⟨(RT t).toArray⟩, .string ⟨#[48]⟩, .string ⟨#[48]⟩] 25)).alloc (.cells #[.string ⟨#[48]⟩, .string ⟨#[48]⟩, .string ⟨#[48]⟩, .string ⟨(RT t).toArray⟩, .string ⟨#[48]⟩, .string ⟨#[48]⟩] 25)).rowIs (w3.heap.size + 1) 25 6 (fun p => if p = 3 + 0 then .string ⟨(RT t).toArray⟩ else .string ⟨#[48]⟩) := by
    have h := World.rowIs_alloc (w3.alloc (.cells #[.string ⟨#[48]⟩, .string ⟨#[48]⟩, .string ⟨#[48]⟩, .string ⟨(RT t).toArray⟩, .string ⟨#[48]⟩, .string ⟨#[48]⟩] 25)) #[.string ⟨#[48]⟩, .string ⟨#[48]⟩, .string ⟨#[48]⟩, .string ⟨(RT t).toArray⟩, .string ⟨#[48]⟩, .string ⟨#[48]⟩] 25 (fun p => if p = 3 + 0 then .string ⟨(RT t).toArray⟩ else .string ⟨#[48]⟩) (by
      intro i hi
      match i, hi with
      | 0, _ => rfl
      | 1, _ => rfl
      | 2, _ => rfl
      | 3, _ => rfl
      | 4, _ => rfl
      | 5, _ => rfl)
    simpa using h
  have hz4 : ((w3.alloc (.cells #[.string ⟨#[48]⟩, .string ⟨#[48]⟩, .string ⟨#[48]⟩, .string ⟨(RT t).toArray⟩, .string ⟨#[48]⟩, .string ⟨#[48]⟩] 25)).alloc (.cells #[.string ⟨#[48]⟩, .string ⟨#[48]⟩, .string ⟨#[48]⟩, .string ⟨(RT t).toArray⟩, .string ⟨#[48]⟩, .string ⟨#[48]⟩] 25)).heap.size = w3.heap.size + 2 := by simp
  generalize ((w3.alloc (.cells #[.string ⟨#[48]⟩, .string ⟨#[48]⟩, .string ⟨#[48]⟩, .string ⟨(RT t).toArray⟩, .string ⟨#[48]⟩, .string ⟨#[48]⟩] 25)).alloc (.cells #[.string ⟨#[48]⟩, .string ⟨#[48]⟩, .string ⟨#[48]⟩, .string ⟨(RT t).toArray⟩, .string ⟨#[48]⟩, .string ⟨#[48]⟩] 25)) = w4 at *
  have A0 := hide hA0
  have A1 := hide hA1
  have A2 := hide hA2
  have B4 := hide hB4
  have R4 := hide hr4
  have Z4 := hide hz4
  clear hA0 hA1 hA2 hB4 hr4 hz4
  go_wp2_with fail
  go_loopg [9] 3 (fun n iv wr => ∃ j : Nat, iv = .int .i64 (j : Int) ∧ n + j = 3 ∧ wr.rowIs (w3.heap.size + 1) 25 6 (fun p => if p < j then .string ⟨(RT (-(psum (frm p x y z) (wq 0 t) 6))).toArray⟩ else if p = 3 + 0 then .string ⟨(RT t).toArray⟩ else .string ⟨#[48]⟩) ∧ Below (w3.heap.size + 1) w4 wr)
  case atStart => exact ⟨0, rfl, rfl, R4.out.congr (fun p _ => by simp), Below.refl _ _⟩
  case round =>
    obtain ⟨j, rfl, hn, hr, hb⟩ := hrel
    have HN := hide hn
    have HR := hide hr
    have HB := hide hb
    have HBw := hide (B4.out.trans (hb.mono (by omega)))
    have hile : j ≤ 3 := by omega
    clear hn hr hb
    by_cases hlt : j < 3
    · have hii : (j : Int) < 3 := by omega
      have hi0 : (0 : Int) ≤ (j : Int) := by omega
      have hZ0 := Blk.below A0.out HB.out (by omega)
      have hZ2 := Blk.below A2.out HB.out (by omega)
      have t0 : wr.cell? ⟨w3.heap.size, 0, none⟩ = some (.string ⟨#[48]⟩) := (Blk.cell hZ2 0).trans rfl
      have t1 : wr.cell? ⟨w3.heap.size, 1, none⟩ = some (.string ⟨#[48]⟩) := (Blk.cell hZ2 1).trans rfl
      have t2 : wr.cell? ⟨w3.heap.size, 2, none⟩ = some (.string ⟨#[48]⟩) := (Blk.cell hZ2 2).trans rfl
      have t3 : wr.cell? ⟨w3.heap.size, 3, none⟩ = some (.string ⟨(RT t).toArray⟩) := (Blk.cell hZ2 3).trans rfl
      have t4 : wr.cell? ⟨w3.heap.size, 4, none⟩ = some (.string ⟨#[48]⟩) := (Blk.cell hZ2 4).trans rfl
      have t5 : wr.cell? ⟨w3.heap.size, 5, none⟩ = some (.string ⟨#[48]⟩) := (Blk.cell hZ2 5).trans rfl
      have p0 : wr.cell? ⟨w.heap.size + 0, 0, none⟩ = some (.int .i64 x) := (Blk.cell hZ0 0).trans rfl
      have p1 : wr.cell? ⟨w.heap.size + 0, 1, none⟩ = some (.int .i64 y) := (Blk.cell hZ0 1).trans rfl
      have p2 : wr.cell? ⟨w.heap.size + 0, 2, none⟩ = some (.int .i64 z) := (Blk.cell hZ0 2).trans rfl
      rw [Nat.add_zero] at p0 p1 p2
      clear hZ0 hZ2
      have hl0 : w3.heap.size + 1 ≤ wr.heap.size := Nat.le_of_lt HR.out.lt
      have SK : ∀ w', Below (w3.heap.size + 1) wr w' → (fun w' => Below (w3.heap.size + 1) wr w' ∧ w'.cell? ⟨w3.heap.size, 0, none⟩ = some (.string ⟨#[48]⟩) ∧ w'.cell? ⟨w3.heap.size, 1, none⟩ = some (.string ⟨#[48]⟩) ∧ w'.cell? ⟨w3.heap.size, 2, none⟩ = some (.string ⟨#[48]⟩) ∧ w'.cell? ⟨w3.heap.size, 3, none⟩ = some (.string ⟨(RT t).toArray⟩) ∧ w'.cell? ⟨w3.heap.size, 4, none⟩ = some (.string ⟨#[48]⟩) ∧ w'.cell? ⟨w3.heap.size, 5, none⟩ = some (.string ⟨#[48]⟩) ∧ w'.cell? ⟨w.heap.size, 0, none⟩ = some (.int .i64 x) ∧ w'.cell? ⟨w.heap.size, 1, none⟩ = some (.int .i64 y) ∧ w'.cell? ⟨w.heap.size, 2, none⟩ = some (.int .i64 z)) w' := fun w' h => ⟨h, (bcell h _ _ (by omega)).trans t0, (bcell h _ _ (by omega)).trans t1, (bcell h _ _ (by omega)).trans t2, (bcell h _ _ (by omega)).trans t3, (bcell h _ _ (by omega)).trans t4, (bcell h _ _ (by omega)).trans t5, (bcell h _ _ (by omega)).trans p0, (bcell h _ _ (by omega)).trans p1, (bcell h _ _ (by omega)).trans p2⟩
      have MC := hide (fun W => rtcoo_any W j hlt x y z)
      have HCC := hide (coo_cb j HCO.out.1.cb HCO.out.2.1.cb HCO.out.2.2.cb)
      have MW : Hid (∀ W, Calls Tryz.prog 25 #[.int .i64 (coo j x y z)] W fun e w' => e = .returned (.string ⟨(RT ((coo j x y z : Int) : Rat)).toArray⟩) ∧ Below W.heap.size W w') := hide (fun W => r2whole_any _ (by have := HCC.out; unfold Cb at this; omega) (by have := HCC.out; unfold Cb at this; omega) W)
      have mm := fun W => rtmoved_any W j hlt x y z (wq 0 t) (m := m) (by omega) (fun i _ => wq_sz HQ.out i) HCO.out
      rw [tv_wq0] at mm
      have MM := hide mm
      clear mm
      have ml := fun W => rqless_any W ⟨(RT ((coo j x y z : Int) : Rat)).toArray⟩ ⟨(RT (mvd j x y z (wq 0 t))).toArray⟩ _ _ rfl rfl (m := 6 * 140 + 19) (by omega) (HCC.out.sz.mono (by omega) (by omega)) ((mvd_sz j HCO.out.1.cb HCO.out.2.1.cb HCO.out.2.2.cb (fun i _ => wq_sz HQ.out i)).mono (by omega) (by omega))
      rw [show ((coo j x y z : Int) : Rat) - mvd j x y z (wq 0 t) = -(psum (frm j x y z) (wq 0 t) 6) by unfold mvd; grind] at ml
      have ML := hide ml
      clear ml
      go_upto_region 7 with (fail)
      go_region_held3 (fun w' => Below (w3.heap.size + 1) wr w' ∧ w'.cell? ⟨w3.heap.size, 0, none⟩ = some (.string ⟨#[48]⟩) ∧ w'.cell? ⟨w3.heap.size, 1, none⟩ = some (.string ⟨#[48]⟩) ∧ w'.cell? ⟨w3.heap.size, 2, none⟩ = some (.string ⟨#[48]⟩) ∧ w'.cell? ⟨w3.heap.size, 3, none⟩ = some (.string ⟨(RT t).toArray⟩) ∧ w'.cell? ⟨w3.heap.size, 4, none⟩ = some (.string ⟨#[48]⟩) ∧ w'.cell? ⟨w3.heap.size, 5, none⟩ = some (.string ⟨#[48]⟩) ∧ w'.cell? ⟨w.heap.size, 0, none⟩ = some (.int .i64 x) ∧ w'.cell? ⟨w.heap.size, 1, none⟩ = some (.int .i64 y) ∧ w'.cell? ⟨w.heap.size, 2, none⟩ = some (.int .i64 z)) (first | exact SK _ (Below.refl _ _).drew | exact SK _ (Below.refl _ _) | exact SK _ (by assumption : Below (w3.heap.size + 1) wr _) | exact SK _ ((by assumption : Below (w3.heap.size + 1) wr _).setCell (Nat.le_refl _) _))
        (first
          | (go_at_call 100; refine (MC.out _).mono ?_; rintro e wx ⟨rfl, hbW⟩; have hd0 : Below wr.heap.size wr wx := (Below.refl _ _).drew.trans hbW; have hd := hd0.mono hl0)
          | (go_at_call 25; refine (MW.out _).mono ?_; rintro e wx ⟨rfl, hbW⟩; have hd1 : Below wr.heap.size wr wx := hd0.trans (hbW.mono hd0.size); have hd := hd1.mono hl0)
          | (go_at_call 94; refine (MM.out _).mono ?_; rintro e wx ⟨rfl, hbW⟩; have hd2 : Below wr.heap.size wr wx := hd1.trans (hbW.mono hd1.size); have hd := hd2.mono hl0)
          | (go_at_call 30; refine (ML.out _).mono ?_; rintro e wx ⟨rfl, hbW⟩; have hd3 : Below wr.heap.size wr wx := hd2.trans (hbW.mono hd2.size); have hd := hd3.mono hl0; have hr1 := HR.out.of_block (hd3.block _ HR.out.lt); have c0 := hr1.cell (show j < 6 by omega); have f0 := hr1.frozen j; rw [if_neg (by omega), if_neg (by omega)] at c0))
      obtain ⟨hbx, _⟩ : Below (w3.heap.size + 1) wr _ ∧ _ := by assumption
      have HX := hide (HB.out.trans hbx)
      have HR1 := hide hr1
      clear hbx hr1 c0 f0 hd SK t0 t1 t2 t3 t4 t5 p0 p1 p2
      go_wp2_with fail
      go_roundg (gk - 1)
      case measure => have := HN.out; omega
      case rel =>
        refine ⟨j + 1, by go_num, by have := HN.out; omega, (HR1.out.set j (.string ⟨(RT (-(psum (frm j x y z) (wq 0 t) 6))).toArray⟩)).congr (fun p hp => ?_), HX.out⟩
        by_cases e1 : p = j
        · simp [e1]
        · by_cases e2 : p < j
          · simp [e1, e2, show p < j + 1 by omega]
          · simp [e1, e2, show ¬ p < j + 1 by omega]
    · have hii : ¬ (j : Int) < 3 := by omega
      have hj6 : j = 3 := by omega
      subst hj6
      have c0 := HR.out.cell (show 0 < 6 by omega)
      have c1 := HR.out.cell (show 1 < 6 by omega)
      have c2 := HR.out.cell (show 2 < 6 by omega)
      have c3 := HR.out.cell (show 3 < 6 by omega)
      have c4 := HR.out.cell (show 4 < 6 by omega)
      have c5 := HR.out.cell (show 5 < 6 by omega)
      rw [if_pos (by omega)] at c0
      rw [if_pos (by omega)] at c1
      rw [if_pos (by omega)] at c2
      rw [if_neg (by omega), if_pos (by omega)] at c3
      rw [if_neg (by omega), if_neg (by omega)] at c4
      rw [if_neg (by omega), if_neg (by omega)] at c5
      have hZ2 := Blk.below A1.out HB.out (by omega)
      have rhz := hZ2
      have rz0 : wr.cell? ⟨w.heap.size + 1, 0, none⟩ = some (.string ⟨#[]⟩) := (Blk.cell rhz 0).trans rfl
      have rf0 : wr.frozen? ⟨w.heap.size + 1, 0, none⟩ = false := Blk.frozen rhz 0
      have rz1 : wr.cell? ⟨w.heap.size + 1, 1, none⟩ = some (.string ⟨#[]⟩) := (Blk.cell rhz 1).trans rfl
      have rf1 : wr.frozen? ⟨w.heap.size + 1, 1, none⟩ = false := Blk.frozen rhz 1
      have rz2 : wr.cell? ⟨w.heap.size + 1, 2, none⟩ = some (.string ⟨#[]⟩) := (Blk.cell rhz 2).trans rfl
      have rf2 : wr.frozen? ⟨w.heap.size + 1, 2, none⟩ = false := Blk.frozen rhz 2
      have rz3 : wr.cell? ⟨w.heap.size + 1, 3, none⟩ = some (.string ⟨#[]⟩) := (Blk.cell rhz 3).trans rfl
      have rf3 : wr.frozen? ⟨w.heap.size + 1, 3, none⟩ = false := Blk.frozen rhz 3
      have rz4 : wr.cell? ⟨w.heap.size + 1, 4, none⟩ = some (.string ⟨#[]⟩) := (Blk.cell rhz 4).trans rfl
      have rf4 : wr.frozen? ⟨w.heap.size + 1, 4, none⟩ = false := Blk.frozen rhz 4
      have rz5 : wr.cell? ⟨w.heap.size + 1, 5, none⟩ = some (.string ⟨#[]⟩) := (Blk.cell rhz 5).trans rfl
      have rf5 : wr.frozen? ⟨w.heap.size + 1, 5, none⟩ = false := Blk.frozen rhz 5
      clear hZ2 rhz
      go_wp2_with fail
      exact bodyPost_ret (v := .agg (TV (abt 0 x y z t))) (by simp [results, Tryz.results61, go_sem, abt, wq, RT_zeroT, rz0, rz1, rz2, rz3, rz4, rz5]) rfl ⟨rfl, ((((((HBw.out.setCell (p := ⟨w.heap.size + 1, 0, none⟩) (Nat.le_add_right _ _) _).setCell (p := ⟨w.heap.size + 1, 1, none⟩) (Nat.le_add_right _ _) _).setCell (p := ⟨w.heap.size + 1, 2, none⟩) (Nat.le_add_right _ _) _).setCell (p := ⟨w.heap.size + 1, 3, none⟩) (Nat.le_add_right _ _) _).setCell (p := ⟨w.heap.size + 1, 4, none⟩) (Nat.le_add_right _ _) _).setCell (p := ⟨w.heap.size + 1, 5, none⟩) (Nat.le_add_right _ _) _)⟩

theorem tv_wq1 (t : Rat) : TV (wq 1 t) = #[.string ⟨#[48]⟩, .string ⟨#[48]⟩, .string ⟨#[48]⟩, .string ⟨#[48]⟩, .string ⟨(RT t).toArray⟩, .string ⟨#[48]⟩] := by simp [TV, wq, RT_zeroT]
set_option maxRecDepth 100000 in
set_option maxHeartbeats 8000000 in
theorem raround1 (w : World) (x y z : Int) (t : Rat) {m : Nat} (hm : m ≤ 140) (hq : Sz m m t) (hw : Co x ∧ Co y ∧ Co z) :
    Calls Tryz.prog 61 #[.int .i64 1, .agg #[.int .i64 x, .int .i64 y, .int .i64 z], .string ⟨(RT t).toArray⟩] w fun e w' => e = .returned (.agg (TV (abt 1 x y z t))) ∧ Below w.heap.size w w' := by
  have HCO := hide hw
  have HQ := hide hq
  clear hw hq
  have hb0 := hide (allocs_below w [.cells #[.int .i64 x, .int .i64 y, .int .i64 z] 27, .cells six0 25])
  have K0 := hide (show Blk (allocs w [.cells #[.int .i64 x, .int .i64 y, .int .i64 z] 27, .cells six0 25]) (w.heap.size + 0) 27 #[.int .i64 x, .int .i64 y, .int .i64 z] from allocs_at w [.cells #[.int .i64 x, .int .i64 y, .int .i64 z] 27, .cells six0 25] 0 rfl)
  have K1 := hide (show Blk (allocs w [.cells #[.int .i64 x, .int .i64 y, .int .i64 z] 27, .cells six0 25]) (w.heap.size + 1) 25 six0 from allocs_at w [.cells #[.int .i64 x, .int .i64 y, .int .i64 z] 27, .cells six0 25] 1 rfl)
  go_enter Tryz.func61, Tryz.ntmps61
  go_wp2_with fail
  refine (rtzero_any _).mono ?_
  rintro e w3 ⟨rfl, hb3⟩
  have HL3 := hide hb3
  have HB3 := hide (hb0.out.trans (Below.mono hb3 hb0.out.size))
  clear hb3
  have hsz3 : w.heap.size + 1 < w3.heap.size := Blk.lt (Blk.below K1.out HL3.out (Blk.lt K1.out))
  go_upto_region 4 with (fail)
  have hA0 := ((Blk.below K0.out HL3.out (Blk.lt K0.out)).alloc (.cells #[.string ⟨#[48]⟩, .string ⟨#[48]⟩, .string ⟨#[48]⟩, .string ⟨#[48]⟩, .string ⟨(RT t).toArray⟩, .string ⟨#[48]⟩] 25)).alloc (.cells #[.string ⟨#[48]⟩, .string ⟨#[48]⟩, .string ⟨#[48]⟩, .string ⟨#[48]⟩, .string ⟨(RT t).toArray⟩, .string ⟨#[48]⟩] 25)
  have hA1 := ((Blk.below K1.out HL3.out (Blk.lt K1.out)).alloc (.cells #[.string ⟨#[48]⟩, .string ⟨#[48]⟩, .string ⟨#[48]⟩, .string ⟨#[48]⟩, .string ⟨(RT t).toArray⟩, .string ⟨#[48]⟩] 25)).alloc (.cells #[.string ⟨#[48]⟩, .string ⟨#[48]⟩, .string ⟨#[48]⟩, .string ⟨#[48]⟩, .string ⟨(RT t).toArray⟩, .string ⟨#[48]⟩] 25)
  have hA2 : Blk ((w3.alloc (.cells #[.string ⟨#[48]⟩, .string ⟨#[48]⟩, .string ⟨#[48]⟩, .string ⟨#[48]⟩, .string ⟨(RT t).toArray⟩, .string ⟨#[48]⟩] 25)).alloc (.cells #[.string ⟨#[48]⟩, .string ⟨#[48]⟩, .string ⟨#[48]⟩, .string ⟨#[48]⟩, .string ⟨(RT t).toArray⟩, .string ⟨#[48]⟩] 25)) w3.heap.size 25 #[.string ⟨#[48]⟩, .string ⟨#[48]⟩, .string ⟨#[48]⟩, .string ⟨#[48]⟩, .string ⟨(RT t).toArray⟩, .string ⟨#[48]⟩] := (Blk.new w3 25 #[.string ⟨#[48]⟩, .string ⟨#[48]⟩, .string ⟨#[48]⟩, .string ⟨#[48]⟩, .string ⟨(RT t).toArray⟩, .string ⟨#[48]⟩]).alloc (.cells #[.string ⟨#[48]⟩, .string ⟨#[48]⟩, .string ⟨#[48]⟩, .string ⟨#[48]⟩, .string ⟨(RT t).toArray⟩, .string ⟨#[48]⟩] 25)
  have hB4 := (HB3.out.alloc HB3.out.size (.cells #[.string ⟨#[48]⟩, .string ⟨#[48]⟩, .string ⟨#[48]⟩, .string ⟨#[48]⟩, .string ⟨(RT t).toArray⟩, .string ⟨#[48]⟩] 25)).alloc (by have := HB3.out.size; simp; omega) (.cells #[.string ⟨#[48]⟩, .string ⟨#[48]⟩, .string ⟨#[48]⟩, .string ⟨#[48]⟩, .string ⟨(RT t).toArray⟩, .string ⟨#[48]⟩] 25)
  have hr4 : ((w3.alloc (.cells #[.string ⟨#[48]⟩, .string ⟨#[48]⟩, .string ⟨#[48]⟩, .string ⟨#[48]⟩, .string ⟨(RT t).toArray⟩, .string ⟨#[48]⟩] 25)).alloc (.cells #[.string ⟨#[48]⟩, .string ⟨#[48]⟩, .string ⟨#[48]⟩, .string ⟨#[48]⟩, .string ⟨(RT t).toArray⟩, .string ⟨#[48]⟩] 25)).rowIs (w3.heap.size + 1) 25 6 (fun p => if p = 3 + 1 then .string ⟨(RT t).toArray⟩ else .string ⟨#[48]⟩) := by
    have h := World.rowIs_alloc (w3.alloc (.cells #[.string ⟨#[48]⟩, .string ⟨#[48]⟩, .string ⟨#[48]⟩, .string ⟨#[48]⟩, .string ⟨(RT t).toArray⟩, .string ⟨#[48]⟩] 25)) #[.string ⟨#[48]⟩, .string ⟨#[48]⟩, .string ⟨#[48]⟩, .string ⟨#[48]⟩, .string ⟨(RT t).toArray⟩, .string ⟨#[48]⟩] 25 (fun p => if p = 3 + 1 then .string ⟨(RT t).toArray⟩ else .string ⟨#[48]⟩) (by
      intro i hi
      match i, hi with
      | 0, _ => rfl
      | 1, _ => rfl
      | 2, _ => rfl
      | 3, _ => rfl
      | 4, _ => rfl
      | 5, _ => rfl)
    simpa using h
  have hz4 : ((w3.alloc (.cells #[.string ⟨#[48]⟩, .string ⟨#[48]⟩, .string ⟨#[48]⟩, .string ⟨#[48]⟩, .string ⟨(RT t).toArray⟩, .string ⟨#[48]⟩] 25)).alloc (.cells #[.string ⟨#[48]⟩, .string ⟨#[48]⟩, .string ⟨#[48]⟩, .string ⟨#[48]⟩, .string ⟨(RT t).toArray⟩, .string ⟨#[48]⟩] 25)).heap.size = w3.heap.size + 2 := by simp
  generalize ((w3.alloc (.cells #[.string ⟨#[48]⟩, .string ⟨#[48]⟩, .string ⟨#[48]⟩, .string ⟨#[48]⟩, .string ⟨(RT t).toArray⟩, .string ⟨#[48]⟩] 25)).alloc (.cells #[.string ⟨#[48]⟩, .string ⟨#[48]⟩, .string ⟨#[48]⟩, .string ⟨#[48]⟩, .string ⟨(RT t).toArray⟩, .string ⟨#[48]⟩] 25)) = w4 at *
  have A0 := hide hA0
  have A1 := hide hA1
  have A2 := hide hA2
  have B4 := hide hB4
  have R4 := hide hr4
  have Z4 := hide hz4
  clear hA0 hA1 hA2 hB4 hr4 hz4
  go_wp2_with fail
  go_loopg [9] 3 (fun n iv wr => ∃ j : Nat, iv = .int .i64 (j : Int) ∧ n + j = 3 ∧ wr.rowIs (w3.heap.size + 1) 25 6 (fun p => if p < j then .string ⟨(RT (-(psum (frm p x y z) (wq 1 t) 6))).toArray⟩ else if p = 3 + 1 then .string ⟨(RT t).toArray⟩ else .string ⟨#[48]⟩) ∧ Below (w3.heap.size + 1) w4 wr)
  case atStart => exact ⟨0, rfl, rfl, R4.out.congr (fun p _ => by simp), Below.refl _ _⟩
  case round =>
    obtain ⟨j, rfl, hn, hr, hb⟩ := hrel
    have HN := hide hn
    have HR := hide hr
    have HB := hide hb
    have HBw := hide (B4.out.trans (hb.mono (by omega)))
    have hile : j ≤ 3 := by omega
    clear hn hr hb
    by_cases hlt : j < 3
    · have hii : (j : Int) < 3 := by omega
      have hi0 : (0 : Int) ≤ (j : Int) := by omega
      have hZ0 := Blk.below A0.out HB.out (by omega)
      have hZ2 := Blk.below A2.out HB.out (by omega)
      have t0 : wr.cell? ⟨w3.heap.size, 0, none⟩ = some (.string ⟨#[48]⟩) := (Blk.cell hZ2 0).trans rfl
      have t1 : wr.cell? ⟨w3.heap.size, 1, none⟩ = some (.string ⟨#[48]⟩) := (Blk.cell hZ2 1).trans rfl
      have t2 : wr.cell? ⟨w3.heap.size, 2, none⟩ = some (.string ⟨#[48]⟩) := (Blk.cell hZ2 2).trans rfl
      have t3 : wr.cell? ⟨w3.heap.size, 3, none⟩ = some (.string ⟨#[48]⟩) := (Blk.cell hZ2 3).trans rfl
      have t4 : wr.cell? ⟨w3.heap.size, 4, none⟩ = some (.string ⟨(RT t).toArray⟩) := (Blk.cell hZ2 4).trans rfl
      have t5 : wr.cell? ⟨w3.heap.size, 5, none⟩ = some (.string ⟨#[48]⟩) := (Blk.cell hZ2 5).trans rfl
      have p0 : wr.cell? ⟨w.heap.size + 0, 0, none⟩ = some (.int .i64 x) := (Blk.cell hZ0 0).trans rfl
      have p1 : wr.cell? ⟨w.heap.size + 0, 1, none⟩ = some (.int .i64 y) := (Blk.cell hZ0 1).trans rfl
      have p2 : wr.cell? ⟨w.heap.size + 0, 2, none⟩ = some (.int .i64 z) := (Blk.cell hZ0 2).trans rfl
      rw [Nat.add_zero] at p0 p1 p2
      clear hZ0 hZ2
      have hl0 : w3.heap.size + 1 ≤ wr.heap.size := Nat.le_of_lt HR.out.lt
      have SK : ∀ w', Below (w3.heap.size + 1) wr w' → (fun w' => Below (w3.heap.size + 1) wr w' ∧ w'.cell? ⟨w3.heap.size, 0, none⟩ = some (.string ⟨#[48]⟩) ∧ w'.cell? ⟨w3.heap.size, 1, none⟩ = some (.string ⟨#[48]⟩) ∧ w'.cell? ⟨w3.heap.size, 2, none⟩ = some (.string ⟨#[48]⟩) ∧ w'.cell? ⟨w3.heap.size, 3, none⟩ = some (.string ⟨#[48]⟩) ∧ w'.cell? ⟨w3.heap.size, 4, none⟩ = some (.string ⟨(RT t).toArray⟩) ∧ w'.cell? ⟨w3.heap.size, 5, none⟩ = some (.string ⟨#[48]⟩) ∧ w'.cell? ⟨w.heap.size, 0, none⟩ = some (.int .i64 x) ∧ w'.cell? ⟨w.heap.size, 1, none⟩ = some (.int .i64 y) ∧ w'.cell? ⟨w.heap.size, 2, none⟩ = some (.int .i64 z)) w' := fun w' h => ⟨h, (bcell h _ _ (by omega)).trans t0, (bcell h _ _ (by omega)).trans t1, (bcell h _ _ (by omega)).trans t2, (bcell h _ _ (by omega)).trans t3, (bcell h _ _ (by omega)).trans t4, (bcell h _ _ (by omega)).trans t5, (bcell h _ _ (by omega)).trans p0, (bcell h _ _ (by omega)).trans p1, (bcell h _ _ (by omega)).trans p2⟩
      have MC := hide (fun W => rtcoo_any W j hlt x y z)
      have HCC := hide (coo_cb j HCO.out.1.cb HCO.out.2.1.cb HCO.out.2.2.cb)
      have MW : Hid (∀ W, Calls Tryz.prog 25 #[.int .i64 (coo j x y z)] W fun e w' => e = .returned (.string ⟨(RT ((coo j x y z : Int) : Rat)).toArray⟩) ∧ Below W.heap.size W w') := hide (fun W => r2whole_any _ (by have := HCC.out; unfold Cb at this; omega) (by have := HCC.out; unfold Cb at this; omega) W)
      have mm := fun W => rtmoved_any W j hlt x y z (wq 1 t) (m := m) (by omega) (fun i _ => wq_sz HQ.out i) HCO.out
      rw [tv_wq1] at mm
      have MM := hide mm
      clear mm
      have ml := fun W => rqless_any W ⟨(RT ((coo j x y z : Int) : Rat)).toArray⟩ ⟨(RT (mvd j x y z (wq 1 t))).toArray⟩ _ _ rfl rfl (m := 6 * 140 + 19) (by omega) (HCC.out.sz.mono (by omega) (by omega)) ((mvd_sz j HCO.out.1.cb HCO.out.2.1.cb HCO.out.2.2.cb (fun i _ => wq_sz HQ.out i)).mono (by omega) (by omega))
      rw [show ((coo j x y z : Int) : Rat) - mvd j x y z (wq 1 t) = -(psum (frm j x y z) (wq 1 t) 6) by unfold mvd; grind] at ml
      have ML := hide ml
      clear ml
      go_upto_region 7 with (fail)
      go_region_held3 (fun w' => Below (w3.heap.size + 1) wr w' ∧ w'.cell? ⟨w3.heap.size, 0, none⟩ = some (.string ⟨#[48]⟩) ∧ w'.cell? ⟨w3.heap.size, 1, none⟩ = some (.string ⟨#[48]⟩) ∧ w'.cell? ⟨w3.heap.size, 2, none⟩ = some (.string ⟨#[48]⟩) ∧ w'.cell? ⟨w3.heap.size, 3, none⟩ = some (.string ⟨#[48]⟩) ∧ w'.cell? ⟨w3.heap.size, 4, none⟩ = some (.string ⟨(RT t).toArray⟩) ∧ w'.cell? ⟨w3.heap.size, 5, none⟩ = some (.string ⟨#[48]⟩) ∧ w'.cell? ⟨w.heap.size, 0, none⟩ = some (.int .i64 x) ∧ w'.cell? ⟨w.heap.size, 1, none⟩ = some (.int .i64 y) ∧ w'.cell? ⟨w.heap.size, 2, none⟩ = some (.int .i64 z)) (first | exact SK _ (Below.refl _ _).drew | exact SK _ (Below.refl _ _) | exact SK _ (by assumption : Below (w3.heap.size + 1) wr _) | exact SK _ ((by assumption : Below (w3.heap.size + 1) wr _).setCell (Nat.le_refl _) _))
        (first
          | (go_at_call 100; refine (MC.out _).mono ?_; rintro e wx ⟨rfl, hbW⟩; have hd0 : Below wr.heap.size wr wx := (Below.refl _ _).drew.trans hbW; have hd := hd0.mono hl0)
          | (go_at_call 25; refine (MW.out _).mono ?_; rintro e wx ⟨rfl, hbW⟩; have hd1 : Below wr.heap.size wr wx := hd0.trans (hbW.mono hd0.size); have hd := hd1.mono hl0)
          | (go_at_call 94; refine (MM.out _).mono ?_; rintro e wx ⟨rfl, hbW⟩; have hd2 : Below wr.heap.size wr wx := hd1.trans (hbW.mono hd1.size); have hd := hd2.mono hl0)
          | (go_at_call 30; refine (ML.out _).mono ?_; rintro e wx ⟨rfl, hbW⟩; have hd3 : Below wr.heap.size wr wx := hd2.trans (hbW.mono hd2.size); have hd := hd3.mono hl0; have hr1 := HR.out.of_block (hd3.block _ HR.out.lt); have c0 := hr1.cell (show j < 6 by omega); have f0 := hr1.frozen j; rw [if_neg (by omega), if_neg (by omega)] at c0))
      obtain ⟨hbx, _⟩ : Below (w3.heap.size + 1) wr _ ∧ _ := by assumption
      have HX := hide (HB.out.trans hbx)
      have HR1 := hide hr1
      clear hbx hr1 c0 f0 hd SK t0 t1 t2 t3 t4 t5 p0 p1 p2
      go_wp2_with fail
      go_roundg (gk - 1)
      case measure => have := HN.out; omega
      case rel =>
        refine ⟨j + 1, by go_num, by have := HN.out; omega, (HR1.out.set j (.string ⟨(RT (-(psum (frm j x y z) (wq 1 t) 6))).toArray⟩)).congr (fun p hp => ?_), HX.out⟩
        by_cases e1 : p = j
        · simp [e1]
        · by_cases e2 : p < j
          · simp [e1, e2, show p < j + 1 by omega]
          · simp [e1, e2, show ¬ p < j + 1 by omega]
    · have hii : ¬ (j : Int) < 3 := by omega
      have hj6 : j = 3 := by omega
      subst hj6
      have c0 := HR.out.cell (show 0 < 6 by omega)
      have c1 := HR.out.cell (show 1 < 6 by omega)
      have c2 := HR.out.cell (show 2 < 6 by omega)
      have c3 := HR.out.cell (show 3 < 6 by omega)
      have c4 := HR.out.cell (show 4 < 6 by omega)
      have c5 := HR.out.cell (show 5 < 6 by omega)
      rw [if_pos (by omega)] at c0
      rw [if_pos (by omega)] at c1
      rw [if_pos (by omega)] at c2
      rw [if_neg (by omega), if_neg (by omega)] at c3
      rw [if_neg (by omega), if_pos (by omega)] at c4
      rw [if_neg (by omega), if_neg (by omega)] at c5
      have hZ2 := Blk.below A1.out HB.out (by omega)
      have rhz := hZ2
      have rz0 : wr.cell? ⟨w.heap.size + 1, 0, none⟩ = some (.string ⟨#[]⟩) := (Blk.cell rhz 0).trans rfl
      have rf0 : wr.frozen? ⟨w.heap.size + 1, 0, none⟩ = false := Blk.frozen rhz 0
      have rz1 : wr.cell? ⟨w.heap.size + 1, 1, none⟩ = some (.string ⟨#[]⟩) := (Blk.cell rhz 1).trans rfl
      have rf1 : wr.frozen? ⟨w.heap.size + 1, 1, none⟩ = false := Blk.frozen rhz 1
      have rz2 : wr.cell? ⟨w.heap.size + 1, 2, none⟩ = some (.string ⟨#[]⟩) := (Blk.cell rhz 2).trans rfl
      have rf2 : wr.frozen? ⟨w.heap.size + 1, 2, none⟩ = false := Blk.frozen rhz 2
      have rz3 : wr.cell? ⟨w.heap.size + 1, 3, none⟩ = some (.string ⟨#[]⟩) := (Blk.cell rhz 3).trans rfl
      have rf3 : wr.frozen? ⟨w.heap.size + 1, 3, none⟩ = false := Blk.frozen rhz 3
      have rz4 : wr.cell? ⟨w.heap.size + 1, 4, none⟩ = some (.string ⟨#[]⟩) := (Blk.cell rhz 4).trans rfl
      have rf4 : wr.frozen? ⟨w.heap.size + 1, 4, none⟩ = false := Blk.frozen rhz 4
      have rz5 : wr.cell? ⟨w.heap.size + 1, 5, none⟩ = some (.string ⟨#[]⟩) := (Blk.cell rhz 5).trans rfl
      have rf5 : wr.frozen? ⟨w.heap.size + 1, 5, none⟩ = false := Blk.frozen rhz 5
      clear hZ2 rhz
      go_wp2_with fail
      exact bodyPost_ret (v := .agg (TV (abt 1 x y z t))) (by simp [results, Tryz.results61, go_sem, abt, wq, RT_zeroT, rz0, rz1, rz2, rz3, rz4, rz5]) rfl ⟨rfl, ((((((HBw.out.setCell (p := ⟨w.heap.size + 1, 0, none⟩) (Nat.le_add_right _ _) _).setCell (p := ⟨w.heap.size + 1, 1, none⟩) (Nat.le_add_right _ _) _).setCell (p := ⟨w.heap.size + 1, 2, none⟩) (Nat.le_add_right _ _) _).setCell (p := ⟨w.heap.size + 1, 3, none⟩) (Nat.le_add_right _ _) _).setCell (p := ⟨w.heap.size + 1, 4, none⟩) (Nat.le_add_right _ _) _).setCell (p := ⟨w.heap.size + 1, 5, none⟩) (Nat.le_add_right _ _) _)⟩

theorem tv_wq2 (t : Rat) : TV (wq 2 t) = #[.string ⟨#[48]⟩, .string ⟨#[48]⟩, .string ⟨#[48]⟩, .string ⟨#[48]⟩, .string ⟨#[48]⟩, .string ⟨(RT t).toArray⟩] := by simp [TV, wq, RT_zeroT]
set_option maxRecDepth 100000 in
set_option maxHeartbeats 8000000 in
theorem raround2 (w : World) (x y z : Int) (t : Rat) {m : Nat} (hm : m ≤ 140) (hq : Sz m m t) (hw : Co x ∧ Co y ∧ Co z) :
    Calls Tryz.prog 61 #[.int .i64 2, .agg #[.int .i64 x, .int .i64 y, .int .i64 z], .string ⟨(RT t).toArray⟩] w fun e w' => e = .returned (.agg (TV (abt 2 x y z t))) ∧ Below w.heap.size w w' := by
  have HCO := hide hw
  have HQ := hide hq
  clear hw hq
  have hb0 := hide (allocs_below w [.cells #[.int .i64 x, .int .i64 y, .int .i64 z] 27, .cells six0 25])
  have K0 := hide (show Blk (allocs w [.cells #[.int .i64 x, .int .i64 y, .int .i64 z] 27, .cells six0 25]) (w.heap.size + 0) 27 #[.int .i64 x, .int .i64 y, .int .i64 z] from allocs_at w [.cells #[.int .i64 x, .int .i64 y, .int .i64 z] 27, .cells six0 25] 0 rfl)
  have K1 := hide (show Blk (allocs w [.cells #[.int .i64 x, .int .i64 y, .int .i64 z] 27, .cells six0 25]) (w.heap.size + 1) 25 six0 from allocs_at w [.cells #[.int .i64 x, .int .i64 y, .int .i64 z] 27, .cells six0 25] 1 rfl)
  go_enter Tryz.func61, Tryz.ntmps61
  go_wp2_with fail
  refine (rtzero_any _).mono ?_
  rintro e w3 ⟨rfl, hb3⟩
  have HL3 := hide hb3
  have HB3 := hide (hb0.out.trans (Below.mono hb3 hb0.out.size))
  clear hb3
  have hsz3 : w.heap.size + 1 < w3.heap.size := Blk.lt (Blk.below K1.out HL3.out (Blk.lt K1.out))
  go_upto_region 4 with (fail)
  have hA0 := ((Blk.below K0.out HL3.out (Blk.lt K0.out)).alloc (.cells #[.string ⟨#[48]⟩, .string ⟨#[48]⟩, .string ⟨#[48]⟩, .string ⟨#[48]⟩, .string ⟨#[48]⟩, .string ⟨(RT t).toArray⟩] 25)).alloc (.cells #[.string ⟨#[48]⟩, .string ⟨#[48]⟩, .string ⟨#[48]⟩, .string ⟨#[48]⟩, .string ⟨#[48]⟩, .string ⟨(RT t).toArray⟩] 25)
  have hA1 := ((Blk.below K1.out HL3.out (Blk.lt K1.out)).alloc (.cells #[.string ⟨#[48]⟩, .string ⟨#[48]⟩, .string ⟨#[48]⟩, .string ⟨#[48]⟩, .string ⟨#[48]⟩, .string ⟨(RT t).toArray⟩] 25)).alloc (.cells #[.string ⟨#[48]⟩, .string ⟨#[48]⟩, .string ⟨#[48]⟩, .string ⟨#[48]⟩, .string ⟨#[48]⟩, .string ⟨(RT t).toArray⟩] 25)
  have hA2 : Blk ((w3.alloc (.cells #[.string ⟨#[48]⟩, .string ⟨#[48]⟩, .string ⟨#[48]⟩, .string ⟨#[48]⟩, .string ⟨#[48]⟩, .string ⟨(RT t).toArray⟩] 25)).alloc (.cells #[.string ⟨#[48]⟩, .string ⟨#[48]⟩, .string ⟨#[48]⟩, .string ⟨#[48]⟩, .string ⟨#[48]⟩, .string ⟨(RT t).toArray⟩] 25)) w3.heap.size 25 #[.string ⟨#[48]⟩, .string ⟨#[48]⟩, .string ⟨#[48]⟩, .string ⟨#[48]⟩, .string ⟨#[48]⟩, .string ⟨(RT t).toArray⟩] := (Blk.new w3 25 #[.string ⟨#[48]⟩, .string ⟨#[48]⟩, .string ⟨#[48]⟩, .string ⟨#[48]⟩, .string ⟨#[48]⟩, .string ⟨(RT t).toArray⟩]).alloc (.cells #[.string ⟨#[48]⟩, .string ⟨#[48]⟩, .string ⟨#[48]⟩, .string ⟨#[48]⟩, .string ⟨#[48]⟩, .string ⟨(RT t).toArray⟩] 25)
  have hB4 := (HB3.out.alloc HB3.out.size (.cells #[.string ⟨#[48]⟩, .string ⟨#[48]⟩, .string ⟨#[48]⟩, .string ⟨#[48]⟩, .string ⟨#[48]⟩, .string ⟨(RT t).toArray⟩] 25)).alloc (by have := HB3.out.size; simp; omega) (.cells #[.string ⟨#[48]⟩, .string ⟨#[48]⟩, .string ⟨#[48]⟩, .string ⟨#[48]⟩, .string ⟨#[48]⟩, .string ⟨(RT t).toArray⟩] 25)
  have hr4 : ((w3.alloc (.cells #[.string ⟨#[48]⟩, .string ⟨#[48]⟩, .string ⟨#[48]⟩, .string ⟨#[48]⟩, .string ⟨#[48]⟩, .string ⟨(RT t).toArray⟩] 25)).alloc (.cells #[.string ⟨#[48]⟩, .string ⟨#[48]⟩, .string ⟨#[48]⟩, .string ⟨#[48]⟩, .string ⟨#[48]⟩, .string ⟨(RT t).toArray⟩] 25)).rowIs (w3.heap.size + 1) 25 6 (fun p => if p = 3 + 2 then .string ⟨(RT t).toArray⟩ else .string ⟨#[48]⟩) := by
    have h := World.rowIs_alloc (w3.alloc (.cells #[.string ⟨#[48]⟩, .string ⟨#[48]⟩, .string ⟨#[48]⟩, .string ⟨#[48]⟩, .string ⟨#[48]⟩, .string ⟨(RT t).toArray⟩] 25)) #[.string ⟨#[48]⟩, .string ⟨#[48]⟩, .string ⟨#[48]⟩, .string ⟨#[48]⟩, .string ⟨#[48]⟩, .string ⟨(RT t).toArray⟩] 25 (fun p => if p = 3 + 2 then .string ⟨(RT t).toArray⟩ else .string ⟨#[48]⟩) (by
      intro i hi
      match i, hi with
      | 0, _ => rfl
      | 1, _ => rfl
      | 2, _ => rfl
      | 3, _ => rfl
      | 4, _ => rfl
      | 5, _ => rfl)
    simpa using h
  have hz4 : ((w3.alloc (.cells #[.string ⟨#[48]⟩, .string ⟨#[48]⟩, .string ⟨#[48]⟩, .string ⟨#[48]⟩, .string ⟨#[48]⟩, .string ⟨(RT t).toArray⟩] 25)).alloc (.cells #[.string ⟨#[48]⟩, .string ⟨#[48]⟩, .string ⟨#[48]⟩, .string ⟨#[48]⟩, .string ⟨#[48]⟩, .string ⟨(RT t).toArray⟩] 25)).heap.size = w3.heap.size + 2 := by simp
  generalize ((w3.alloc (.cells #[.string ⟨#[48]⟩, .string ⟨#[48]⟩, .string ⟨#[48]⟩, .string ⟨#[48]⟩, .string ⟨#[48]⟩, .string ⟨(RT t).toArray⟩] 25)).alloc (.cells #[.string ⟨#[48]⟩, .string ⟨#[48]⟩, .string ⟨#[48]⟩, .string ⟨#[48]⟩, .string ⟨#[48]⟩, .string ⟨(RT t).toArray⟩] 25)) = w4 at *
  have A0 := hide hA0
  have A1 := hide hA1
  have A2 := hide hA2
  have B4 := hide hB4
  have R4 := hide hr4
  have Z4 := hide hz4
  clear hA0 hA1 hA2 hB4 hr4 hz4
  go_wp2_with fail
  go_loopg [9] 3 (fun n iv wr => ∃ j : Nat, iv = .int .i64 (j : Int) ∧ n + j = 3 ∧ wr.rowIs (w3.heap.size + 1) 25 6 (fun p => if p < j then .string ⟨(RT (-(psum (frm p x y z) (wq 2 t) 6))).toArray⟩ else if p = 3 + 2 then .string ⟨(RT t).toArray⟩ else .string ⟨#[48]⟩) ∧ Below (w3.heap.size + 1) w4 wr)
  case atStart => exact ⟨0, rfl, rfl, R4.out.congr (fun p _ => by simp), Below.refl _ _⟩
  case round =>
    obtain ⟨j, rfl, hn, hr, hb⟩ := hrel
    have HN := hide hn
    have HR := hide hr
    have HB := hide hb
    have HBw := hide (B4.out.trans (hb.mono (by omega)))
    have hile : j ≤ 3 := by omega
    clear hn hr hb
    by_cases hlt : j < 3
    · have hii : (j : Int) < 3 := by omega
      have hi0 : (0 : Int) ≤ (j : Int) := by omega
      have hZ0 := Blk.below A0.out HB.out (by omega)
      have hZ2 := Blk.below A2.out HB.out (by omega)
      have t0 : wr.cell? ⟨w3.heap.size, 0, none⟩ = some (.string ⟨#[48]⟩) := (Blk.cell hZ2 0).trans rfl
      have t1 : wr.cell? ⟨w3.heap.size, 1, none⟩ = some (.string ⟨#[48]⟩) := (Blk.cell hZ2 1).trans rfl
      have t2 : wr.cell? ⟨w3.heap.size, 2, none⟩ = some (.string ⟨#[48]⟩) := (Blk.cell hZ2 2).trans rfl
      have t3 : wr.cell? ⟨w3.heap.size, 3, none⟩ = some (.string ⟨#[48]⟩) := (Blk.cell hZ2 3).trans rfl
      have t4 : wr.cell? ⟨w3.heap.size, 4, none⟩ = some (.string ⟨#[48]⟩) := (Blk.cell hZ2 4).trans rfl
      have t5 : wr.cell? ⟨w3.heap.size, 5, none⟩ = some (.string ⟨(RT t).toArray⟩) := (Blk.cell hZ2 5).trans rfl
      have p0 : wr.cell? ⟨w.heap.size + 0, 0, none⟩ = some (.int .i64 x) := (Blk.cell hZ0 0).trans rfl
      have p1 : wr.cell? ⟨w.heap.size + 0, 1, none⟩ = some (.int .i64 y) := (Blk.cell hZ0 1).trans rfl
      have p2 : wr.cell? ⟨w.heap.size + 0, 2, none⟩ = some (.int .i64 z) := (Blk.cell hZ0 2).trans rfl
      rw [Nat.add_zero] at p0 p1 p2
      clear hZ0 hZ2
      have hl0 : w3.heap.size + 1 ≤ wr.heap.size := Nat.le_of_lt HR.out.lt
      have SK : ∀ w', Below (w3.heap.size + 1) wr w' → (fun w' => Below (w3.heap.size + 1) wr w' ∧ w'.cell? ⟨w3.heap.size, 0, none⟩ = some (.string ⟨#[48]⟩) ∧ w'.cell? ⟨w3.heap.size, 1, none⟩ = some (.string ⟨#[48]⟩) ∧ w'.cell? ⟨w3.heap.size, 2, none⟩ = some (.string ⟨#[48]⟩) ∧ w'.cell? ⟨w3.heap.size, 3, none⟩ = some (.string ⟨#[48]⟩) ∧ w'.cell? ⟨w3.heap.size, 4, none⟩ = some (.string ⟨#[48]⟩) ∧ w'.cell? ⟨w3.heap.size, 5, none⟩ = some (.string ⟨(RT t).toArray⟩) ∧ w'.cell? ⟨w.heap.size, 0, none⟩ = some (.int .i64 x) ∧ w'.cell? ⟨w.heap.size, 1, none⟩ = some (.int .i64 y) ∧ w'.cell? ⟨w.heap.size, 2, none⟩ = some (.int .i64 z)) w' := fun w' h => ⟨h, (bcell h _ _ (by omega)).trans t0, (bcell h _ _ (by omega)).trans t1, (bcell h _ _ (by omega)).trans t2, (bcell h _ _ (by omega)).trans t3, (bcell h _ _ (by omega)).trans t4, (bcell h _ _ (by omega)).trans t5, (bcell h _ _ (by omega)).trans p0, (bcell h _ _ (by omega)).trans p1, (bcell h _ _ (by omega)).trans p2⟩
      have MC := hide (fun W => rtcoo_any W j hlt x y z)
      have HCC := hide (coo_cb j HCO.out.1.cb HCO.out.2.1.cb HCO.out.2.2.cb)
      have MW : Hid (∀ W, Calls Tryz.prog 25 #[.int .i64 (coo j x y z)] W fun e w' => e = .returned (.string ⟨(RT ((coo j x y z : Int) : Rat)).toArray⟩) ∧ Below W.heap.size W w') := hide (fun W => r2whole_any _ (by have := HCC.out; unfold Cb at this; omega) (by have := HCC.out; unfold Cb at this; omega) W)
      have mm := fun W => rtmoved_any W j hlt x y z (wq 2 t) (m := m) (by omega) (fun i _ => wq_sz HQ.out i) HCO.out
      rw [tv_wq2] at mm
      have MM := hide mm
      clear mm
      have ml := fun W => rqless_any W ⟨(RT ((coo j x y z : Int) : Rat)).toArray⟩ ⟨(RT (mvd j x y z (wq 2 t))).toArray⟩ _ _ rfl rfl (m := 6 * 140 + 19) (by omega) (HCC.out.sz.mono (by omega) (by omega)) ((mvd_sz j HCO.out.1.cb HCO.out.2.1.cb HCO.out.2.2.cb (fun i _ => wq_sz HQ.out i)).mono (by omega) (by omega))
      rw [show ((coo j x y z : Int) : Rat) - mvd j x y z (wq 2 t) = -(psum (frm j x y z) (wq 2 t) 6) by unfold mvd; grind] at ml
      have ML := hide ml
      clear ml
      go_upto_region 7 with (fail)
      go_region_held3 (fun w' => Below (w3.heap.size + 1) wr w' ∧ w'.cell? ⟨w3.heap.size, 0, none⟩ = some (.string ⟨#[48]⟩) ∧ w'.cell? ⟨w3.heap.size, 1, none⟩ = some (.string ⟨#[48]⟩) ∧ w'.cell? ⟨w3.heap.size, 2, none⟩ = some (.string ⟨#[48]⟩) ∧ w'.cell? ⟨w3.heap.size, 3, none⟩ = some (.string ⟨#[48]⟩) ∧ w'.cell? ⟨w3.heap.size, 4, none⟩ = some (.string ⟨#[48]⟩) ∧ w'.cell? ⟨w3.heap.size, 5, none⟩ = some (.string ⟨(RT t).toArray⟩) ∧ w'.cell? ⟨w.heap.size, 0, none⟩ = some (.int .i64 x) ∧ w'.cell? ⟨w.heap.size, 1, none⟩ = some (.int .i64 y) ∧ w'.cell? ⟨w.heap.size, 2, none⟩ = some (.int .i64 z)) (first | exact SK _ (Below.refl _ _).drew | exact SK _ (Below.refl _ _) | exact SK _ (by assumption : Below (w3.heap.size + 1) wr _) | exact SK _ ((by assumption : Below (w3.heap.size + 1) wr _).setCell (Nat.le_refl _) _))
        (first
          | (go_at_call 100; refine (MC.out _).mono ?_; rintro e wx ⟨rfl, hbW⟩; have hd0 : Below wr.heap.size wr wx := (Below.refl _ _).drew.trans hbW; have hd := hd0.mono hl0)
          | (go_at_call 25; refine (MW.out _).mono ?_; rintro e wx ⟨rfl, hbW⟩; have hd1 : Below wr.heap.size wr wx := hd0.trans (hbW.mono hd0.size); have hd := hd1.mono hl0)
          | (go_at_call 94; refine (MM.out _).mono ?_; rintro e wx ⟨rfl, hbW⟩; have hd2 : Below wr.heap.size wr wx := hd1.trans (hbW.mono hd1.size); have hd := hd2.mono hl0)
          | (go_at_call 30; refine (ML.out _).mono ?_; rintro e wx ⟨rfl, hbW⟩; have hd3 : Below wr.heap.size wr wx := hd2.trans (hbW.mono hd2.size); have hd := hd3.mono hl0; have hr1 := HR.out.of_block (hd3.block _ HR.out.lt); have c0 := hr1.cell (show j < 6 by omega); have f0 := hr1.frozen j; rw [if_neg (by omega), if_neg (by omega)] at c0))
      obtain ⟨hbx, _⟩ : Below (w3.heap.size + 1) wr _ ∧ _ := by assumption
      have HX := hide (HB.out.trans hbx)
      have HR1 := hide hr1
      clear hbx hr1 c0 f0 hd SK t0 t1 t2 t3 t4 t5 p0 p1 p2
      go_wp2_with fail
      go_roundg (gk - 1)
      case measure => have := HN.out; omega
      case rel =>
        refine ⟨j + 1, by go_num, by have := HN.out; omega, (HR1.out.set j (.string ⟨(RT (-(psum (frm j x y z) (wq 2 t) 6))).toArray⟩)).congr (fun p hp => ?_), HX.out⟩
        by_cases e1 : p = j
        · simp [e1]
        · by_cases e2 : p < j
          · simp [e1, e2, show p < j + 1 by omega]
          · simp [e1, e2, show ¬ p < j + 1 by omega]
    · have hii : ¬ (j : Int) < 3 := by omega
      have hj6 : j = 3 := by omega
      subst hj6
      have c0 := HR.out.cell (show 0 < 6 by omega)
      have c1 := HR.out.cell (show 1 < 6 by omega)
      have c2 := HR.out.cell (show 2 < 6 by omega)
      have c3 := HR.out.cell (show 3 < 6 by omega)
      have c4 := HR.out.cell (show 4 < 6 by omega)
      have c5 := HR.out.cell (show 5 < 6 by omega)
      rw [if_pos (by omega)] at c0
      rw [if_pos (by omega)] at c1
      rw [if_pos (by omega)] at c2
      rw [if_neg (by omega), if_neg (by omega)] at c3
      rw [if_neg (by omega), if_neg (by omega)] at c4
      rw [if_neg (by omega), if_pos (by omega)] at c5
      have hZ2 := Blk.below A1.out HB.out (by omega)
      have rhz := hZ2
      have rz0 : wr.cell? ⟨w.heap.size + 1, 0, none⟩ = some (.string ⟨#[]⟩) := (Blk.cell rhz 0).trans rfl
      have rf0 : wr.frozen? ⟨w.heap.size + 1, 0, none⟩ = false := Blk.frozen rhz 0
      have rz1 : wr.cell? ⟨w.heap.size + 1, 1, none⟩ = some (.string ⟨#[]⟩) := (Blk.cell rhz 1).trans rfl
      have rf1 : wr.frozen? ⟨w.heap.size + 1, 1, none⟩ = false := Blk.frozen rhz 1
      have rz2 : wr.cell? ⟨w.heap.size + 1, 2, none⟩ = some (.string ⟨#[]⟩) := (Blk.cell rhz 2).trans rfl
      have rf2 : wr.frozen? ⟨w.heap.size + 1, 2, none⟩ = false := Blk.frozen rhz 2
      have rz3 : wr.cell? ⟨w.heap.size + 1, 3, none⟩ = some (.string ⟨#[]⟩) := (Blk.cell rhz 3).trans rfl
      have rf3 : wr.frozen? ⟨w.heap.size + 1, 3, none⟩ = false := Blk.frozen rhz 3
      have rz4 : wr.cell? ⟨w.heap.size + 1, 4, none⟩ = some (.string ⟨#[]⟩) := (Blk.cell rhz 4).trans rfl
      have rf4 : wr.frozen? ⟨w.heap.size + 1, 4, none⟩ = false := Blk.frozen rhz 4
      have rz5 : wr.cell? ⟨w.heap.size + 1, 5, none⟩ = some (.string ⟨#[]⟩) := (Blk.cell rhz 5).trans rfl
      have rf5 : wr.frozen? ⟨w.heap.size + 1, 5, none⟩ = false := Blk.frozen rhz 5
      clear hZ2 rhz
      go_wp2_with fail
      exact bodyPost_ret (v := .agg (TV (abt 2 x y z t))) (by simp [results, Tryz.results61, go_sem, abt, wq, RT_zeroT, rz0, rz1, rz2, rz3, rz4, rz5]) rfl ⟨rfl, ((((((HBw.out.setCell (p := ⟨w.heap.size + 1, 0, none⟩) (Nat.le_add_right _ _) _).setCell (p := ⟨w.heap.size + 1, 1, none⟩) (Nat.le_add_right _ _) _).setCell (p := ⟨w.heap.size + 1, 2, none⟩) (Nat.le_add_right _ _) _).setCell (p := ⟨w.heap.size + 1, 3, none⟩) (Nat.le_add_right _ _) _).setCell (p := ⟨w.heap.size + 1, 4, none⟩) (Nat.le_add_right _ _) _).setCell (p := ⟨w.heap.size + 1, 5, none⟩) (Nat.le_add_right _ _) _)⟩

set_option maxRecDepth 100000 in
set_option maxHeartbeats 4000000 in
theorem rabout_given (w : World) (k x y z : Int) (a : ByteArray) (c : Int) (hc : gvn k x y z = c) (h0 : c ≠ 0) :
    Calls Tryz.prog 21 #[.int .i64 k, .agg #[.int .i64 x, .int .i64 y, .int .i64 z], .string a] w fun e w' => e = .returned (.tuple #[.agg six0, .int .i64 c]) ∧ Below w.heap.size w w' := by
  have hb0 := hide (allocs_below w [.cells #[.int .i64 x, .int .i64 y, .int .i64 z] 27, .cells six0 25])
  have K0 := hide (show Blk (allocs w [.cells #[.int .i64 x, .int .i64 y, .int .i64 z] 27, .cells six0 25]) (w.heap.size + 0) 27 #[.int .i64 x, .int .i64 y, .int .i64 z] from allocs_at w [.cells #[.int .i64 x, .int .i64 y, .int .i64 z] 27, .cells six0 25] 0 rfl)
  have K1 := hide (show Blk (allocs w [.cells #[.int .i64 x, .int .i64 y, .int .i64 z] 27, .cells six0 25]) (w.heap.size + 1) 25 six0 from allocs_at w [.cells #[.int .i64 x, .int .i64 y, .int .i64 z] 27, .cells six0 25] 1 rfl)
  have HC := hide hc
  clear hc
  go_enter Tryz.func21, Tryz.ntmps21
  go_wp2_with fail
  refine (rtaxis_any _ k x y z).mono ?_
  rw [HC.out]
  rintro e w1 ⟨rfl, hb1⟩
  have HB1 := hide (hb0.out.trans (Below.mono hb1 hb0.out.size))
  have rhz := Blk.below K1.out hb1 (Blk.lt K1.out)
  have rz0 : w1.cell? ⟨w.heap.size + 1, 0, none⟩ = some (.string ⟨#[]⟩) := (Blk.cell rhz 0).trans rfl
  have rf0 := Blk.frozen rhz 0
  have rz1 : w1.cell? ⟨w.heap.size + 1, 1, none⟩ = some (.string ⟨#[]⟩) := (Blk.cell rhz 1).trans rfl
  have rf1 := Blk.frozen rhz 1
  have rz2 : w1.cell? ⟨w.heap.size + 1, 2, none⟩ = some (.string ⟨#[]⟩) := (Blk.cell rhz 2).trans rfl
  have rf2 := Blk.frozen rhz 2
  have rz3 : w1.cell? ⟨w.heap.size + 1, 3, none⟩ = some (.string ⟨#[]⟩) := (Blk.cell rhz 3).trans rfl
  have rf3 := Blk.frozen rhz 3
  have rz4 : w1.cell? ⟨w.heap.size + 1, 4, none⟩ = some (.string ⟨#[]⟩) := (Blk.cell rhz 4).trans rfl
  have rf4 := Blk.frozen rhz 4
  have rz5 : w1.cell? ⟨w.heap.size + 1, 5, none⟩ = some (.string ⟨#[]⟩) := (Blk.cell rhz 5).trans rfl
  have rf5 := Blk.frozen rhz 5
  clear rhz hb1 K0 K1
  go_wp2_with fail
  exact bodyPost_ret (v := .tuple #[.agg six0, .int .i64 c]) (by simp [results, Tryz.results21, go_sem, rz0, rz1, rz2, rz3, rz4, rz5]) rfl ⟨rfl, ((((((HB1.out.setCell (p := ⟨w.heap.size + 1, 0, none⟩) (Nat.le_add_right _ _) _).setCell (p := ⟨w.heap.size + 1, 1, none⟩) (Nat.le_add_right _ _) _).setCell (p := ⟨w.heap.size + 1, 2, none⟩) (Nat.le_add_right _ _) _).setCell (p := ⟨w.heap.size + 1, 3, none⟩) (Nat.le_add_right _ _) _).setCell (p := ⟨w.heap.size + 1, 4, none⟩) (Nat.le_add_right _ _) _).setCell (p := ⟨w.heap.size + 1, 5, none⟩) (Nat.le_add_right _ _) _)⟩

set_option maxRecDepth 100000 in
set_option maxHeartbeats 4000000 in
theorem rabout_bad (w : World) (k x y z : Int) (a : ByteArray) (c : Int) (hk : gvn k x y z = 0) (hc : chkR a.data.toList = c) (h0 : c ≠ 0) (ha : a.size ≤ 200000) :
    Calls Tryz.prog 21 #[.int .i64 k, .agg #[.int .i64 x, .int .i64 y, .int .i64 z], .string a] w fun e w' => e = .returned (.tuple #[.agg six0, .int .i64 c]) ∧ Below w.heap.size w w' := by
  have hb0 := hide (allocs_below w [.cells #[.int .i64 x, .int .i64 y, .int .i64 z] 27, .cells six0 25])
  have K0 := hide (show Blk (allocs w [.cells #[.int .i64 x, .int .i64 y, .int .i64 z] 27, .cells six0 25]) (w.heap.size + 0) 27 #[.int .i64 x, .int .i64 y, .int .i64 z] from allocs_at w [.cells #[.int .i64 x, .int .i64 y, .int .i64 z] 27, .cells six0 25] 0 rfl)
  have K1 := hide (show Blk (allocs w [.cells #[.int .i64 x, .int .i64 y, .int .i64 z] 27, .cells six0 25]) (w.heap.size + 1) 25 six0 from allocs_at w [.cells #[.int .i64 x, .int .i64 y, .int .i64 z] 27, .cells six0 25] 1 rfl)
  have HC := hide hc
  have HK := hide hk
  have HAS := hide ha
  clear hc hk ha
  go_enter Tryz.func21, Tryz.ntmps21
  go_wp2_with fail
  refine (rtaxis_any _ k x y z).mono ?_
  rw [HK.out]
  rintro e w1 ⟨rfl, hb1⟩
  have HB1 := hide (hb0.out.trans (Below.mono hb1 hb0.out.size))
  have HL1 := hide hb1
  clear hb1
  go_wp2_with fail
  refine (rrcheck_any _ a _ rfl HAS.out).mono ?_
  rw [HC.out]
  rintro e w2 ⟨rfl, hb2⟩
  have HL2 := hide (HL1.out.trans (Below.mono hb2 HL1.out.size))
  have HB2 := hide (HB1.out.trans (Below.mono hb2 HB1.out.size))
  clear hb2
  have rhz := Blk.below K1.out HL2.out (Blk.lt K1.out)
  have rz0 : w2.cell? ⟨w.heap.size + 1, 0, none⟩ = some (.string ⟨#[]⟩) := (Blk.cell rhz 0).trans rfl
  have rf0 := Blk.frozen rhz 0
  have rz1 : w2.cell? ⟨w.heap.size + 1, 1, none⟩ = some (.string ⟨#[]⟩) := (Blk.cell rhz 1).trans rfl
  have rf1 := Blk.frozen rhz 1
  have rz2 : w2.cell? ⟨w.heap.size + 1, 2, none⟩ = some (.string ⟨#[]⟩) := (Blk.cell rhz 2).trans rfl
  have rf2 := Blk.frozen rhz 2
  have rz3 : w2.cell? ⟨w.heap.size + 1, 3, none⟩ = some (.string ⟨#[]⟩) := (Blk.cell rhz 3).trans rfl
  have rf3 := Blk.frozen rhz 3
  have rz4 : w2.cell? ⟨w.heap.size + 1, 4, none⟩ = some (.string ⟨#[]⟩) := (Blk.cell rhz 4).trans rfl
  have rf4 := Blk.frozen rhz 4
  have rz5 : w2.cell? ⟨w.heap.size + 1, 5, none⟩ = some (.string ⟨#[]⟩) := (Blk.cell rhz 5).trans rfl
  have rf5 := Blk.frozen rhz 5
  clear rhz K0 K1
  go_wp2_with fail
  exact bodyPost_ret (v := .tuple #[.agg six0, .int .i64 c]) (by simp [results, Tryz.results21, go_sem, rz0, rz1, rz2, rz3, rz4, rz5]) rfl ⟨rfl, ((((((HB2.out.setCell (p := ⟨w.heap.size + 1, 0, none⟩) (Nat.le_add_right _ _) _).setCell (p := ⟨w.heap.size + 1, 1, none⟩) (Nat.le_add_right _ _) _).setCell (p := ⟨w.heap.size + 1, 2, none⟩) (Nat.le_add_right _ _) _).setCell (p := ⟨w.heap.size + 1, 3, none⟩) (Nat.le_add_right _ _) _).setCell (p := ⟨w.heap.size + 1, 4, none⟩) (Nat.le_add_right _ _) _).setCell (p := ⟨w.heap.size + 1, 5, none⟩) (Nat.le_add_right _ _) _)⟩

set_option maxRecDepth 100000 in
set_option maxHeartbeats 4000000 in
theorem rabout0 (w : World) (x y z : Int) (t : Rat) {m : Nat} (hm : m ≤ 140) (hq : Sz m m t) (hw : Co x ∧ Co y ∧ Co z) :
    Calls Tryz.prog 21 #[.int .i64 0, .agg #[.int .i64 x, .int .i64 y, .int .i64 z], .string ⟨(RT t).toArray⟩] w fun e w' => e = .returned (.tuple #[.agg (TV (abt 0 x y z t)), .int .i64 0]) ∧ Below w.heap.size w w' := by
  have hfit := hq.fit (by omega) (by omega)
  have ha : (⟨(RT t).toArray⟩ : ByteArray).size ≤ 200000 := by have := RT_len hfit; rw [Lib.size_eq]; show (RT t).length ≤ 200000; omega
  have HC := hide (show chkR (⟨(RT t).toArray⟩ : ByteArray).data.toList = 0 from chkR_RT hfit)
  have HK := hide (show gvn 0 x y z = 0 by rw [gvn, if_neg (by omega), if_pos hw])
  have HAS := hide ha
  have HG := hide (fun W => raround0 W x y z t hm hq hw)
  clear ha hw hq hfit
  have hb0 := hide (allocs_below w [.cells #[.int .i64 x, .int .i64 y, .int .i64 z] 27, .cells six0 25])
  have K0 := hide (show Blk (allocs w [.cells #[.int .i64 x, .int .i64 y, .int .i64 z] 27, .cells six0 25]) (w.heap.size + 0) 27 #[.int .i64 x, .int .i64 y, .int .i64 z] from allocs_at w [.cells #[.int .i64 x, .int .i64 y, .int .i64 z] 27, .cells six0 25] 0 rfl)
  have K1 := hide (show Blk (allocs w [.cells #[.int .i64 x, .int .i64 y, .int .i64 z] 27, .cells six0 25]) (w.heap.size + 1) 25 six0 from allocs_at w [.cells #[.int .i64 x, .int .i64 y, .int .i64 z] 27, .cells six0 25] 1 rfl)
  go_enter Tryz.func21, Tryz.ntmps21
  go_wp2_with fail
  refine (rtaxis_any _ 0 x y z).mono ?_
  rw [HK.out]
  rintro e w1 ⟨rfl, hb1⟩
  have HB1 := hide (hb0.out.trans (Below.mono hb1 hb0.out.size))
  have HL1 := hide hb1
  clear hb1
  go_wp2_with fail
  refine (rrcheck_any _ ⟨(RT t).toArray⟩ _ rfl HAS.out).mono ?_
  rw [HC.out]
  rintro e w2 ⟨rfl, hb2⟩
  have HL2 := hide (HL1.out.trans (Below.mono hb2 HL1.out.size))
  have HB2 := hide (HB1.out.trans (Below.mono hb2 HB1.out.size))
  clear hb2
  have hA0 := Blk.below K0.out HL2.out (Blk.lt K0.out)
  have p0 : w2.cell? ⟨w.heap.size + 0, 0, none⟩ = some (.int .i64 x) := (Blk.cell hA0 0).trans rfl
  have p1 : w2.cell? ⟨w.heap.size + 0, 1, none⟩ = some (.int .i64 y) := (Blk.cell hA0 1).trans rfl
  have p2 : w2.cell? ⟨w.heap.size + 0, 2, none⟩ = some (.int .i64 z) := (Blk.cell hA0 2).trans rfl
  rw [Nat.add_zero] at p0 p1 p2
  clear hA0
  go_wp2_with fail
  refine (HG.out _).mono ?_
  rintro e w3 ⟨rfl, hb3⟩
  have HL3 := hide (HL2.out.trans (Below.mono hb3 HL2.out.size))
  have HB3 := hide (HB2.out.trans (Below.mono hb3 HB2.out.size))
  clear hb3 p0 p1 p2
  have rhz := Blk.below K1.out HL3.out (Blk.lt K1.out)
  have rz0 : w3.cell? ⟨w.heap.size + 1, 0, none⟩ = some (.string ⟨#[]⟩) := (Blk.cell rhz 0).trans rfl
  have rf0 := Blk.frozen rhz 0
  have rz1 : w3.cell? ⟨w.heap.size + 1, 1, none⟩ = some (.string ⟨#[]⟩) := (Blk.cell rhz 1).trans rfl
  have rf1 := Blk.frozen rhz 1
  have rz2 : w3.cell? ⟨w.heap.size + 1, 2, none⟩ = some (.string ⟨#[]⟩) := (Blk.cell rhz 2).trans rfl
  have rf2 := Blk.frozen rhz 2
  have rz3 : w3.cell? ⟨w.heap.size + 1, 3, none⟩ = some (.string ⟨#[]⟩) := (Blk.cell rhz 3).trans rfl
  have rf3 := Blk.frozen rhz 3
  have rz4 : w3.cell? ⟨w.heap.size + 1, 4, none⟩ = some (.string ⟨#[]⟩) := (Blk.cell rhz 4).trans rfl
  have rf4 := Blk.frozen rhz 4
  have rz5 : w3.cell? ⟨w.heap.size + 1, 5, none⟩ = some (.string ⟨#[]⟩) := (Blk.cell rhz 5).trans rfl
  have rf5 := Blk.frozen rhz 5
  clear rhz K0 K1
  go_wp2_with fail
  exact bodyPost_ret (v := .tuple #[.agg (TV (abt 0 x y z t)), .int .i64 0]) (by simp [results, Tryz.results21, go_sem, rz0, rz1, rz2, rz3, rz4, rz5]) rfl ⟨rfl, ((((((HB3.out.setCell (p := ⟨w.heap.size + 1, 0, none⟩) (Nat.le_add_right _ _) _).setCell (p := ⟨w.heap.size + 1, 1, none⟩) (Nat.le_add_right _ _) _).setCell (p := ⟨w.heap.size + 1, 2, none⟩) (Nat.le_add_right _ _) _).setCell (p := ⟨w.heap.size + 1, 3, none⟩) (Nat.le_add_right _ _) _).setCell (p := ⟨w.heap.size + 1, 4, none⟩) (Nat.le_add_right _ _) _).setCell (p := ⟨w.heap.size + 1, 5, none⟩) (Nat.le_add_right _ _) _)⟩

set_option maxRecDepth 100000 in
set_option maxHeartbeats 4000000 in
theorem rabout1 (w : World) (x y z : Int) (t : Rat) {m : Nat} (hm : m ≤ 140) (hq : Sz m m t) (hw : Co x ∧ Co y ∧ Co z) :
    Calls Tryz.prog 21 #[.int .i64 1, .agg #[.int .i64 x, .int .i64 y, .int .i64 z], .string ⟨(RT t).toArray⟩] w fun e w' => e = .returned (.tuple #[.agg (TV (abt 1 x y z t)), .int .i64 0]) ∧ Below w.heap.size w w' := by
  have hfit := hq.fit (by omega) (by omega)
  have ha : (⟨(RT t).toArray⟩ : ByteArray).size ≤ 200000 := by have := RT_len hfit; rw [Lib.size_eq]; show (RT t).length ≤ 200000; omega
  have HC := hide (show chkR (⟨(RT t).toArray⟩ : ByteArray).data.toList = 0 from chkR_RT hfit)
  have HK := hide (show gvn 1 x y z = 0 by rw [gvn, if_neg (by omega), if_pos hw])
  have HAS := hide ha
  have HG := hide (fun W => raround1 W x y z t hm hq hw)
  clear ha hw hq hfit
  have hb0 := hide (allocs_below w [.cells #[.int .i64 x, .int .i64 y, .int .i64 z] 27, .cells six0 25])
  have K0 := hide (show Blk (allocs w [.cells #[.int .i64 x, .int .i64 y, .int .i64 z] 27, .cells six0 25]) (w.heap.size + 0) 27 #[.int .i64 x, .int .i64 y, .int .i64 z] from allocs_at w [.cells #[.int .i64 x, .int .i64 y, .int .i64 z] 27, .cells six0 25] 0 rfl)
  have K1 := hide (show Blk (allocs w [.cells #[.int .i64 x, .int .i64 y, .int .i64 z] 27, .cells six0 25]) (w.heap.size + 1) 25 six0 from allocs_at w [.cells #[.int .i64 x, .int .i64 y, .int .i64 z] 27, .cells six0 25] 1 rfl)
  go_enter Tryz.func21, Tryz.ntmps21
  go_wp2_with fail
  refine (rtaxis_any _ 1 x y z).mono ?_
  rw [HK.out]
  rintro e w1 ⟨rfl, hb1⟩
  have HB1 := hide (hb0.out.trans (Below.mono hb1 hb0.out.size))
  have HL1 := hide hb1
  clear hb1
  go_wp2_with fail
  refine (rrcheck_any _ ⟨(RT t).toArray⟩ _ rfl HAS.out).mono ?_
  rw [HC.out]
  rintro e w2 ⟨rfl, hb2⟩
  have HL2 := hide (HL1.out.trans (Below.mono hb2 HL1.out.size))
  have HB2 := hide (HB1.out.trans (Below.mono hb2 HB1.out.size))
  clear hb2
  have hA0 := Blk.below K0.out HL2.out (Blk.lt K0.out)
  have p0 : w2.cell? ⟨w.heap.size + 0, 0, none⟩ = some (.int .i64 x) := (Blk.cell hA0 0).trans rfl
  have p1 : w2.cell? ⟨w.heap.size + 0, 1, none⟩ = some (.int .i64 y) := (Blk.cell hA0 1).trans rfl
  have p2 : w2.cell? ⟨w.heap.size + 0, 2, none⟩ = some (.int .i64 z) := (Blk.cell hA0 2).trans rfl
  rw [Nat.add_zero] at p0 p1 p2
  clear hA0
  go_wp2_with fail
  refine (HG.out _).mono ?_
  rintro e w3 ⟨rfl, hb3⟩
  have HL3 := hide (HL2.out.trans (Below.mono hb3 HL2.out.size))
  have HB3 := hide (HB2.out.trans (Below.mono hb3 HB2.out.size))
  clear hb3 p0 p1 p2
  have rhz := Blk.below K1.out HL3.out (Blk.lt K1.out)
  have rz0 : w3.cell? ⟨w.heap.size + 1, 0, none⟩ = some (.string ⟨#[]⟩) := (Blk.cell rhz 0).trans rfl
  have rf0 := Blk.frozen rhz 0
  have rz1 : w3.cell? ⟨w.heap.size + 1, 1, none⟩ = some (.string ⟨#[]⟩) := (Blk.cell rhz 1).trans rfl
  have rf1 := Blk.frozen rhz 1
  have rz2 : w3.cell? ⟨w.heap.size + 1, 2, none⟩ = some (.string ⟨#[]⟩) := (Blk.cell rhz 2).trans rfl
  have rf2 := Blk.frozen rhz 2
  have rz3 : w3.cell? ⟨w.heap.size + 1, 3, none⟩ = some (.string ⟨#[]⟩) := (Blk.cell rhz 3).trans rfl
  have rf3 := Blk.frozen rhz 3
  have rz4 : w3.cell? ⟨w.heap.size + 1, 4, none⟩ = some (.string ⟨#[]⟩) := (Blk.cell rhz 4).trans rfl
  have rf4 := Blk.frozen rhz 4
  have rz5 : w3.cell? ⟨w.heap.size + 1, 5, none⟩ = some (.string ⟨#[]⟩) := (Blk.cell rhz 5).trans rfl
  have rf5 := Blk.frozen rhz 5
  clear rhz K0 K1
  go_wp2_with fail
  exact bodyPost_ret (v := .tuple #[.agg (TV (abt 1 x y z t)), .int .i64 0]) (by simp [results, Tryz.results21, go_sem, rz0, rz1, rz2, rz3, rz4, rz5]) rfl ⟨rfl, ((((((HB3.out.setCell (p := ⟨w.heap.size + 1, 0, none⟩) (Nat.le_add_right _ _) _).setCell (p := ⟨w.heap.size + 1, 1, none⟩) (Nat.le_add_right _ _) _).setCell (p := ⟨w.heap.size + 1, 2, none⟩) (Nat.le_add_right _ _) _).setCell (p := ⟨w.heap.size + 1, 3, none⟩) (Nat.le_add_right _ _) _).setCell (p := ⟨w.heap.size + 1, 4, none⟩) (Nat.le_add_right _ _) _).setCell (p := ⟨w.heap.size + 1, 5, none⟩) (Nat.le_add_right _ _) _)⟩

set_option maxRecDepth 100000 in
set_option maxHeartbeats 4000000 in
theorem rabout2 (w : World) (x y z : Int) (t : Rat) {m : Nat} (hm : m ≤ 140) (hq : Sz m m t) (hw : Co x ∧ Co y ∧ Co z) :
    Calls Tryz.prog 21 #[.int .i64 2, .agg #[.int .i64 x, .int .i64 y, .int .i64 z], .string ⟨(RT t).toArray⟩] w fun e w' => e = .returned (.tuple #[.agg (TV (abt 2 x y z t)), .int .i64 0]) ∧ Below w.heap.size w w' := by
  have hfit := hq.fit (by omega) (by omega)
  have ha : (⟨(RT t).toArray⟩ : ByteArray).size ≤ 200000 := by have := RT_len hfit; rw [Lib.size_eq]; show (RT t).length ≤ 200000; omega
  have HC := hide (show chkR (⟨(RT t).toArray⟩ : ByteArray).data.toList = 0 from chkR_RT hfit)
  have HK := hide (show gvn 2 x y z = 0 by rw [gvn, if_neg (by omega), if_pos hw])
  have HAS := hide ha
  have HG := hide (fun W => raround2 W x y z t hm hq hw)
  clear ha hw hq hfit
  have hb0 := hide (allocs_below w [.cells #[.int .i64 x, .int .i64 y, .int .i64 z] 27, .cells six0 25])
  have K0 := hide (show Blk (allocs w [.cells #[.int .i64 x, .int .i64 y, .int .i64 z] 27, .cells six0 25]) (w.heap.size + 0) 27 #[.int .i64 x, .int .i64 y, .int .i64 z] from allocs_at w [.cells #[.int .i64 x, .int .i64 y, .int .i64 z] 27, .cells six0 25] 0 rfl)
  have K1 := hide (show Blk (allocs w [.cells #[.int .i64 x, .int .i64 y, .int .i64 z] 27, .cells six0 25]) (w.heap.size + 1) 25 six0 from allocs_at w [.cells #[.int .i64 x, .int .i64 y, .int .i64 z] 27, .cells six0 25] 1 rfl)
  go_enter Tryz.func21, Tryz.ntmps21
  go_wp2_with fail
  refine (rtaxis_any _ 2 x y z).mono ?_
  rw [HK.out]
  rintro e w1 ⟨rfl, hb1⟩
  have HB1 := hide (hb0.out.trans (Below.mono hb1 hb0.out.size))
  have HL1 := hide hb1
  clear hb1
  go_wp2_with fail
  refine (rrcheck_any _ ⟨(RT t).toArray⟩ _ rfl HAS.out).mono ?_
  rw [HC.out]
  rintro e w2 ⟨rfl, hb2⟩
  have HL2 := hide (HL1.out.trans (Below.mono hb2 HL1.out.size))
  have HB2 := hide (HB1.out.trans (Below.mono hb2 HB1.out.size))
  clear hb2
  have hA0 := Blk.below K0.out HL2.out (Blk.lt K0.out)
  have p0 : w2.cell? ⟨w.heap.size + 0, 0, none⟩ = some (.int .i64 x) := (Blk.cell hA0 0).trans rfl
  have p1 : w2.cell? ⟨w.heap.size + 0, 1, none⟩ = some (.int .i64 y) := (Blk.cell hA0 1).trans rfl
  have p2 : w2.cell? ⟨w.heap.size + 0, 2, none⟩ = some (.int .i64 z) := (Blk.cell hA0 2).trans rfl
  rw [Nat.add_zero] at p0 p1 p2
  clear hA0
  go_wp2_with fail
  refine (HG.out _).mono ?_
  rintro e w3 ⟨rfl, hb3⟩
  have HL3 := hide (HL2.out.trans (Below.mono hb3 HL2.out.size))
  have HB3 := hide (HB2.out.trans (Below.mono hb3 HB2.out.size))
  clear hb3 p0 p1 p2
  have rhz := Blk.below K1.out HL3.out (Blk.lt K1.out)
  have rz0 : w3.cell? ⟨w.heap.size + 1, 0, none⟩ = some (.string ⟨#[]⟩) := (Blk.cell rhz 0).trans rfl
  have rf0 := Blk.frozen rhz 0
  have rz1 : w3.cell? ⟨w.heap.size + 1, 1, none⟩ = some (.string ⟨#[]⟩) := (Blk.cell rhz 1).trans rfl
  have rf1 := Blk.frozen rhz 1
  have rz2 : w3.cell? ⟨w.heap.size + 1, 2, none⟩ = some (.string ⟨#[]⟩) := (Blk.cell rhz 2).trans rfl
  have rf2 := Blk.frozen rhz 2
  have rz3 : w3.cell? ⟨w.heap.size + 1, 3, none⟩ = some (.string ⟨#[]⟩) := (Blk.cell rhz 3).trans rfl
  have rf3 := Blk.frozen rhz 3
  have rz4 : w3.cell? ⟨w.heap.size + 1, 4, none⟩ = some (.string ⟨#[]⟩) := (Blk.cell rhz 4).trans rfl
  have rf4 := Blk.frozen rhz 4
  have rz5 : w3.cell? ⟨w.heap.size + 1, 5, none⟩ = some (.string ⟨#[]⟩) := (Blk.cell rhz 5).trans rfl
  have rf5 := Blk.frozen rhz 5
  clear rhz K0 K1
  go_wp2_with fail
  exact bodyPost_ret (v := .tuple #[.agg (TV (abt 2 x y z t)), .int .i64 0]) (by simp [results, Tryz.results21, go_sem, rz0, rz1, rz2, rz3, rz4, rz5]) rfl ⟨rfl, ((((((HB3.out.setCell (p := ⟨w.heap.size + 1, 0, none⟩) (Nat.le_add_right _ _) _).setCell (p := ⟨w.heap.size + 1, 1, none⟩) (Nat.le_add_right _ _) _).setCell (p := ⟨w.heap.size + 1, 2, none⟩) (Nat.le_add_right _ _) _).setCell (p := ⟨w.heap.size + 1, 3, none⟩) (Nat.le_add_right _ _) _).setCell (p := ⟨w.heap.size + 1, 4, none⟩) (Nat.le_add_right _ _) _).setCell (p := ⟨w.heap.size + 1, 5, none⟩) (Nat.le_add_right _ _) _)⟩
end Go.Proofs.YtdkilkliccljeaaGreatDoor
