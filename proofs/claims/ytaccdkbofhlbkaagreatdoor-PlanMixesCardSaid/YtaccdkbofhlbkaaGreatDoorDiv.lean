/- whole: parted, Quo, Gcd. -/
import Derived.Test.YtaccdkbofhlbkaaGreatDoorOps
import Derived.Test.YtaccdkbofhlbkaaGreatDoorEstimate
namespace Go.Proofs.YtaccdkbofhlbkaaGreatDoor
open Go.RowKit MLab

/-- A floor quotient and its rest. -/
theorem floor_of {x y q r : Int} (h : x = q * y + r) (hr : (0 ≤ r ∧ r < y) ∨ (y < r ∧ r ≤ 0)) : x.fdiv y = q ∧ x.fmod y = r := by
  rcases hr with hr | hr
  · exact (Int.fdiv_fmod_unique (by omega)).2 ⟨by rw [h, Int.mul_comm]; omega, hr.1, hr.2⟩
  · exact (Int.fdiv_fmod_unique' (by omega)).2 ⟨by rw [h, Int.mul_comm]; omega, hr.1, hr.2⟩

theorem tdiv_floor {x y : Int} (hy : y ≠ 0) : (x.tmod y = 0 ∨ (x.tmod y < 0 ↔ y < 0) → x.fdiv y = x.tdiv y ∧ x.fmod y = x.tmod y) ∧
    (x.tmod y ≠ 0 → ¬ (x.tmod y < 0 ↔ y < 0) → x.fdiv y = x.tdiv y - 1 ∧ x.fmod y = x.tmod y + y) := by
  have e : x = x.tdiv y * y + x.tmod y := (Int.tdiv_mul_add_tmod x y).symm
  have h1 : (x.tmod y).natAbs < y.natAbs := by rw [Int.natAbs_tmod]; exact Nat.mod_lt _ (by omega)
  refine ⟨fun h => ?_, fun h2 h => ?_⟩
  · exact floor_of e (by omega)
  · refine floor_of ?_ (by omega)
    rw [Int.sub_mul]; omega

/-- The floor quotient out of magnitudes. -/
theorem mag_floor {x y : Int} (hy : y ≠ 0) : ((x.natAbs % y.natAbs = 0 ∨ decide (x < 0) = decide (y < 0)) → x.fdiv y = sval (decide (x < 0) != decide (y < 0)) (x.natAbs / y.natAbs) ∧ x.fmod y = sval (decide (x < 0)) (x.natAbs % y.natAbs)) ∧
    (x.natAbs % y.natAbs ≠ 0 → decide (x < 0) ≠ decide (y < 0) → x.fdiv y = sval true (x.natAbs / y.natAbs) + sval true 1 ∧ x.fmod y = sval (decide (x < 0)) (x.natAbs % y.natAbs) + y) := by
  have h1 : x.natAbs % y.natAbs < y.natAbs := Nat.mod_lt _ (by omega)
  have h2 := Nat.div_add_mod x.natAbs y.natAbs
  have h3 : ((y.natAbs * (x.natAbs / y.natAbs) + x.natAbs % y.natAbs : Nat) : Int) = (x.natAbs : Int) := by rw [h2]
  rw [Int.natCast_add, Int.natCast_mul] at h3
  generalize x.natAbs / y.natAbs = Q at *
  generalize x.natAbs % y.natAbs = R at *
  clear h2
  constructor
  · intro h
    refine floor_of ?_ ?_
    · by_cases hx : x < 0 <;> by_cases hy' : y < 0 <;> simp [sval, hx, hy']
      · rw [show (y.natAbs : Int) = -y by omega, show (x.natAbs : Int) = -x by omega, Int.neg_mul, Int.mul_comm] at h3; omega
      · rw [show (y.natAbs : Int) = y by omega, show (x.natAbs : Int) = -x by omega, Int.mul_comm] at h3; rw [Int.neg_mul]; omega
      · rw [show (y.natAbs : Int) = -y by omega, show (x.natAbs : Int) = x by omega, Int.neg_mul, Int.mul_comm] at h3; rw [Int.neg_mul]; omega
      · rw [show (y.natAbs : Int) = y by omega, show (x.natAbs : Int) = x by omega, Int.mul_comm] at h3; omega
    · by_cases hx : x < 0 <;> by_cases hy' : y < 0 <;> simp [sval, hx, hy'] at h ⊢ <;> omega
  · intro h0 h
    refine floor_of ?_ ?_
    · by_cases hx : x < 0 <;> by_cases hy' : y < 0 <;> simp [sval, hx, hy'] at h ⊢
      · rw [show (y.natAbs : Int) = y by omega, show (x.natAbs : Int) = -x by omega, Int.mul_comm] at h3; rw [Int.add_mul, Int.neg_mul, Int.neg_mul, Int.one_mul]; omega
      · rw [show (y.natAbs : Int) = -y by omega, show (x.natAbs : Int) = x by omega, Int.neg_mul, Int.mul_comm] at h3; rw [Int.add_mul, Int.neg_mul, Int.neg_mul, Int.one_mul]; omega
    · by_cases hx : x < 0 <;> by_cases hy' : y < 0 <;> simp [sval, hx, hy'] at h ⊢ <;> omega

/-- Three results of parted. -/
def RetParted (x y : Int) (e : Ending) : Prop := e = .returned (.tuple #[.string ⟨(T (x.fdiv y)).toArray⟩, .string ⟨(T (x.fmod y)).toArray⟩, .int .i64 0])

theorem results_tmp3 {fn : Func} {t u v : Tmp} (h : fn.results = #[.tmp t, .tmp u, .tmp v]) (tmps : Array Value) (P : Program) (w : World) :
    (results fn tmps).run P w = .ok (.tuple #[tmps.getD t undef, tmps.getD u undef, tmps.getD v undef]) w := by simp [results, h]

set_option maxRecDepth 100000 in
set_option maxHeartbeats 2000000 in
theorem parted_small (w : World) (a b : ByteArray) (x y : Int) (h : Two a b x y) (hy : y ≠ 0) (h1 : a.size ≤ 9) (h2 : b.size ≤ 9) (hs : Std w) :
    Calls Tryz.prog 140 #[.string a, .string b] w fun e w' => RetParted x y e ∧ Below w.heap.size w w' := by
  have hb0 : (b.toList == [48]) = false := by
    rw [Lib.toList_data, h.hb, beq_eq_false_iff_ne]; intro e; exact hy (T_inj (e.trans T_zero.symm))
  obtain ⟨b1, b2⟩ := h.short h1 h2
  have H := hide h
  have HS := hide hs
  have htd : (x.tdiv y).natAbs ≤ x.natAbs := by rw [Int.natAbs_tdiv]; exact Nat.div_le_self _ _
  have htm : (x.tmod y).natAbs < y.natAbs := by rw [Int.natAbs_tmod]; exact Nat.mod_lt _ (by omega)
  have hfl := tdiv_floor (x := x) hy
  have HFL := hide hfl
  clear h hs hfl
  have ey : (y == 0) = false := by rw [beq_eq_false_iff_ne]; exact hy
  have ew1 : IntKind.i64.wrap (x.tdiv y) = x.tdiv y := IntWalk.i64_in _ ⟨by omega, by omega⟩
  have ew2 : IntKind.i64.wrap (x.tmod y) = x.tmod y := IntWalk.i64_in _ ⟨by omega, by omega⟩
  have q1 : -1000000000 < x.tdiv y := by omega
  have q2 : x.tdiv y < 1000000000 := by omega
  have r1 : -1000000000 < x.tmod y := by omega
  have r2 : x.tmod y < 1000000000 := by omega
  have y1 : -1000000000 < y := by omega
  have y2 : y < 1000000000 := by omega
  go_enter Tryz.func140, Tryz.ntmps140
  go_wp2_with fail
  refine (all_two _ _ _ x y H.out.ha H.out.hb H.out.bx H.out.bz _).mono ?_
  rintro e w1 ⟨rfl, hb1⟩
  have K1 := hide hb1
  clear hb1
  go_wp2_with fail
  refine (small_yes _ _ _ x y H.out.ha H.out.hb h1 h2).mono ?_
  rintro e w2 ⟨rfl, hb2⟩
  have K2 := hide (K1.out.trans (hb2.mono K1.out.size))
  clear hb2
  go_wp2_with fail
  go_quiet (fail)
  clear ew1 ew2
  generalize hq : x.tdiv y = q at *
  generalize hr : x.tmod y = r at *
  clear hq hr htd htm
  by_cases hr0 : r = 0
  · have hb0 : (r != 0) = false := by rw [hr0]; rfl
    obtain ⟨f1, f2⟩ := HFL.out.1 (.inl hr0)
    have F1 := hide f1
    have F2 := hide f2
    clear f1 f2
    have HR0 := hide hr0
    go_wp2_with fail
    refine (of_any _ (by omega) (by omega) _ (HS.out.below (below_drewN K2.out _) (Nat.le_refl _))).mono ?_
    rintro e w3 ⟨rfl, hb3⟩
    have K3 := hide ((below_drewN K2.out nq).trans (hb3.mono (by have := K2.out.size; simp; omega)))
    clear hb3
    go_wp2_with fail
    refine (of_any _ (by omega) (by omega) _ (HS.out.below K3.out (Nat.le_refl _))).mono ?_
    rintro e w4 ⟨rfl, hb4⟩
    have K4 := hide (K3.out.trans (hb4.mono K3.out.size))
    clear hb4
    go_wp2_with fail
    go_ret3
    refine ⟨?_, K4.out⟩
    rw [RetParted, F1.out, F2.out, HR0.out]; rfl
  · have hb0 : (r != 0) = true := by rw [bne_iff_ne]; exact hr0
    by_cases hk : (r < 0 ↔ y < 0)
    · have hb1 : (!(decide (r < 0) == decide (y < 0))) = false := by simp [hk]
      obtain ⟨f1, f2⟩ := HFL.out.1 (.inr hk)
      have F1 := hide f1
      have F2 := hide f2
      clear f1 f2 hk
      go_wp2_with fail
      refine (of_any _ (by omega) (by omega) _ (HS.out.below (below_drewN K2.out _) (Nat.le_refl _))).mono ?_
      rintro e w3 ⟨rfl, hb3⟩
      have K3 := hide ((below_drewN K2.out nq).trans (hb3.mono (by have := K2.out.size; simp; omega)))
      clear hb3
      go_wp2_with fail
      refine (of_any _ (by omega) (by omega) _ (HS.out.below K3.out (Nat.le_refl _))).mono ?_
      rintro e w4 ⟨rfl, hb4⟩
      have K4 := hide (K3.out.trans (hb4.mono K3.out.size))
      clear hb4
      go_wp2_with fail
      go_ret3
      refine ⟨?_, K4.out⟩
      rw [RetParted, F1.out, F2.out]; rfl
    · have hb1 : (!(decide (r < 0) == decide (y < 0))) = true := by
        by_cases h1 : r < 0 <;> by_cases h2 : y < 0 <;> simp [h1, h2] at hk ⊢
      obtain ⟨f1, f2⟩ := HFL.out.2 hr0 hk
      have F1 := hide f1
      have F2 := hide f2
      clear f1 f2 hk
      go_wp2_with fail
      refine (of_any _ (by omega) (by omega) _ (HS.out.below (below_drewN K2.out _) (Nat.le_refl _))).mono ?_
      rintro e w3 ⟨rfl, hb3⟩
      have K3 := hide ((below_drewN K2.out nq).trans (hb3.mono (by have := K2.out.size; simp; omega)))
      clear hb3
      go_wp2_with fail
      refine (of_any _ (by omega) (by omega) _ (HS.out.below K3.out (Nat.le_refl _))).mono ?_
      rintro e w4 ⟨rfl, hb4⟩
      have K4 := hide (K3.out.trans (hb4.mono K3.out.size))
      clear hb4
      go_wp2_with fail
      go_ret3
      refine ⟨?_, K4.out⟩
      rw [RetParted, F1.out, F2.out]; rfl

set_option maxRecDepth 100000 in
set_option maxHeartbeats 4000000 in
theorem parted_great (w : World) (a b : ByteArray) (x y : Int) (h : Two a b x y) (hy : y ≠ 0) (hl : 9 < a.size ∨ 9 < b.size) (hs : Std w) :
    Calls Tryz.prog 140 #[.string a, .string b] w fun e w' => RetParted x y e ∧ Below w.heap.size w w' := by
  have hb0 : (b.toList == [48]) = false := by
    rw [Lib.toList_data, h.hb, beq_eq_false_iff_ne]; intro e; exact hy (T_inj (e.trans T_zero.symm))
  have H := hide h
  have HS := hide hs
  have HY := hide hy
  have HL := hide hl
  have hfl := mag_floor (x := x) hy
  have HFL := hide hfl
  clear h hs hy hl hfl
  go_enter Tryz.func140, Tryz.ntmps140
  go_wp2_with fail
  refine (all_two _ _ _ x y H.out.ha H.out.hb H.out.bx H.out.bz _).mono ?_
  rintro e w1 ⟨rfl, hb1⟩
  have K1 := hide hb1
  clear hb1
  go_wp2_with fail
  refine (small_no _ _ _ HL.out).mono ?_
  rintro e w2 ⟨rfl, rfl⟩
  go_wp2_with fail
  refine (read_any _ _ H.out.ha H.out.bx _).mono ?_
  rintro e w2 ⟨rfl, hb2, mx, dx, hWx, hRx, hmx, hnx⟩
  have A1 := hide hb2
  have A2 := hide hWx
  have A3 := hide hRx
  have A4 := hide hnx
  clear hb2 hWx hRx hnx
  go_wp2_with fail
  refine (read_any _ _ H.out.hb H.out.bz _).mono ?_
  rintro e w3 ⟨rfl, hb3, my, dy, hWy, hRy, hmy, hny⟩
  have B1 := hide hb3
  have B2 := hide hWy
  have B3 := hide hRy
  have B4 := hide hny
  have hlt := A2.out.lt
  have hmy1 : 1 ≤ my := by
    refine Nat.le_of_not_lt fun h0 => ?_
    have : my = 0 := by omega
    rw [this, num_zero] at hny
    have := HY.out
    omega
  clear hb3 hWy hRy hny
  go_wp2_with fail
  refine (divided_any _ _ _ _ _ _ _ _ _ (A2.out.below B1.out hlt) B2.out A3.out B3.out hmy1 (by omega)).mono ?_
  rintro e w4 ⟨rfl, hb4, nq, dq, nr, dr, hWq, hWr, hRq, hRr, hnq, hnr⟩
  have hlt3 := B2.out.lt
  have A5 := hide ((A2.out.below B1.out hlt).below hb4 (Nat.lt_of_lt_of_le hlt B1.out.size))
  have B5 := hide (B2.out.below hb4 hlt3)
  have hs1 : w1.heap.size < w2.heap.size := hlt
  have K4 := hide ((K1.out.trans (A1.out.mono K1.out.size)).trans ((B1.out.mono (by have := K1.out.size; omega)).trans (hb4.mono (by have := K1.out.size; omega))))
  have hwq := K1.out.size
  have C1 := hide hWq
  have C2 := hide hWr
  have C3 := hide hRq
  have C4 := hide hRr
  rw [A4.out, B4.out] at hnq hnr
  have C5 := hide hnq
  have C6 := hide hnr
  clear hb4 hWq hWr hRq hRr hnq hnr A1 A2 B1 B2
  have x0 : w4.cell? ⟨w1.heap.size, 0, none⟩ = some (.bool (decide (x < 0))) := A5.out.sgn
  have y0 : w4.cell? ⟨w2.heap.size, 0, none⟩ = some (.bool (decide (y < 0))) := B5.out.sgn
  have q0 : w4.cell? ⟨w3.heap.size, 0, none⟩ = some (.bool false) := C1.out.sgn
  have r0 : w4.cell? ⟨w3.heap.size + 1, 0, none⟩ = some (.bool false) := C2.out.sgn
  have qf : w4.frozen? ⟨w3.heap.size, 0, none⟩ = false := C1.out.frozen 0
  have rf : w4.frozen? ⟨w3.heap.size + 1, 0, none⟩ = false := C2.out.frozen 0
  go_wp2_with fail
  go_region
  go_wp2_with fail
  have hq5 : Wd (((w4.setCell ⟨w3.heap.size, 0, none⟩ (.bool (!(decide (x < 0) == decide (y < 0))))).setCell ⟨w3.heap.size + 1, 0, none⟩ (.bool (decide (x < 0)))).drew) w3.heap.size (decide (x < 0) != decide (y < 0)) nq dq := ((C1.out.setLess _).far (by show w3.heap.size ≠ w3.heap.size + 1; omega) _).drew
  have hr5 : Wd (((w4.setCell ⟨w3.heap.size, 0, none⟩ (.bool (!(decide (x < 0) == decide (y < 0))))).setCell ⟨w3.heap.size + 1, 0, none⟩ (.bool (decide (x < 0)))).drew) (w3.heap.size + 1) (decide (x < 0)) nr dr := ((C2.out.far (by show w3.heap.size + 1 ≠ w3.heap.size; omega) _).setLess _).drew
  have ha5 : Wd (((w4.setCell ⟨w3.heap.size, 0, none⟩ (.bool (!(decide (x < 0) == decide (y < 0))))).setCell ⟨w3.heap.size + 1, 0, none⟩ (.bool (decide (x < 0)))).drew) w1.heap.size (decide (x < 0)) mx dx := ((A5.out.far (by show w1.heap.size ≠ w3.heap.size; omega) _).far (by show w1.heap.size ≠ w3.heap.size + 1; omega) _).drew
  have hb5 : Wd (((w4.setCell ⟨w3.heap.size, 0, none⟩ (.bool (!(decide (x < 0) == decide (y < 0))))).setCell ⟨w3.heap.size + 1, 0, none⟩ (.bool (decide (x < 0)))).drew) w2.heap.size (decide (y < 0)) my dy := ((B5.out.far (by show w2.heap.size ≠ w3.heap.size; omega) _).far (by show w2.heap.size ≠ w3.heap.size + 1; omega) _).drew
  have hk5 : Below w.heap.size w (((w4.setCell ⟨w3.heap.size, 0, none⟩ (.bool (!(decide (x < 0) == decide (y < 0))))).setCell ⟨w3.heap.size + 1, 0, none⟩ (.bool (decide (x < 0)))).drew) := ((K4.out.setCell (by show w.heap.size ≤ w3.heap.size; omega) _).setCell (by show w.heap.size ≤ w3.heap.size + 1; omega) _).drew
  generalize (((w4.setCell ⟨w3.heap.size, 0, none⟩ (.bool (!(decide (x < 0) == decide (y < 0))))).setCell ⟨w3.heap.size + 1, 0, none⟩ (.bool (decide (x < 0)))).drew) = w5 at *
  have Q5 := hide hq5
  have R5 := hide hr5
  have A6 := hide ha5
  have B6 := hide hb5
  have K5 := hide hk5
  have hlr := hr5.lt
  clear hq5 hr5 ha5 hb5 hk5 x0 y0 q0 r0 qf rf A5 B5 C1 C2 K4
  have x0 : w5.cell? ⟨w1.heap.size, 0, none⟩ = some (.bool (decide (x < 0))) := A6.out.sgn
  have y0 : w5.cell? ⟨w2.heap.size, 0, none⟩ = some (.bool (decide (y < 0))) := B6.out.sgn
  have n0 : w5.cell? ⟨w3.heap.size + 1, 1, none⟩ = some (.int .i64 (nr : Int)) := R5.out.cnt
  by_cases hn0 : nr = 0
  · have hd : decide (0 < nr) = false := by rw [hn0]; rfl
    have hR0 : x.natAbs % y.natAbs = 0 := by rw [← C6.out, hn0]; rfl
    obtain ⟨f1, f2⟩ := HFL.out.1 (.inl hR0)
    have F1 := hide f1
    have F2 := hide f2
    clear f1 f2 hn0 hR0
    go_quiet (fail)
    go_wp2_with fail
    refine (text_any _ _ _ _ _ (Q5.out.drewN _) C3.out (HS.out.below (below_drewN K5.out _) (Nat.le_refl _))).mono ?_
    rintro e w6 ⟨rfl, hb6⟩
    have K6 := hide (Below.trans (below_drewN (Below.refl w5.heap.size w5) _) hb6)
    clear hb6
    go_wp2_with fail
    refine (text_any _ _ _ _ _ (R5.out.below K6.out hlr) C4.out (HS.out.below (K5.out.trans (K6.out.mono K5.out.size)) (Nat.le_refl _))).mono ?_
    rintro e w7 ⟨rfl, hb7⟩
    have K7 := hide ((K5.out.trans (K6.out.mono K5.out.size)).trans (hb7.mono (Nat.le_trans K5.out.size K6.out.size)))
    clear hb7
    go_wp2_with fail
    go_ret3
    refine ⟨?_, K7.out⟩
    rw [RetParted, F1.out, F2.out, C5.out, C6.out]; rfl
  · have hd : 0 < nr := by omega
    have hd2 : decide (0 < nr) = true := by simpa using hd
    have hR0 : x.natAbs % y.natAbs ≠ 0 := by rw [← C6.out]; intro e; exact hn0 ((num_zero_iff C4.out.full).1 e)
    by_cases hsg : decide (x < 0) = decide (y < 0)
    · have hb1 : (!(decide (x < 0) == decide (y < 0))) = false := by rw [hsg]; simp
      obtain ⟨f1, f2⟩ := HFL.out.1 (.inr hsg)
      have F1 := hide f1
      have F2 := hide f2
      clear f1 f2 hsg hR0
      go_quiet (fail)
      go_wp2_with fail
      refine (text_any _ _ _ _ _ (Q5.out.drewN _) C3.out (HS.out.below (below_drewN K5.out _) (Nat.le_refl _))).mono ?_
      rintro e w6 ⟨rfl, hb6⟩
      have K6 := hide (Below.trans (below_drewN (Below.refl w5.heap.size w5) _) hb6)
      clear hb6
      go_wp2_with fail
      refine (text_any _ _ _ _ _ (R5.out.below K6.out hlr) C4.out (HS.out.below (K5.out.trans (K6.out.mono K5.out.size)) (Nat.le_refl _))).mono ?_
      rintro e w7 ⟨rfl, hb7⟩
      have K7 := hide ((K5.out.trans (K6.out.mono K5.out.size)).trans (hb7.mono (Nat.le_trans K5.out.size K6.out.size)))
      clear hb7
      go_wp2_with fail
      go_ret3
      refine ⟨?_, K7.out⟩
      rw [RetParted, F1.out, F2.out, C5.out, C6.out]; rfl
    · have hb1 : (!(decide (x < 0) == decide (y < 0))) = true := by rw [Bool.not_eq_true', beq_eq_false_iff_ne]; exact hsg
      obtain ⟨f1, f2⟩ := HFL.out.2 hR0 hsg
      have F1 := hide f1
      have F2 := hide f2
      have HSG := hide hsg
      clear f1 f2 hsg hR0
      go_quiet (fail)
      go_upto_region 17 with (fail)
      have ho : Wd ((w5.drewN nq).alloc (.cells ((Tryz.zeroCells167.setIfInBounds 0 (.bool true)).setIfInBounds 1 (.int .i64 1)) 167)) w5.heap.size true 1 (fun _ => 0) := Wd.newone (w5.drewN nq) true
      have hk6 : Below w.heap.size w ((w5.drewN nq).alloc (.cells ((Tryz.zeroCells167.setIfInBounds 0 (.bool true)).setIfInBounds 1 (.int .i64 1)) 167)) := (below_drewN K5.out _).alloc (by have := K5.out.size; simp; omega) _
      have hq6 := (Q5.out.drewN nq).alloc (.cells ((Tryz.zeroCells167.setIfInBounds 0 (.bool true)).setIfInBounds 1 (.int .i64 1)) 167)
      have hr6 := (R5.out.drewN nq).alloc (.cells ((Tryz.zeroCells167.setIfInBounds 0 (.bool true)).setIfInBounds 1 (.int .i64 1)) 167)
      have hy6 := (B6.out.drewN nq).alloc (.cells ((Tryz.zeroCells167.setIfInBounds 0 (.bool true)).setIfInBounds 1 (.int .i64 1)) 167)
      have hsz6 : ((w5.drewN nq).alloc (.cells ((Tryz.zeroCells167.setIfInBounds 0 (.bool true)).setIfInBounds 1 (.int .i64 1)) 167)).heap.size = w5.heap.size + 1 := by simp
      generalize ((w5.drewN nq).alloc (.cells ((Tryz.zeroCells167.setIfInBounds 0 (.bool true)).setIfInBounds 1 (.int .i64 1)) 167)) = w6 at *
      have o2 : w6.cell? ⟨w5.heap.size, 2, none⟩ = some (.int .i64 0) := by have := ho.at_ (i := 0) (by omega); simpa using this
      have of2 := ho.frozen 2
      have q0 := hq6.sgn
      have qf := hq6.frozen 0
      have O6 := hide ho
      have K6 := hide hk6
      have Q6 := hide hq6
      have R6 := hide hr6
      have Y6 := hide hy6
      have S6 := hide hsz6
      clear ho hk6 hq6 hr6 hy6 hsz6 x0 y0 n0
      have hlo := O6.out.lt
      have hfit1 : x.natAbs / y.natAbs + 1 < W9 ^ 232 := by
        have h1 := Nat.div_le_self x.natAbs y.natAbs
        have h2 := H.out.bx
        have h3 := Big_W9 (k := 10000) (Nat.le_refl _)
        omega
      have hfit2 : x.natAbs % y.natAbs + y.natAbs < W9 ^ 232 := by
        have h1 := Nat.mod_le x.natAbs y.natAbs
        have h2 := H.out.bx
        have h4 := H.out.bz
        have h3 := Big_W9 (k := 10000) (Nat.le_refl _)
        omega
      have FIT1 := hide hfit1
      have FIT2 := hide hfit2
      clear hfit1 hfit2
      have hone1 : Rt 1 (upd (fun _ => 0) 0 1) := ⟨Lows.upd (fun _ => by decide) 0 (by decide), fun i hi => by rw [upd_other _ _ (by omega)], .inr (by rw [upd_same]; decide), by omega⟩
      have hnum1 : num (upd (fun _ => 0) 0 1) 1 = 1 := by simp [num, upd]
      have ONE := hide hone1
      have NUM1 := hide hnum1
      clear hone1 hnum1
      go_wp2_with fail
      refine (plus_any _ w3.heap.size w5.heap.size true true _ 1 dq (upd (fun _ => 0) 0 1) ?pq ?po (by omega) C3.out ONE.out (by rw [C5.out, NUM1.out]; exact FIT1.out)).mono ?_
      case pq => exact (Q6.out.far (by show w3.heap.size ≠ w5.heap.size; omega) _).setLess true
      case po => exact (O6.out.setAt' (i := 0) rfl (by omega) 1 rfl).far (by show w5.heap.size ≠ w3.heap.size; omega) _
      rintro e w7 ⟨rfl, hg7, l7, m7, d7, hW7, hR7, hv7⟩
      rw [C5.out, NUM1.out, ← F1.out] at hv7
      have hr7 : Wd w7 (w3.heap.size + 1) (decide (x < 0)) nr dr := ((R6.out.far (by show w3.heap.size + 1 ≠ w5.heap.size; omega) _).far (by show w3.heap.size + 1 ≠ w3.heap.size; omega) _).grown hg7 (by simp)
      have hy7 : Wd w7 w2.heap.size (decide (y < 0)) my dy := ((Y6.out.far (by show w2.heap.size ≠ w5.heap.size; omega) _).far (by show w2.heap.size ≠ w3.heap.size; omega) _).grown hg7 (by simp; omega)
      have hk7 : Below w.heap.size w w7 := by
        refine below_only ((K6.out.setCell (by show w.heap.size ≤ w5.heap.size; have := K5.out.size; omega) _).setCell (by show w.heap.size ≤ w3.heap.size; omega) _) hg7 ?_ (by omega)
        have := K6.out.size; simpa [World.setCell] using this
      have Q7 := hide hW7
      have RT7 := hide hR7
      have V7 := hide hv7
      have R7 := hide hr7
      have Y7 := hide hy7
      have K7 := hide hk7
      clear hg7 hW7 hR7 hv7 hr7 hy7 hk7 O6 K6 Q6 R6 Y6 S6 o2 of2 q0 qf
      go_wp2_with fail
      refine (plus_any _ (w3.heap.size + 1) w2.heap.size _ _ _ _ _ _ R7.out Y7.out (by omega) C4.out B3.out (by rw [C6.out, B4.out]; exact FIT2.out)).mono ?_
      rintro e w8 ⟨rfl, hg8, l8, m8, d8, hW8, hR8, hv8⟩
      rw [C6.out, B4.out, sval_of (z := y) rfl, ← F2.out] at hv8
      have hq8 := Q7.out.grown hg8 (by simp)
      have hk8 : Below w.heap.size w w8 := below_only K7.out hg8 (by have := K7.out.size; omega) (by omega)
      have Q8 := hide hq8
      have R8 := hide hW8
      have RT8 := hide hR8
      have V8 := hide hv8
      have K8 := hide hk8
      have hlr8 := hW8.lt
      clear hg8 hq8 hW8 hR8 hv8 hk8
      go_wp2_with fail
      refine (text_any _ _ _ _ _ Q8.out RT7.out (HS.out.below K8.out (Nat.le_refl _))).mono ?_
      rintro e w9 ⟨rfl, hb9⟩
      have K9 := hide hb9
      clear hb9
      go_wp2_with fail
      refine (text_any _ _ _ _ _ (R8.out.below K9.out hlr8) RT8.out (HS.out.below (K8.out.trans (K9.out.mono K8.out.size)) (Nat.le_refl _))).mono ?_
      rintro e w10 ⟨rfl, hb10⟩
      have K10 := hide ((K8.out.trans (K9.out.mono K8.out.size)).trans (hb10.mono (Nat.le_trans K8.out.size K9.out.size)))
      clear hb10
      go_wp2_with fail
      go_ret3
      refine ⟨?_, K10.out⟩
      rw [RetParted, ← V7.out, ← V8.out]; rfl

theorem parted_any (w : World) (a b : ByteArray) (x y : Int) (h : Two a b x y) (hy : y ≠ 0) (hs : Std w) :
    Calls Tryz.prog 140 #[.string a, .string b] w fun e w' => RetParted x y e ∧ Below w.heap.size w w' := by
  by_cases h1 : a.size ≤ 9 ∧ b.size ≤ 9
  · exact parted_small w a b x y h hy h1.1 h1.2 hs
  · exact parted_great w a b x y h hy (by omega) hs

theorem fdiv_big {x y : Int} (hx : x.natAbs < Big) : (x.fdiv y).natAbs ≤ Big := by
  by_cases hy : y = 0
  · subst hy; simp
  have h1 := Nat.div_le_self x.natAbs y.natAbs
  by_cases hc : x.natAbs % y.natAbs = 0 ∨ decide (x < 0) = decide (y < 0)
  · rw [((mag_floor hy).1 hc).1, sval_abs]; omega
  · rw [((mag_floor hy).2 (fun e => hc (.inl e)) (fun e => hc (.inr e))).1]
    generalize x.natAbs / y.natAbs = Q at *
    unfold sval; omega

set_option maxRecDepth 100000 in
set_option maxHeartbeats 1000000 in
theorem quo_any (w : World) (a b : ByteArray) (x y : Int) (h : Two a b x y) (hy : y ≠ 0) (hs : Std w) :
    Calls Tryz.prog 110 #[.string a, .string b] w fun e w' => RetLim (lim (x.fdiv y)) e ∧ Below w.heap.size w w' := by
  have hq := parted_any w a b x y h hy hs
  have hlen : (T (x.fdiv y)).length ≤ 2089 := by
    have h1 := fdiv_big (y := y) h.bx
    have h2 := dec_len_W9 (N := (x.fdiv y).natAbs) (m := 232) (by omega) (by have := Big_W9 (k := 10000) (Nat.le_refl _); have := h.bx; omega)
    rw [T_length]; split <;> omega
  have hc := chk_T (x.fdiv y)
  have HQ := hide hq
  have HC := hide hc
  clear hq hc h hy hs
  generalize hg : (⟨(T (x.fdiv y)).toArray⟩ : ByteArray) = g
  have hgd : g.data.toList = T (x.fdiv y) := by rw [← hg]
  have HG := hide hg
  have HGD := hide hgd
  clear hg hgd
  go_enter Tryz.func110, Tryz.ntmps110
  go_wp2_with fail
  refine HQ.out.mono ?_
  rintro e w1 ⟨hr, hb1⟩
  rw [RetParted, HG.out] at hr
  subst hr
  have K1 := hide hb1
  clear hb1
  go_wp2_with fail
  refine (check_any g _ HGD.out (by rw [Lib.size_eq, HGD.out]; omega) _).mono ?_
  rintro e w2 ⟨rfl, hb2⟩
  have K2 := hide (K1.out.trans (hb2.mono K1.out.size))
  clear hb2
  by_cases hzb : (x.fdiv y).natAbs < Big
  · rw [HC.out, if_pos hzb]
    have HZ := hide (lim_ok hzb)
    clear hzb
    go_wp2_with fail
    go_ret2
    refine ⟨?_, K2.out⟩
    rw [HZ.out, RetLim, HG.out]; rfl
  · rw [HC.out, if_neg hzb]
    have HZ := hide (lim_no hzb)
    clear hzb
    go_wp2_with fail
    go_ret2
    refine ⟨?_, K2.out⟩
    rw [HZ.out, RetLim]; rfl
end Go.Proofs.YtaccdkbofhlbkaaGreatDoor
