/- The distance of the reference from a plane. -/
import Derived.Test.YtblfinpfcpglcaaGreatDoorRdist
import Derived.Test.YtblfinpfcpglcaaGreatDoorPlane
namespace Go.Proofs.YtblfinpfcpglcaaGreatDoor
open Go.RowKit MLab

theorem i19 {n : Int} (h0 : -9223372036854775808 ≤ n) (h1 : n ≤ 9223372036854775807) (t : Nat) (ht : 21 ≤ t) : (T n).length ≤ t := Nat.le_trans (T_len19 h0 h1) ht
theorem len_sq {z : Int} (h : z.natAbs ≤ 100000000000000000000000) (t : Nat) (ht : 25 ≤ t) : (T z).length ≤ t := Nat.le_trans (T_len_of (k := 24) ((dec_length_le (by decide)).2 (by omega))) ht

set_option maxRecDepth 100000 in
set_option maxHeartbeats 4000000 in
theorem rlong_any (w : World) (U V Z : Int) (nU : Nf U) (nV : Nf V) (nZ : Nf Z) :
    Calls Tryz.prog 126 #[.agg #[.int .i64 U, .int .i64 V, .int .i64 Z]] w fun e w' => e = .returned (.string ⟨(T (U * U + V * V + Z * Z)).toArray⟩) ∧ Below w.heap.size w w' := by
  have HNU := hide (nth3_nf nU nV nZ)
  have HSB := hide (sq3_bound nU nV nZ)
  clear nU nV nZ
  go_enter Tryz.func126, Tryz.ntmps126
  go_upto_region 2 with (fail)
  have hk := Blk.new w 33 #[.int .i64 U, .int .i64 V, .int .i64 Z]
  have hb0 : Below w.heap.size w (w.alloc (.cells #[.int .i64 U, .int .i64 V, .int .i64 Z] 33)) := (Below.refl _ _).alloc (Nat.le_refl _) _
  generalize (w.alloc (.cells #[.int .i64 U, .int .i64 V, .int .i64 Z] 33)) = w0 at *
  have k0 : w0.cell? ⟨w.heap.size, 0, none⟩ = some (.int .i64 U) := (Blk.cell hk 0).trans rfl
  have k1 : w0.cell? ⟨w.heap.size, 1, none⟩ = some (.int .i64 V) := (Blk.cell hk 1).trans rfl
  have k2 : w0.cell? ⟨w.heap.size, 2, none⟩ = some (.int .i64 Z) := (Blk.cell hk 2).trans rfl
  go_wp2_with fail
  have hr := Blk.new w0 3 #[.int .i64 U, .int .i64 V, .int .i64 Z]
  have hb1 : Below w.heap.size w (w0.alloc (.cells #[.int .i64 U, .int .i64 V, .int .i64 Z] 3)) := hb0.alloc hb0.size _
  generalize (w0.alloc (.cells #[.int .i64 U, .int .i64 V, .int .i64 Z] 3)) = w1 at *
  have HR := hide hr
  have HB1 := hide hb1
  clear hk hb0 k0 k1 k2 hr hb1
  go_loopg [3, 14] 3 (fun k s i wr => ∃ j : Nat, i = .int .i64 (j : Int) ∧ k + j = 3 ∧ s = .string ⟨(T (sq3 U V Z j)).toArray⟩ ∧ Below w1.heap.size w1 wr)
  case atStart => exact ⟨0, rfl, rfl, by rw [sq3, T_zero], Below.refl _ _⟩
  case round =>
    obtain ⟨j, rfl, hk, rfl, hb⟩ := hrel
    have HK := hide hk
    have HB := hide hb
    have HW := hide (HB1.out.trans (hb.mono HB1.out.size))
    by_cases hlt : j < 3
    · have hji : (j : Int) < 3 := by omega
      have hr2 := Blk.below HR.out hb (Blk.lt HR.out)
      have hc : wr.cell? ⟨w0.heap.size, j, none⟩ = some (.int .i64 (nth3 U V Z j)) := by
        match j, hlt with
        | 0, _ => exact (Blk.cell hr2 0).trans rfl
        | 1, _ => exact (Blk.cell hr2 1).trans rfl
        | 2, _ => exact (Blk.cell hr2 2).trans rfl
      have hx := HNU.out j
      have hq0 := HSB.out j
      have hq1 := HSB.out (j + 1)
      rw [sq3] at hq1
      have hxx := mulB hx hx
      have hsn := sq_nn (nth3 U V Z j)
      have X0 := hide (p := -9223372036854775808 ≤ nth3 U V Z j) (by omega)
      have X1 := hide (p := nth3 U V Z j ≤ 9223372036854775807) (by omega)
      have Y0 := hide (len_sq (z := sq3 U V Z j) (by omega) 700000 (by decide))
      have Y1 := hide (len_sq (z := nth3 U V Z j * nth3 U V Z j) (by omega) 700000 (by decide))
      have hs1 : sq3 U V Z (j + 1) = sq3 U V Z j + nth3 U V Z j * nth3 U V Z j := rfl
      have HS1 := hide hs1
      clear hx hq0 hq1 hxx hsn hk hb hs1 hr2
      generalize nth3 U V Z j = x at *
      generalize hsj : sq3 U V Z j = y at *
      have hsj := hide hsj
      have X2 := hide (i19 X0.out X1.out 700000 (by decide))
      go_wp2_with fail
      refine (rof_any x X0.out X1.out _).mono ?_
      rintro e v1 ⟨rfl, hv1⟩
      have M1 := hide hv1
      clear hv1
      go_wp2_with fail
      refine (rof_any x X0.out X1.out _).mono ?_
      rintro e v2 ⟨rfl, hv2⟩
      have M2 := hide (M1.out.trans (hv2.mono M1.out.size))
      clear hv2
      go_wp2_with fail
      refine (rtimes_int _ _ _ x x ⟨rfl, rfl, by rw [ba_size]; exact Nat.le_trans X2.out (by decide), by rw [ba_size]; exact Nat.le_trans X2.out (by decide)⟩).mono ?_
      rintro e v3 ⟨rfl, hv3⟩
      have M3 := hide (M2.out.trans (hv3.mono M2.out.size))
      clear hv3
      go_wp2_with fail
      refine (rplus_any _ _ _ y (x * x) ⟨rfl, rfl, by rw [ba_size]; exact Nat.le_trans Y0.out (by decide), by rw [ba_size]; exact Nat.le_trans Y1.out (by decide)⟩).mono ?_
      rintro e v4 ⟨rfl, hv4⟩
      have M4 := hide (M3.out.trans (hv4.mono M3.out.size))
      clear hv4
      go_wp2_with fail
      go_roundg (gk - 1)
      case measure => have := HK.out; omega
      case rel =>
        exact ⟨j + 1, by go_num, by have := HK.out; omega, by rw [HS1.out], HB.out.trans (M4.out.mono HB.out.size)⟩
    · have hj3 : j = 3 := by omega
      subst hj3
      have hji : ¬ ((3 : Nat) : Int) < 3 := by omega
      rw [sq3_three]
      go_wp2_with fail
      go_ret
      exact ⟨rfl, HW.out⟩

set_option maxRecDepth 100000 in
set_option maxHeartbeats 4000000 in
theorem rfromplane_any (w : World) (px py pz ax ay az bx by_ bz cx cy cz U V Z : Int) (hpx : Co px) (hpy : Co py) (hpz : Co pz) (hax : Co ax) (hay : Co ay) (haz : Co az) (hbx : Co bx) (hby_ : Co by_) (hbz : Co bz) (hcx : Co cx) (hcy : Co cy) (hcz : Co cz) (hU : (by_ - ay) * (cz - az) - (bz - az) * (cy - ay) = U) (hV : (bz - az) * (cx - ax) - (bx - ax) * (cz - az) = V) (hZ : (bx - ax) * (cy - ay) - (by_ - ay) * (cx - ax) = Z) (nU : Nf U) (nV : Nf V) (nZ : Nf Z) (hne : U * U + V * V + Z * Z ≠ 0) :
    Calls Tryz.prog 77 #[.agg #[.int .i64 px, .int .i64 py, .int .i64 pz], .agg #[.int .i64 ax, .int .i64 ay, .int .i64 az], .agg #[.int .i64 bx, .int .i64 by_, .int .i64 bz], .agg #[.int .i64 cx, .int .i64 cy, .int .i64 cz]] w fun e w' => e = .returned (.string ⟨(RT (Rat.divInt ((U * (px - ax) + V * (py - ay) + Z * (pz - az)) * (U * (px - ax) + V * (py - ay) + Z * (pz - az))) (U * U + V * V + Z * Z))).toArray⟩) ∧ Below w.heap.size w w' := by
  obtain ⟨m0a, m0b⟩ := mulB (x := U) (y := px - ax) (M := 80000000000) (N := 200000) nU (by omega)
  obtain ⟨m1a, m1b⟩ := mulB (x := V) (y := py - ay) (M := 80000000000) (N := 200000) nV (by omega)
  obtain ⟨m2a, m2b⟩ := mulB (x := Z) (y := pz - az) (M := 80000000000) (N := 200000) nZ (by omega)
  have hq := sq3_bound nU nV nZ 3
  rw [sq3_three] at hq
  have D0 := hide hne
  have D2 := hide (len_sq (z := U * U + V * V + Z * Z) (by omega) 150000 (by decide))
  have D3 := hide (p := (U * (px - ax) + V * (py - ay) + Z * (pz - az)).natAbs ≤ 100000000000000000) (by omega)
  clear m0a m0b m1a m1b m2a m2b hne hq
  generalize hS : U * U + V * V + Z * Z = S at *
  have HS := hide hS
  clear hS
  have HU := hide hU
  have HV := hide hV
  have HZ := hide hZ
  clear hU hV hZ
  generalize hD : U * (px - ax) + V * (py - ay) + Z * (pz - az) = D at *
  have HD := hide hD
  clear hD
  have E0 := hide (p := -9223372036854775808 ≤ D) (by have := D3.out; omega)
  have E1 := hide (p := D ≤ 9223372036854775807) (by have := D3.out; omega)
  have E2 := hide (i19 E0.out E1.out 100000 (by decide))
  have E3 := hide (show (T (D * D)).length ≤ 100000 from by
    refine Nat.le_trans (T_len_of (k := 40) ?_) (by decide)
    rw [Int.natAbs_mul]
    have h := D3.out
    exact Nat.le_trans (dec_len_mul (k := 20) (l := 20) (by decide) (by decide) ((dec_length_le (by decide)).2 (by omega)) ((dec_length_le (by decide)).2 (by omega))) (by decide))
  go_enter Tryz.func77, Tryz.ntmps77
  go_upto_region 1 with (fail)
  have hb0 : Below w.heap.size w ((((w.alloc (.cells #[.int .i64 px, .int .i64 py, .int .i64 pz] 33)).alloc (.cells #[.int .i64 ax, .int .i64 ay, .int .i64 az] 33)).alloc (.cells #[.int .i64 bx, .int .i64 by_, .int .i64 bz] 33)).alloc (.cells #[.int .i64 cx, .int .i64 cy, .int .i64 cz] 33)) := allocs_below w [(.cells #[.int .i64 px, .int .i64 py, .int .i64 pz] 33), (.cells #[.int .i64 ax, .int .i64 ay, .int .i64 az] 33), (.cells #[.int .i64 bx, .int .i64 by_, .int .i64 bz] 33), (.cells #[.int .i64 cx, .int .i64 cy, .int .i64 cz] 33)]
  have s0 : w.heap.size + 4 ≤ ((((w.alloc (.cells #[.int .i64 px, .int .i64 py, .int .i64 pz] 33)).alloc (.cells #[.int .i64 ax, .int .i64 ay, .int .i64 az] 33)).alloc (.cells #[.int .i64 bx, .int .i64 by_, .int .i64 bz] 33)).alloc (.cells #[.int .i64 cx, .int .i64 cy, .int .i64 cz] 33)).heap.size := Nat.le_of_eq (allocs_size w [(.cells #[.int .i64 px, .int .i64 py, .int .i64 pz] 33), (.cells #[.int .i64 ax, .int .i64 ay, .int .i64 az] 33), (.cells #[.int .i64 bx, .int .i64 by_, .int .i64 bz] 33), (.cells #[.int .i64 cx, .int .i64 cy, .int .i64 cz] 33)]).symm
  have kb0 : ((((w.alloc (.cells #[.int .i64 px, .int .i64 py, .int .i64 pz] 33)).alloc (.cells #[.int .i64 ax, .int .i64 ay, .int .i64 az] 33)).alloc (.cells #[.int .i64 bx, .int .i64 by_, .int .i64 bz] 33)).alloc (.cells #[.int .i64 cx, .int .i64 cy, .int .i64 cz] 33)).heap[w.heap.size + 0]? = some (.cells #[.int .i64 px, .int .i64 py, .int .i64 pz] 33) := allocs_at w [(.cells #[.int .i64 px, .int .i64 py, .int .i64 pz] 33), (.cells #[.int .i64 ax, .int .i64 ay, .int .i64 az] 33), (.cells #[.int .i64 bx, .int .i64 by_, .int .i64 bz] 33), (.cells #[.int .i64 cx, .int .i64 cy, .int .i64 cz] 33)] 0 rfl
  have kb1 : ((((w.alloc (.cells #[.int .i64 px, .int .i64 py, .int .i64 pz] 33)).alloc (.cells #[.int .i64 ax, .int .i64 ay, .int .i64 az] 33)).alloc (.cells #[.int .i64 bx, .int .i64 by_, .int .i64 bz] 33)).alloc (.cells #[.int .i64 cx, .int .i64 cy, .int .i64 cz] 33)).heap[w.heap.size + 1]? = some (.cells #[.int .i64 ax, .int .i64 ay, .int .i64 az] 33) := allocs_at w [(.cells #[.int .i64 px, .int .i64 py, .int .i64 pz] 33), (.cells #[.int .i64 ax, .int .i64 ay, .int .i64 az] 33), (.cells #[.int .i64 bx, .int .i64 by_, .int .i64 bz] 33), (.cells #[.int .i64 cx, .int .i64 cy, .int .i64 cz] 33)] 1 rfl
  have kb2 : ((((w.alloc (.cells #[.int .i64 px, .int .i64 py, .int .i64 pz] 33)).alloc (.cells #[.int .i64 ax, .int .i64 ay, .int .i64 az] 33)).alloc (.cells #[.int .i64 bx, .int .i64 by_, .int .i64 bz] 33)).alloc (.cells #[.int .i64 cx, .int .i64 cy, .int .i64 cz] 33)).heap[w.heap.size + 2]? = some (.cells #[.int .i64 bx, .int .i64 by_, .int .i64 bz] 33) := allocs_at w [(.cells #[.int .i64 px, .int .i64 py, .int .i64 pz] 33), (.cells #[.int .i64 ax, .int .i64 ay, .int .i64 az] 33), (.cells #[.int .i64 bx, .int .i64 by_, .int .i64 bz] 33), (.cells #[.int .i64 cx, .int .i64 cy, .int .i64 cz] 33)] 2 rfl
  have kb3 : ((((w.alloc (.cells #[.int .i64 px, .int .i64 py, .int .i64 pz] 33)).alloc (.cells #[.int .i64 ax, .int .i64 ay, .int .i64 az] 33)).alloc (.cells #[.int .i64 bx, .int .i64 by_, .int .i64 bz] 33)).alloc (.cells #[.int .i64 cx, .int .i64 cy, .int .i64 cz] 33)).heap[w.heap.size + 3]? = some (.cells #[.int .i64 cx, .int .i64 cy, .int .i64 cz] 33) := allocs_at w [(.cells #[.int .i64 px, .int .i64 py, .int .i64 pz] 33), (.cells #[.int .i64 ax, .int .i64 ay, .int .i64 az] 33), (.cells #[.int .i64 bx, .int .i64 by_, .int .i64 bz] 33), (.cells #[.int .i64 cx, .int .i64 cy, .int .i64 cz] 33)] 3 rfl
  generalize ((((w.alloc (.cells #[.int .i64 px, .int .i64 py, .int .i64 pz] 33)).alloc (.cells #[.int .i64 ax, .int .i64 ay, .int .i64 az] 33)).alloc (.cells #[.int .i64 bx, .int .i64 by_, .int .i64 bz] 33)).alloc (.cells #[.int .i64 cx, .int .i64 cy, .int .i64 cz] 33)) = w0 at *
  have k0_0 : w0.cell? ⟨w.heap.size, 0, none⟩ = some (.int .i64 px) := (Blk.cell kb0 0).trans rfl
  have k0_1 : w0.cell? ⟨w.heap.size, 1, none⟩ = some (.int .i64 py) := (Blk.cell kb0 1).trans rfl
  have k0_2 : w0.cell? ⟨w.heap.size, 2, none⟩ = some (.int .i64 pz) := (Blk.cell kb0 2).trans rfl
  have k1_0 : w0.cell? ⟨w.heap.size + 1, 0, none⟩ = some (.int .i64 ax) := (Blk.cell kb1 0).trans rfl
  have k1_1 : w0.cell? ⟨w.heap.size + 1, 1, none⟩ = some (.int .i64 ay) := (Blk.cell kb1 1).trans rfl
  have k1_2 : w0.cell? ⟨w.heap.size + 1, 2, none⟩ = some (.int .i64 az) := (Blk.cell kb1 2).trans rfl
  have k2_0 : w0.cell? ⟨w.heap.size + 1 + 1, 0, none⟩ = some (.int .i64 bx) := (Blk.cell kb2 0).trans rfl
  have k2_1 : w0.cell? ⟨w.heap.size + 1 + 1, 1, none⟩ = some (.int .i64 by_) := (Blk.cell kb2 1).trans rfl
  have k2_2 : w0.cell? ⟨w.heap.size + 1 + 1, 2, none⟩ = some (.int .i64 bz) := (Blk.cell kb2 2).trans rfl
  have k3_0 : w0.cell? ⟨w.heap.size + 1 + 1 + 1, 0, none⟩ = some (.int .i64 cx) := (Blk.cell kb3 0).trans rfl
  have k3_1 : w0.cell? ⟨w.heap.size + 1 + 1 + 1, 1, none⟩ = some (.int .i64 cy) := (Blk.cell kb3 1).trans rfl
  have k3_2 : w0.cell? ⟨w.heap.size + 1 + 1 + 1, 2, none⟩ = some (.int .i64 cz) := (Blk.cell kb3 2).trans rfl
  clear kb0 kb1 kb2 kb3
  have SK : ∀ w', Below w0.heap.size w0 w' → Below w0.heap.size w0 w' ∧ w'.cell? ⟨w.heap.size, 0, none⟩ = some (.int .i64 px) ∧ w'.cell? ⟨w.heap.size, 1, none⟩ = some (.int .i64 py) ∧ w'.cell? ⟨w.heap.size, 2, none⟩ = some (.int .i64 pz) ∧ w'.cell? ⟨w.heap.size + 1, 0, none⟩ = some (.int .i64 ax) ∧ w'.cell? ⟨w.heap.size + 1, 1, none⟩ = some (.int .i64 ay) ∧ w'.cell? ⟨w.heap.size + 1, 2, none⟩ = some (.int .i64 az) ∧ w'.cell? ⟨w.heap.size + 1 + 1, 0, none⟩ = some (.int .i64 bx) ∧ w'.cell? ⟨w.heap.size + 1 + 1, 1, none⟩ = some (.int .i64 by_) ∧ w'.cell? ⟨w.heap.size + 1 + 1, 2, none⟩ = some (.int .i64 bz) ∧ w'.cell? ⟨w.heap.size + 1 + 1 + 1, 0, none⟩ = some (.int .i64 cx) ∧ w'.cell? ⟨w.heap.size + 1 + 1 + 1, 1, none⟩ = some (.int .i64 cy) ∧ w'.cell? ⟨w.heap.size + 1 + 1 + 1, 2, none⟩ = some (.int .i64 cz) := fun w' h => ⟨h, (bcell h _ _ (by omega)).trans k0_0, (bcell h _ _ (by omega)).trans k0_1, (bcell h _ _ (by omega)).trans k0_2, (bcell h _ _ (by omega)).trans k1_0, (bcell h _ _ (by omega)).trans k1_1, (bcell h _ _ (by omega)).trans k1_2, (bcell h _ _ (by omega)).trans k2_0, (bcell h _ _ (by omega)).trans k2_1, (bcell h _ _ (by omega)).trans k2_2, (bcell h _ _ (by omega)).trans k3_0, (bcell h _ _ (by omega)).trans k3_1, (bcell h _ _ (by omega)).trans k3_2⟩
  go_wp2_with fail
  refine (rsix_any _ ax ay az bx by_ bz cx cy cz px py pz hax hay haz hbx hby_ hbz hcx hcy hcz hpx hpy hpz).mono ?_
  rw [HU.out, HV.out, HZ.out, HD.out]
  rintro e w1 ⟨rfl, hb1⟩
  have hL1 : Below w0.heap.size w0 w1 := hb1
  obtain ⟨-, c1_0, c1_1, c1_2, c1_3, c1_4, c1_5, c1_6, c1_7, c1_8, c1_9, c1_10, c1_11⟩ := SK _ hL1
  go_wp2_with fail
  refine (rof_any D E0.out E1.out _).mono ?_
  rintro e w2 ⟨rfl, hb2⟩
  have hL2 : Below w0.heap.size w0 w2 := hL1.trans (hb2.mono hL1.size)
  obtain ⟨-, c2_0, c2_1, c2_2, c2_3, c2_4, c2_5, c2_6, c2_7, c2_8, c2_9, c2_10, c2_11⟩ := SK _ hL2
  go_upto_region 2 with (fail)
  have q2 : w0.heap.size ≤ w2.heap.size := hL2.size
  have SQ : ∀ w', Below w2.heap.size w2 w' → Below w2.heap.size w2 w' ∧ w'.cell? ⟨w.heap.size, 0, none⟩ = some (.int .i64 px) ∧ w'.cell? ⟨w.heap.size, 1, none⟩ = some (.int .i64 py) ∧ w'.cell? ⟨w.heap.size, 2, none⟩ = some (.int .i64 pz) ∧ w'.cell? ⟨w.heap.size + 1, 0, none⟩ = some (.int .i64 ax) ∧ w'.cell? ⟨w.heap.size + 1, 1, none⟩ = some (.int .i64 ay) ∧ w'.cell? ⟨w.heap.size + 1, 2, none⟩ = some (.int .i64 az) ∧ w'.cell? ⟨w.heap.size + 1 + 1, 0, none⟩ = some (.int .i64 bx) ∧ w'.cell? ⟨w.heap.size + 1 + 1, 1, none⟩ = some (.int .i64 by_) ∧ w'.cell? ⟨w.heap.size + 1 + 1, 2, none⟩ = some (.int .i64 bz) ∧ w'.cell? ⟨w.heap.size + 1 + 1 + 1, 0, none⟩ = some (.int .i64 cx) ∧ w'.cell? ⟨w.heap.size + 1 + 1 + 1, 1, none⟩ = some (.int .i64 cy) ∧ w'.cell? ⟨w.heap.size + 1 + 1 + 1, 2, none⟩ = some (.int .i64 cz) := fun w' h => ⟨h, (bcell h _ _ (block_lt_of_cell c2_0)).trans c2_0, (bcell h _ _ (block_lt_of_cell c2_1)).trans c2_1, (bcell h _ _ (block_lt_of_cell c2_2)).trans c2_2, (bcell h _ _ (block_lt_of_cell c2_3)).trans c2_3, (bcell h _ _ (block_lt_of_cell c2_4)).trans c2_4, (bcell h _ _ (block_lt_of_cell c2_5)).trans c2_5, (bcell h _ _ (block_lt_of_cell c2_6)).trans c2_6, (bcell h _ _ (block_lt_of_cell c2_7)).trans c2_7, (bcell h _ _ (block_lt_of_cell c2_8)).trans c2_8, (bcell h _ _ (block_lt_of_cell c2_9)).trans c2_9, (bcell h _ _ (block_lt_of_cell c2_10)).trans c2_10, (bcell h _ _ (block_lt_of_cell c2_11)).trans c2_11⟩
  go_region_held3 (fun w' => Below w2.heap.size w2 w' ∧ w'.cell? ⟨w.heap.size, 0, none⟩ = some (.int .i64 px) ∧ w'.cell? ⟨w.heap.size, 1, none⟩ = some (.int .i64 py) ∧ w'.cell? ⟨w.heap.size, 2, none⟩ = some (.int .i64 pz) ∧ w'.cell? ⟨w.heap.size + 1, 0, none⟩ = some (.int .i64 ax) ∧ w'.cell? ⟨w.heap.size + 1, 1, none⟩ = some (.int .i64 ay) ∧ w'.cell? ⟨w.heap.size + 1, 2, none⟩ = some (.int .i64 az) ∧ w'.cell? ⟨w.heap.size + 1 + 1, 0, none⟩ = some (.int .i64 bx) ∧ w'.cell? ⟨w.heap.size + 1 + 1, 1, none⟩ = some (.int .i64 by_) ∧ w'.cell? ⟨w.heap.size + 1 + 1, 2, none⟩ = some (.int .i64 bz) ∧ w'.cell? ⟨w.heap.size + 1 + 1 + 1, 0, none⟩ = some (.int .i64 cx) ∧ w'.cell? ⟨w.heap.size + 1 + 1 + 1, 1, none⟩ = some (.int .i64 cy) ∧ w'.cell? ⟨w.heap.size + 1 + 1 + 1, 2, none⟩ = some (.int .i64 cz)) (first | exact SQ _ (Below.refl _ _).drew | exact SQ _ (bel_next (by assumption) (by assumption) (Nat.le_refl _)))
    (first
      | (go_at_call 125; refine (rtimes_int _ _ _ D D ⟨rfl, rfl, by rw [ba_size]; exact Nat.le_trans E2.out (by decide), by rw [ba_size]; exact Nat.le_trans E2.out (by decide)⟩).mono ?_; rintro e wx ⟨rfl, hbW⟩)
      | (go_at_call 70; refine (racross_any _ ax ay az bx by_ bz cx cy cz hax hay haz hbx hby_ hbz hcx hcy hcz).mono ?_; rw [HU.out, HV.out, HZ.out]; rintro e wx ⟨rfl, hbW⟩)
      | (go_at_call 126; refine (rlong_any _ U V Z nU nV nZ).mono ?_; rw [HS.out]; rintro e wx ⟨rfl, hbW⟩)
      | (go_at_call 124; refine (rlowest_any _ _ _ (D * D) S ⟨rfl, rfl, by rw [ba_size]; exact Nat.le_trans E3.out (by decide), by rw [ba_size]; exact Nat.le_trans D2.out (by decide)⟩ D0.out (by rw [ba_size]; exact Nat.le_trans E3.out (by decide)) (by rw [ba_size]; exact Nat.le_trans D2.out (by decide))).mono ?_; rintro e wx ⟨rfl, hbW⟩))
  go_wp2_with fail
  go_ret
  exact ⟨rfl, hb0.trans ((hL2.trans (Below.mono (And.left (by assumption)) hL2.size)).mono hb0.size)⟩

set_option maxRecDepth 100000 in
set_option maxHeartbeats 4000000 in
theorem rplane_zero (w : World) (px py pz ax ay az bx by_ bz cx cy cz U V Z : Int) (hok : Co px ∧ Co py ∧ Co pz ∧ Co ax ∧ Co ay ∧ Co az ∧ Co bx ∧ Co by_ ∧ Co bz ∧ Co cx ∧ Co cy ∧ Co cz) (hU : (by_ - ay) * (cz - az) - (bz - az) * (cy - ay) = U) (hV : (bz - az) * (cx - ax) - (bx - ax) * (cz - az) = V) (hZ : (bx - ax) * (cy - ay) - (by_ - ay) * (cx - ax) = Z) (_nU : Nf U) (_nV : Nf V) (_nZ : Nf Z) (_z1 : (U = 0) = True) (_z2 : (V = 0) = True) (_z3 : (Z = 0) = True) :
    Calls Tryz.prog 24 #[.agg #[.int .i64 px, .int .i64 py, .int .i64 pz], .agg #[.int .i64 ax, .int .i64 ay, .int .i64 az], .agg #[.int .i64 bx, .int .i64 by_, .int .i64 bz], .agg #[.int .i64 cx, .int .i64 cy, .int .i64 cz]] w fun e w' => e = .returned (RR (.error 10)) ∧ Below w.heap.size w w' := by
  obtain ⟨hpx, hpy, hpz, hax, hay, haz, hbx, hby_, hbz, hcx, hcy, hcz⟩ := id hok
  clear hok
  have g0 := decide_eq_true (show Co px ∧ Co py ∧ Co pz from ⟨hpx, hpy, hpz⟩)
  have g1 := decide_eq_true (show Co ax ∧ Co ay ∧ Co az from ⟨hax, hay, haz⟩)
  have g2 := decide_eq_true (show Co bx ∧ Co by_ ∧ Co bz from ⟨hbx, hby_, hbz⟩)
  have g3 := decide_eq_true (show Co cx ∧ Co cy ∧ Co cz from ⟨hcx, hcy, hcz⟩)
  have HU := hide hU
  have HV := hide hV
  have HZ := hide hZ
  clear hU hV hZ
  go_enter Tryz.func24, Tryz.ntmps24
  go_upto_region 1 with (fail)
  have hb0 : Below w.heap.size w ((((w.alloc (.cells #[.int .i64 px, .int .i64 py, .int .i64 pz] 33)).alloc (.cells #[.int .i64 ax, .int .i64 ay, .int .i64 az] 33)).alloc (.cells #[.int .i64 bx, .int .i64 by_, .int .i64 bz] 33)).alloc (.cells #[.int .i64 cx, .int .i64 cy, .int .i64 cz] 33)) := allocs_below w [(.cells #[.int .i64 px, .int .i64 py, .int .i64 pz] 33), (.cells #[.int .i64 ax, .int .i64 ay, .int .i64 az] 33), (.cells #[.int .i64 bx, .int .i64 by_, .int .i64 bz] 33), (.cells #[.int .i64 cx, .int .i64 cy, .int .i64 cz] 33)]
  have s0 : w.heap.size + 4 ≤ ((((w.alloc (.cells #[.int .i64 px, .int .i64 py, .int .i64 pz] 33)).alloc (.cells #[.int .i64 ax, .int .i64 ay, .int .i64 az] 33)).alloc (.cells #[.int .i64 bx, .int .i64 by_, .int .i64 bz] 33)).alloc (.cells #[.int .i64 cx, .int .i64 cy, .int .i64 cz] 33)).heap.size := Nat.le_of_eq (allocs_size w [(.cells #[.int .i64 px, .int .i64 py, .int .i64 pz] 33), (.cells #[.int .i64 ax, .int .i64 ay, .int .i64 az] 33), (.cells #[.int .i64 bx, .int .i64 by_, .int .i64 bz] 33), (.cells #[.int .i64 cx, .int .i64 cy, .int .i64 cz] 33)]).symm
  have kb0 : ((((w.alloc (.cells #[.int .i64 px, .int .i64 py, .int .i64 pz] 33)).alloc (.cells #[.int .i64 ax, .int .i64 ay, .int .i64 az] 33)).alloc (.cells #[.int .i64 bx, .int .i64 by_, .int .i64 bz] 33)).alloc (.cells #[.int .i64 cx, .int .i64 cy, .int .i64 cz] 33)).heap[w.heap.size + 0]? = some (.cells #[.int .i64 px, .int .i64 py, .int .i64 pz] 33) := allocs_at w [(.cells #[.int .i64 px, .int .i64 py, .int .i64 pz] 33), (.cells #[.int .i64 ax, .int .i64 ay, .int .i64 az] 33), (.cells #[.int .i64 bx, .int .i64 by_, .int .i64 bz] 33), (.cells #[.int .i64 cx, .int .i64 cy, .int .i64 cz] 33)] 0 rfl
  have kb1 : ((((w.alloc (.cells #[.int .i64 px, .int .i64 py, .int .i64 pz] 33)).alloc (.cells #[.int .i64 ax, .int .i64 ay, .int .i64 az] 33)).alloc (.cells #[.int .i64 bx, .int .i64 by_, .int .i64 bz] 33)).alloc (.cells #[.int .i64 cx, .int .i64 cy, .int .i64 cz] 33)).heap[w.heap.size + 1]? = some (.cells #[.int .i64 ax, .int .i64 ay, .int .i64 az] 33) := allocs_at w [(.cells #[.int .i64 px, .int .i64 py, .int .i64 pz] 33), (.cells #[.int .i64 ax, .int .i64 ay, .int .i64 az] 33), (.cells #[.int .i64 bx, .int .i64 by_, .int .i64 bz] 33), (.cells #[.int .i64 cx, .int .i64 cy, .int .i64 cz] 33)] 1 rfl
  have kb2 : ((((w.alloc (.cells #[.int .i64 px, .int .i64 py, .int .i64 pz] 33)).alloc (.cells #[.int .i64 ax, .int .i64 ay, .int .i64 az] 33)).alloc (.cells #[.int .i64 bx, .int .i64 by_, .int .i64 bz] 33)).alloc (.cells #[.int .i64 cx, .int .i64 cy, .int .i64 cz] 33)).heap[w.heap.size + 2]? = some (.cells #[.int .i64 bx, .int .i64 by_, .int .i64 bz] 33) := allocs_at w [(.cells #[.int .i64 px, .int .i64 py, .int .i64 pz] 33), (.cells #[.int .i64 ax, .int .i64 ay, .int .i64 az] 33), (.cells #[.int .i64 bx, .int .i64 by_, .int .i64 bz] 33), (.cells #[.int .i64 cx, .int .i64 cy, .int .i64 cz] 33)] 2 rfl
  have kb3 : ((((w.alloc (.cells #[.int .i64 px, .int .i64 py, .int .i64 pz] 33)).alloc (.cells #[.int .i64 ax, .int .i64 ay, .int .i64 az] 33)).alloc (.cells #[.int .i64 bx, .int .i64 by_, .int .i64 bz] 33)).alloc (.cells #[.int .i64 cx, .int .i64 cy, .int .i64 cz] 33)).heap[w.heap.size + 3]? = some (.cells #[.int .i64 cx, .int .i64 cy, .int .i64 cz] 33) := allocs_at w [(.cells #[.int .i64 px, .int .i64 py, .int .i64 pz] 33), (.cells #[.int .i64 ax, .int .i64 ay, .int .i64 az] 33), (.cells #[.int .i64 bx, .int .i64 by_, .int .i64 bz] 33), (.cells #[.int .i64 cx, .int .i64 cy, .int .i64 cz] 33)] 3 rfl
  generalize ((((w.alloc (.cells #[.int .i64 px, .int .i64 py, .int .i64 pz] 33)).alloc (.cells #[.int .i64 ax, .int .i64 ay, .int .i64 az] 33)).alloc (.cells #[.int .i64 bx, .int .i64 by_, .int .i64 bz] 33)).alloc (.cells #[.int .i64 cx, .int .i64 cy, .int .i64 cz] 33)) = w0 at *
  have k0_0 : w0.cell? ⟨w.heap.size, 0, none⟩ = some (.int .i64 px) := (Blk.cell kb0 0).trans rfl
  have k0_1 : w0.cell? ⟨w.heap.size, 1, none⟩ = some (.int .i64 py) := (Blk.cell kb0 1).trans rfl
  have k0_2 : w0.cell? ⟨w.heap.size, 2, none⟩ = some (.int .i64 pz) := (Blk.cell kb0 2).trans rfl
  have k1_0 : w0.cell? ⟨w.heap.size + 1, 0, none⟩ = some (.int .i64 ax) := (Blk.cell kb1 0).trans rfl
  have k1_1 : w0.cell? ⟨w.heap.size + 1, 1, none⟩ = some (.int .i64 ay) := (Blk.cell kb1 1).trans rfl
  have k1_2 : w0.cell? ⟨w.heap.size + 1, 2, none⟩ = some (.int .i64 az) := (Blk.cell kb1 2).trans rfl
  have k2_0 : w0.cell? ⟨w.heap.size + 1 + 1, 0, none⟩ = some (.int .i64 bx) := (Blk.cell kb2 0).trans rfl
  have k2_1 : w0.cell? ⟨w.heap.size + 1 + 1, 1, none⟩ = some (.int .i64 by_) := (Blk.cell kb2 1).trans rfl
  have k2_2 : w0.cell? ⟨w.heap.size + 1 + 1, 2, none⟩ = some (.int .i64 bz) := (Blk.cell kb2 2).trans rfl
  have k3_0 : w0.cell? ⟨w.heap.size + 1 + 1 + 1, 0, none⟩ = some (.int .i64 cx) := (Blk.cell kb3 0).trans rfl
  have k3_1 : w0.cell? ⟨w.heap.size + 1 + 1 + 1, 1, none⟩ = some (.int .i64 cy) := (Blk.cell kb3 1).trans rfl
  have k3_2 : w0.cell? ⟨w.heap.size + 1 + 1 + 1, 2, none⟩ = some (.int .i64 cz) := (Blk.cell kb3 2).trans rfl
  clear kb0 kb1 kb2 kb3
  have SK : ∀ w', Below w0.heap.size w0 w' → Below w0.heap.size w0 w' ∧ w'.cell? ⟨w.heap.size, 0, none⟩ = some (.int .i64 px) ∧ w'.cell? ⟨w.heap.size, 1, none⟩ = some (.int .i64 py) ∧ w'.cell? ⟨w.heap.size, 2, none⟩ = some (.int .i64 pz) ∧ w'.cell? ⟨w.heap.size + 1, 0, none⟩ = some (.int .i64 ax) ∧ w'.cell? ⟨w.heap.size + 1, 1, none⟩ = some (.int .i64 ay) ∧ w'.cell? ⟨w.heap.size + 1, 2, none⟩ = some (.int .i64 az) ∧ w'.cell? ⟨w.heap.size + 1 + 1, 0, none⟩ = some (.int .i64 bx) ∧ w'.cell? ⟨w.heap.size + 1 + 1, 1, none⟩ = some (.int .i64 by_) ∧ w'.cell? ⟨w.heap.size + 1 + 1, 2, none⟩ = some (.int .i64 bz) ∧ w'.cell? ⟨w.heap.size + 1 + 1 + 1, 0, none⟩ = some (.int .i64 cx) ∧ w'.cell? ⟨w.heap.size + 1 + 1 + 1, 1, none⟩ = some (.int .i64 cy) ∧ w'.cell? ⟨w.heap.size + 1 + 1 + 1, 2, none⟩ = some (.int .i64 cz) := fun w' h => ⟨h, (bcell h _ _ (by omega)).trans k0_0, (bcell h _ _ (by omega)).trans k0_1, (bcell h _ _ (by omega)).trans k0_2, (bcell h _ _ (by omega)).trans k1_0, (bcell h _ _ (by omega)).trans k1_1, (bcell h _ _ (by omega)).trans k1_2, (bcell h _ _ (by omega)).trans k2_0, (bcell h _ _ (by omega)).trans k2_1, (bcell h _ _ (by omega)).trans k2_2, (bcell h _ _ (by omega)).trans k3_0, (bcell h _ _ (by omega)).trans k3_1, (bcell h _ _ (by omega)).trans k3_2⟩
  go_wp2_with fail
  refine (rrights_any _ px py pz).mono ?_
  rintro e w1 ⟨rfl, hb1⟩
  have hL1 : Below w0.heap.size w0 w1 := hb1
  obtain ⟨-, c1_0, c1_1, c1_2, c1_3, c1_4, c1_5, c1_6, c1_7, c1_8, c1_9, c1_10, c1_11⟩ := SK _ hL1
  go_wp2_with fail
  refine (rrights_any _ ax ay az).mono ?_
  rintro e w2 ⟨rfl, hb2⟩
  have hL2 : Below w0.heap.size w0 w2 := hL1.trans (hb2.mono hL1.size)
  obtain ⟨-, c2_0, c2_1, c2_2, c2_3, c2_4, c2_5, c2_6, c2_7, c2_8, c2_9, c2_10, c2_11⟩ := SK _ hL2
  go_wp2_with fail
  refine (rrights_any _ bx by_ bz).mono ?_
  rintro e w3 ⟨rfl, hb3⟩
  have hL3 : Below w0.heap.size w0 w3 := hL2.trans (hb3.mono hL2.size)
  obtain ⟨-, c3_0, c3_1, c3_2, c3_3, c3_4, c3_5, c3_6, c3_7, c3_8, c3_9, c3_10, c3_11⟩ := SK _ hL3
  go_wp2_with fail
  refine (rrights_any _ cx cy cz).mono ?_
  rintro e w4 ⟨rfl, hb4⟩
  have hL4 : Below w0.heap.size w0 w4 := hL3.trans (hb4.mono hL3.size)
  obtain ⟨-, c4_0, c4_1, c4_2, c4_3, c4_4, c4_5, c4_6, c4_7, c4_8, c4_9, c4_10, c4_11⟩ := SK _ hL4
  go_wp2_with fail
  refine (racross_any _ ax ay az bx by_ bz cx cy cz hax hay haz hbx hby_ hbz hcx hcy hcz).mono ?_
  rw [HU.out, HV.out, HZ.out]
  rintro e w5 ⟨rfl, hb5⟩
  have hL5 : Below w0.heap.size w0 w5 := hL4.trans (hb5.mono hL4.size)
  obtain ⟨-, c5_0, c5_1, c5_2, c5_3, c5_4, c5_5, c5_6, c5_7, c5_8, c5_9, c5_10, c5_11⟩ := SK _ hL5
  go_wp2_with fail
  go_ret2
  exact ⟨rfl, hb0.trans (hL5.mono hb0.size)⟩

set_option maxRecDepth 100000 in
set_option maxHeartbeats 4000000 in
theorem rplane_one (w : World) (px py pz ax ay az bx by_ bz cx cy cz U V Z : Int) (hok : Co px ∧ Co py ∧ Co pz ∧ Co ax ∧ Co ay ∧ Co az ∧ Co bx ∧ Co by_ ∧ Co bz ∧ Co cx ∧ Co cy ∧ Co cz) (hU : (by_ - ay) * (cz - az) - (bz - az) * (cy - ay) = U) (hV : (bz - az) * (cx - ax) - (bx - ax) * (cz - az) = V) (hZ : (bx - ax) * (cy - ay) - (by_ - ay) * (cx - ax) = Z) (nU : Nf U) (nV : Nf V) (nZ : Nf Z) (_z1 : (U = 0) = False) (hne : U * U + V * V + Z * Z ≠ 0) :
    Calls Tryz.prog 24 #[.agg #[.int .i64 px, .int .i64 py, .int .i64 pz], .agg #[.int .i64 ax, .int .i64 ay, .int .i64 az], .agg #[.int .i64 bx, .int .i64 by_, .int .i64 bz], .agg #[.int .i64 cx, .int .i64 cy, .int .i64 cz]] w fun e w' => e = .returned (RR (.ok (Rat.divInt ((U * (px - ax) + V * (py - ay) + Z * (pz - az)) * (U * (px - ax) + V * (py - ay) + Z * (pz - az))) (U * U + V * V + Z * Z)))) ∧ Below w.heap.size w w' := by
  obtain ⟨hpx, hpy, hpz, hax, hay, haz, hbx, hby_, hbz, hcx, hcy, hcz⟩ := id hok
  clear hok
  have g0 := decide_eq_true (show Co px ∧ Co py ∧ Co pz from ⟨hpx, hpy, hpz⟩)
  have g1 := decide_eq_true (show Co ax ∧ Co ay ∧ Co az from ⟨hax, hay, haz⟩)
  have g2 := decide_eq_true (show Co bx ∧ Co by_ ∧ Co bz from ⟨hbx, hby_, hbz⟩)
  have g3 := decide_eq_true (show Co cx ∧ Co cy ∧ Co cz from ⟨hcx, hcy, hcz⟩)
  have HU := hide hU
  have HV := hide hV
  have HZ := hide hZ
  have FP := hide (fun w => rfromplane_any w px py pz ax ay az bx by_ bz cx cy cz U V Z hpx hpy hpz hax hay haz hbx hby_ hbz hcx hcy hcz hU hV hZ nU nV nZ hne)
  clear hne
  clear hU hV hZ nU nV nZ
  generalize Rat.divInt ((U * (px - ax) + V * (py - ay) + Z * (pz - az)) * (U * (px - ax) + V * (py - ay) + Z * (pz - az))) (U * U + V * V + Z * Z) = q at *
  go_enter Tryz.func24, Tryz.ntmps24
  go_upto_region 1 with (fail)
  have hb0 : Below w.heap.size w ((((w.alloc (.cells #[.int .i64 px, .int .i64 py, .int .i64 pz] 33)).alloc (.cells #[.int .i64 ax, .int .i64 ay, .int .i64 az] 33)).alloc (.cells #[.int .i64 bx, .int .i64 by_, .int .i64 bz] 33)).alloc (.cells #[.int .i64 cx, .int .i64 cy, .int .i64 cz] 33)) := allocs_below w [(.cells #[.int .i64 px, .int .i64 py, .int .i64 pz] 33), (.cells #[.int .i64 ax, .int .i64 ay, .int .i64 az] 33), (.cells #[.int .i64 bx, .int .i64 by_, .int .i64 bz] 33), (.cells #[.int .i64 cx, .int .i64 cy, .int .i64 cz] 33)]
  have s0 : w.heap.size + 4 ≤ ((((w.alloc (.cells #[.int .i64 px, .int .i64 py, .int .i64 pz] 33)).alloc (.cells #[.int .i64 ax, .int .i64 ay, .int .i64 az] 33)).alloc (.cells #[.int .i64 bx, .int .i64 by_, .int .i64 bz] 33)).alloc (.cells #[.int .i64 cx, .int .i64 cy, .int .i64 cz] 33)).heap.size := Nat.le_of_eq (allocs_size w [(.cells #[.int .i64 px, .int .i64 py, .int .i64 pz] 33), (.cells #[.int .i64 ax, .int .i64 ay, .int .i64 az] 33), (.cells #[.int .i64 bx, .int .i64 by_, .int .i64 bz] 33), (.cells #[.int .i64 cx, .int .i64 cy, .int .i64 cz] 33)]).symm
  have kb0 : ((((w.alloc (.cells #[.int .i64 px, .int .i64 py, .int .i64 pz] 33)).alloc (.cells #[.int .i64 ax, .int .i64 ay, .int .i64 az] 33)).alloc (.cells #[.int .i64 bx, .int .i64 by_, .int .i64 bz] 33)).alloc (.cells #[.int .i64 cx, .int .i64 cy, .int .i64 cz] 33)).heap[w.heap.size + 0]? = some (.cells #[.int .i64 px, .int .i64 py, .int .i64 pz] 33) := allocs_at w [(.cells #[.int .i64 px, .int .i64 py, .int .i64 pz] 33), (.cells #[.int .i64 ax, .int .i64 ay, .int .i64 az] 33), (.cells #[.int .i64 bx, .int .i64 by_, .int .i64 bz] 33), (.cells #[.int .i64 cx, .int .i64 cy, .int .i64 cz] 33)] 0 rfl
  have kb1 : ((((w.alloc (.cells #[.int .i64 px, .int .i64 py, .int .i64 pz] 33)).alloc (.cells #[.int .i64 ax, .int .i64 ay, .int .i64 az] 33)).alloc (.cells #[.int .i64 bx, .int .i64 by_, .int .i64 bz] 33)).alloc (.cells #[.int .i64 cx, .int .i64 cy, .int .i64 cz] 33)).heap[w.heap.size + 1]? = some (.cells #[.int .i64 ax, .int .i64 ay, .int .i64 az] 33) := allocs_at w [(.cells #[.int .i64 px, .int .i64 py, .int .i64 pz] 33), (.cells #[.int .i64 ax, .int .i64 ay, .int .i64 az] 33), (.cells #[.int .i64 bx, .int .i64 by_, .int .i64 bz] 33), (.cells #[.int .i64 cx, .int .i64 cy, .int .i64 cz] 33)] 1 rfl
  have kb2 : ((((w.alloc (.cells #[.int .i64 px, .int .i64 py, .int .i64 pz] 33)).alloc (.cells #[.int .i64 ax, .int .i64 ay, .int .i64 az] 33)).alloc (.cells #[.int .i64 bx, .int .i64 by_, .int .i64 bz] 33)).alloc (.cells #[.int .i64 cx, .int .i64 cy, .int .i64 cz] 33)).heap[w.heap.size + 2]? = some (.cells #[.int .i64 bx, .int .i64 by_, .int .i64 bz] 33) := allocs_at w [(.cells #[.int .i64 px, .int .i64 py, .int .i64 pz] 33), (.cells #[.int .i64 ax, .int .i64 ay, .int .i64 az] 33), (.cells #[.int .i64 bx, .int .i64 by_, .int .i64 bz] 33), (.cells #[.int .i64 cx, .int .i64 cy, .int .i64 cz] 33)] 2 rfl
  have kb3 : ((((w.alloc (.cells #[.int .i64 px, .int .i64 py, .int .i64 pz] 33)).alloc (.cells #[.int .i64 ax, .int .i64 ay, .int .i64 az] 33)).alloc (.cells #[.int .i64 bx, .int .i64 by_, .int .i64 bz] 33)).alloc (.cells #[.int .i64 cx, .int .i64 cy, .int .i64 cz] 33)).heap[w.heap.size + 3]? = some (.cells #[.int .i64 cx, .int .i64 cy, .int .i64 cz] 33) := allocs_at w [(.cells #[.int .i64 px, .int .i64 py, .int .i64 pz] 33), (.cells #[.int .i64 ax, .int .i64 ay, .int .i64 az] 33), (.cells #[.int .i64 bx, .int .i64 by_, .int .i64 bz] 33), (.cells #[.int .i64 cx, .int .i64 cy, .int .i64 cz] 33)] 3 rfl
  generalize ((((w.alloc (.cells #[.int .i64 px, .int .i64 py, .int .i64 pz] 33)).alloc (.cells #[.int .i64 ax, .int .i64 ay, .int .i64 az] 33)).alloc (.cells #[.int .i64 bx, .int .i64 by_, .int .i64 bz] 33)).alloc (.cells #[.int .i64 cx, .int .i64 cy, .int .i64 cz] 33)) = w0 at *
  have k0_0 : w0.cell? ⟨w.heap.size, 0, none⟩ = some (.int .i64 px) := (Blk.cell kb0 0).trans rfl
  have k0_1 : w0.cell? ⟨w.heap.size, 1, none⟩ = some (.int .i64 py) := (Blk.cell kb0 1).trans rfl
  have k0_2 : w0.cell? ⟨w.heap.size, 2, none⟩ = some (.int .i64 pz) := (Blk.cell kb0 2).trans rfl
  have k1_0 : w0.cell? ⟨w.heap.size + 1, 0, none⟩ = some (.int .i64 ax) := (Blk.cell kb1 0).trans rfl
  have k1_1 : w0.cell? ⟨w.heap.size + 1, 1, none⟩ = some (.int .i64 ay) := (Blk.cell kb1 1).trans rfl
  have k1_2 : w0.cell? ⟨w.heap.size + 1, 2, none⟩ = some (.int .i64 az) := (Blk.cell kb1 2).trans rfl
  have k2_0 : w0.cell? ⟨w.heap.size + 1 + 1, 0, none⟩ = some (.int .i64 bx) := (Blk.cell kb2 0).trans rfl
  have k2_1 : w0.cell? ⟨w.heap.size + 1 + 1, 1, none⟩ = some (.int .i64 by_) := (Blk.cell kb2 1).trans rfl
  have k2_2 : w0.cell? ⟨w.heap.size + 1 + 1, 2, none⟩ = some (.int .i64 bz) := (Blk.cell kb2 2).trans rfl
  have k3_0 : w0.cell? ⟨w.heap.size + 1 + 1 + 1, 0, none⟩ = some (.int .i64 cx) := (Blk.cell kb3 0).trans rfl
  have k3_1 : w0.cell? ⟨w.heap.size + 1 + 1 + 1, 1, none⟩ = some (.int .i64 cy) := (Blk.cell kb3 1).trans rfl
  have k3_2 : w0.cell? ⟨w.heap.size + 1 + 1 + 1, 2, none⟩ = some (.int .i64 cz) := (Blk.cell kb3 2).trans rfl
  clear kb0 kb1 kb2 kb3
  have SK : ∀ w', Below w0.heap.size w0 w' → Below w0.heap.size w0 w' ∧ w'.cell? ⟨w.heap.size, 0, none⟩ = some (.int .i64 px) ∧ w'.cell? ⟨w.heap.size, 1, none⟩ = some (.int .i64 py) ∧ w'.cell? ⟨w.heap.size, 2, none⟩ = some (.int .i64 pz) ∧ w'.cell? ⟨w.heap.size + 1, 0, none⟩ = some (.int .i64 ax) ∧ w'.cell? ⟨w.heap.size + 1, 1, none⟩ = some (.int .i64 ay) ∧ w'.cell? ⟨w.heap.size + 1, 2, none⟩ = some (.int .i64 az) ∧ w'.cell? ⟨w.heap.size + 1 + 1, 0, none⟩ = some (.int .i64 bx) ∧ w'.cell? ⟨w.heap.size + 1 + 1, 1, none⟩ = some (.int .i64 by_) ∧ w'.cell? ⟨w.heap.size + 1 + 1, 2, none⟩ = some (.int .i64 bz) ∧ w'.cell? ⟨w.heap.size + 1 + 1 + 1, 0, none⟩ = some (.int .i64 cx) ∧ w'.cell? ⟨w.heap.size + 1 + 1 + 1, 1, none⟩ = some (.int .i64 cy) ∧ w'.cell? ⟨w.heap.size + 1 + 1 + 1, 2, none⟩ = some (.int .i64 cz) := fun w' h => ⟨h, (bcell h _ _ (by omega)).trans k0_0, (bcell h _ _ (by omega)).trans k0_1, (bcell h _ _ (by omega)).trans k0_2, (bcell h _ _ (by omega)).trans k1_0, (bcell h _ _ (by omega)).trans k1_1, (bcell h _ _ (by omega)).trans k1_2, (bcell h _ _ (by omega)).trans k2_0, (bcell h _ _ (by omega)).trans k2_1, (bcell h _ _ (by omega)).trans k2_2, (bcell h _ _ (by omega)).trans k3_0, (bcell h _ _ (by omega)).trans k3_1, (bcell h _ _ (by omega)).trans k3_2⟩
  go_wp2_with fail
  refine (rrights_any _ px py pz).mono ?_
  rintro e w1 ⟨rfl, hb1⟩
  have hL1 : Below w0.heap.size w0 w1 := hb1
  obtain ⟨-, c1_0, c1_1, c1_2, c1_3, c1_4, c1_5, c1_6, c1_7, c1_8, c1_9, c1_10, c1_11⟩ := SK _ hL1
  go_wp2_with fail
  refine (rrights_any _ ax ay az).mono ?_
  rintro e w2 ⟨rfl, hb2⟩
  have hL2 : Below w0.heap.size w0 w2 := hL1.trans (hb2.mono hL1.size)
  obtain ⟨-, c2_0, c2_1, c2_2, c2_3, c2_4, c2_5, c2_6, c2_7, c2_8, c2_9, c2_10, c2_11⟩ := SK _ hL2
  go_wp2_with fail
  refine (rrights_any _ bx by_ bz).mono ?_
  rintro e w3 ⟨rfl, hb3⟩
  have hL3 : Below w0.heap.size w0 w3 := hL2.trans (hb3.mono hL2.size)
  obtain ⟨-, c3_0, c3_1, c3_2, c3_3, c3_4, c3_5, c3_6, c3_7, c3_8, c3_9, c3_10, c3_11⟩ := SK _ hL3
  go_wp2_with fail
  refine (rrights_any _ cx cy cz).mono ?_
  rintro e w4 ⟨rfl, hb4⟩
  have hL4 : Below w0.heap.size w0 w4 := hL3.trans (hb4.mono hL3.size)
  obtain ⟨-, c4_0, c4_1, c4_2, c4_3, c4_4, c4_5, c4_6, c4_7, c4_8, c4_9, c4_10, c4_11⟩ := SK _ hL4
  go_wp2_with fail
  refine (racross_any _ ax ay az bx by_ bz cx cy cz hax hay haz hbx hby_ hbz hcx hcy hcz).mono ?_
  rw [HU.out, HV.out, HZ.out]
  rintro e w5 ⟨rfl, hb5⟩
  have hL5 : Below w0.heap.size w0 w5 := hL4.trans (hb5.mono hL4.size)
  obtain ⟨-, c5_0, c5_1, c5_2, c5_3, c5_4, c5_5, c5_6, c5_7, c5_8, c5_9, c5_10, c5_11⟩ := SK _ hL5
  go_wp2_with fail
  refine (FP.out _).mono ?_
  rintro e w6 ⟨rfl, hb6⟩
  have hL6 : Below w0.heap.size w0 w6 := hL5.trans (hb6.mono hL5.size)
  obtain ⟨-, c6_0, c6_1, c6_2, c6_3, c6_4, c6_5, c6_6, c6_7, c6_8, c6_9, c6_10, c6_11⟩ := SK _ hL6
  go_wp2_with fail
  go_ret2
  exact ⟨rfl, hb0.trans (hL6.mono hb0.size)⟩

set_option maxRecDepth 100000 in
set_option maxHeartbeats 4000000 in
theorem rplane_two (w : World) (px py pz ax ay az bx by_ bz cx cy cz U V Z : Int) (hok : Co px ∧ Co py ∧ Co pz ∧ Co ax ∧ Co ay ∧ Co az ∧ Co bx ∧ Co by_ ∧ Co bz ∧ Co cx ∧ Co cy ∧ Co cz) (hU : (by_ - ay) * (cz - az) - (bz - az) * (cy - ay) = U) (hV : (bz - az) * (cx - ax) - (bx - ax) * (cz - az) = V) (hZ : (bx - ax) * (cy - ay) - (by_ - ay) * (cx - ax) = Z) (nU : Nf U) (nV : Nf V) (nZ : Nf Z) (_z1 : (U = 0) = True) (_z2 : (V = 0) = False) (hne : U * U + V * V + Z * Z ≠ 0) :
    Calls Tryz.prog 24 #[.agg #[.int .i64 px, .int .i64 py, .int .i64 pz], .agg #[.int .i64 ax, .int .i64 ay, .int .i64 az], .agg #[.int .i64 bx, .int .i64 by_, .int .i64 bz], .agg #[.int .i64 cx, .int .i64 cy, .int .i64 cz]] w fun e w' => e = .returned (RR (.ok (Rat.divInt ((U * (px - ax) + V * (py - ay) + Z * (pz - az)) * (U * (px - ax) + V * (py - ay) + Z * (pz - az))) (U * U + V * V + Z * Z)))) ∧ Below w.heap.size w w' := by
  obtain ⟨hpx, hpy, hpz, hax, hay, haz, hbx, hby_, hbz, hcx, hcy, hcz⟩ := id hok
  clear hok
  have g0 := decide_eq_true (show Co px ∧ Co py ∧ Co pz from ⟨hpx, hpy, hpz⟩)
  have g1 := decide_eq_true (show Co ax ∧ Co ay ∧ Co az from ⟨hax, hay, haz⟩)
  have g2 := decide_eq_true (show Co bx ∧ Co by_ ∧ Co bz from ⟨hbx, hby_, hbz⟩)
  have g3 := decide_eq_true (show Co cx ∧ Co cy ∧ Co cz from ⟨hcx, hcy, hcz⟩)
  have HU := hide hU
  have HV := hide hV
  have HZ := hide hZ
  have FP := hide (fun w => rfromplane_any w px py pz ax ay az bx by_ bz cx cy cz U V Z hpx hpy hpz hax hay haz hbx hby_ hbz hcx hcy hcz hU hV hZ nU nV nZ hne)
  clear hne
  clear hU hV hZ nU nV nZ
  generalize Rat.divInt ((U * (px - ax) + V * (py - ay) + Z * (pz - az)) * (U * (px - ax) + V * (py - ay) + Z * (pz - az))) (U * U + V * V + Z * Z) = q at *
  go_enter Tryz.func24, Tryz.ntmps24
  go_upto_region 1 with (fail)
  have hb0 : Below w.heap.size w ((((w.alloc (.cells #[.int .i64 px, .int .i64 py, .int .i64 pz] 33)).alloc (.cells #[.int .i64 ax, .int .i64 ay, .int .i64 az] 33)).alloc (.cells #[.int .i64 bx, .int .i64 by_, .int .i64 bz] 33)).alloc (.cells #[.int .i64 cx, .int .i64 cy, .int .i64 cz] 33)) := allocs_below w [(.cells #[.int .i64 px, .int .i64 py, .int .i64 pz] 33), (.cells #[.int .i64 ax, .int .i64 ay, .int .i64 az] 33), (.cells #[.int .i64 bx, .int .i64 by_, .int .i64 bz] 33), (.cells #[.int .i64 cx, .int .i64 cy, .int .i64 cz] 33)]
  have s0 : w.heap.size + 4 ≤ ((((w.alloc (.cells #[.int .i64 px, .int .i64 py, .int .i64 pz] 33)).alloc (.cells #[.int .i64 ax, .int .i64 ay, .int .i64 az] 33)).alloc (.cells #[.int .i64 bx, .int .i64 by_, .int .i64 bz] 33)).alloc (.cells #[.int .i64 cx, .int .i64 cy, .int .i64 cz] 33)).heap.size := Nat.le_of_eq (allocs_size w [(.cells #[.int .i64 px, .int .i64 py, .int .i64 pz] 33), (.cells #[.int .i64 ax, .int .i64 ay, .int .i64 az] 33), (.cells #[.int .i64 bx, .int .i64 by_, .int .i64 bz] 33), (.cells #[.int .i64 cx, .int .i64 cy, .int .i64 cz] 33)]).symm
  have kb0 : ((((w.alloc (.cells #[.int .i64 px, .int .i64 py, .int .i64 pz] 33)).alloc (.cells #[.int .i64 ax, .int .i64 ay, .int .i64 az] 33)).alloc (.cells #[.int .i64 bx, .int .i64 by_, .int .i64 bz] 33)).alloc (.cells #[.int .i64 cx, .int .i64 cy, .int .i64 cz] 33)).heap[w.heap.size + 0]? = some (.cells #[.int .i64 px, .int .i64 py, .int .i64 pz] 33) := allocs_at w [(.cells #[.int .i64 px, .int .i64 py, .int .i64 pz] 33), (.cells #[.int .i64 ax, .int .i64 ay, .int .i64 az] 33), (.cells #[.int .i64 bx, .int .i64 by_, .int .i64 bz] 33), (.cells #[.int .i64 cx, .int .i64 cy, .int .i64 cz] 33)] 0 rfl
  have kb1 : ((((w.alloc (.cells #[.int .i64 px, .int .i64 py, .int .i64 pz] 33)).alloc (.cells #[.int .i64 ax, .int .i64 ay, .int .i64 az] 33)).alloc (.cells #[.int .i64 bx, .int .i64 by_, .int .i64 bz] 33)).alloc (.cells #[.int .i64 cx, .int .i64 cy, .int .i64 cz] 33)).heap[w.heap.size + 1]? = some (.cells #[.int .i64 ax, .int .i64 ay, .int .i64 az] 33) := allocs_at w [(.cells #[.int .i64 px, .int .i64 py, .int .i64 pz] 33), (.cells #[.int .i64 ax, .int .i64 ay, .int .i64 az] 33), (.cells #[.int .i64 bx, .int .i64 by_, .int .i64 bz] 33), (.cells #[.int .i64 cx, .int .i64 cy, .int .i64 cz] 33)] 1 rfl
  have kb2 : ((((w.alloc (.cells #[.int .i64 px, .int .i64 py, .int .i64 pz] 33)).alloc (.cells #[.int .i64 ax, .int .i64 ay, .int .i64 az] 33)).alloc (.cells #[.int .i64 bx, .int .i64 by_, .int .i64 bz] 33)).alloc (.cells #[.int .i64 cx, .int .i64 cy, .int .i64 cz] 33)).heap[w.heap.size + 2]? = some (.cells #[.int .i64 bx, .int .i64 by_, .int .i64 bz] 33) := allocs_at w [(.cells #[.int .i64 px, .int .i64 py, .int .i64 pz] 33), (.cells #[.int .i64 ax, .int .i64 ay, .int .i64 az] 33), (.cells #[.int .i64 bx, .int .i64 by_, .int .i64 bz] 33), (.cells #[.int .i64 cx, .int .i64 cy, .int .i64 cz] 33)] 2 rfl
  have kb3 : ((((w.alloc (.cells #[.int .i64 px, .int .i64 py, .int .i64 pz] 33)).alloc (.cells #[.int .i64 ax, .int .i64 ay, .int .i64 az] 33)).alloc (.cells #[.int .i64 bx, .int .i64 by_, .int .i64 bz] 33)).alloc (.cells #[.int .i64 cx, .int .i64 cy, .int .i64 cz] 33)).heap[w.heap.size + 3]? = some (.cells #[.int .i64 cx, .int .i64 cy, .int .i64 cz] 33) := allocs_at w [(.cells #[.int .i64 px, .int .i64 py, .int .i64 pz] 33), (.cells #[.int .i64 ax, .int .i64 ay, .int .i64 az] 33), (.cells #[.int .i64 bx, .int .i64 by_, .int .i64 bz] 33), (.cells #[.int .i64 cx, .int .i64 cy, .int .i64 cz] 33)] 3 rfl
  generalize ((((w.alloc (.cells #[.int .i64 px, .int .i64 py, .int .i64 pz] 33)).alloc (.cells #[.int .i64 ax, .int .i64 ay, .int .i64 az] 33)).alloc (.cells #[.int .i64 bx, .int .i64 by_, .int .i64 bz] 33)).alloc (.cells #[.int .i64 cx, .int .i64 cy, .int .i64 cz] 33)) = w0 at *
  have k0_0 : w0.cell? ⟨w.heap.size, 0, none⟩ = some (.int .i64 px) := (Blk.cell kb0 0).trans rfl
  have k0_1 : w0.cell? ⟨w.heap.size, 1, none⟩ = some (.int .i64 py) := (Blk.cell kb0 1).trans rfl
  have k0_2 : w0.cell? ⟨w.heap.size, 2, none⟩ = some (.int .i64 pz) := (Blk.cell kb0 2).trans rfl
  have k1_0 : w0.cell? ⟨w.heap.size + 1, 0, none⟩ = some (.int .i64 ax) := (Blk.cell kb1 0).trans rfl
  have k1_1 : w0.cell? ⟨w.heap.size + 1, 1, none⟩ = some (.int .i64 ay) := (Blk.cell kb1 1).trans rfl
  have k1_2 : w0.cell? ⟨w.heap.size + 1, 2, none⟩ = some (.int .i64 az) := (Blk.cell kb1 2).trans rfl
  have k2_0 : w0.cell? ⟨w.heap.size + 1 + 1, 0, none⟩ = some (.int .i64 bx) := (Blk.cell kb2 0).trans rfl
  have k2_1 : w0.cell? ⟨w.heap.size + 1 + 1, 1, none⟩ = some (.int .i64 by_) := (Blk.cell kb2 1).trans rfl
  have k2_2 : w0.cell? ⟨w.heap.size + 1 + 1, 2, none⟩ = some (.int .i64 bz) := (Blk.cell kb2 2).trans rfl
  have k3_0 : w0.cell? ⟨w.heap.size + 1 + 1 + 1, 0, none⟩ = some (.int .i64 cx) := (Blk.cell kb3 0).trans rfl
  have k3_1 : w0.cell? ⟨w.heap.size + 1 + 1 + 1, 1, none⟩ = some (.int .i64 cy) := (Blk.cell kb3 1).trans rfl
  have k3_2 : w0.cell? ⟨w.heap.size + 1 + 1 + 1, 2, none⟩ = some (.int .i64 cz) := (Blk.cell kb3 2).trans rfl
  clear kb0 kb1 kb2 kb3
  have SK : ∀ w', Below w0.heap.size w0 w' → Below w0.heap.size w0 w' ∧ w'.cell? ⟨w.heap.size, 0, none⟩ = some (.int .i64 px) ∧ w'.cell? ⟨w.heap.size, 1, none⟩ = some (.int .i64 py) ∧ w'.cell? ⟨w.heap.size, 2, none⟩ = some (.int .i64 pz) ∧ w'.cell? ⟨w.heap.size + 1, 0, none⟩ = some (.int .i64 ax) ∧ w'.cell? ⟨w.heap.size + 1, 1, none⟩ = some (.int .i64 ay) ∧ w'.cell? ⟨w.heap.size + 1, 2, none⟩ = some (.int .i64 az) ∧ w'.cell? ⟨w.heap.size + 1 + 1, 0, none⟩ = some (.int .i64 bx) ∧ w'.cell? ⟨w.heap.size + 1 + 1, 1, none⟩ = some (.int .i64 by_) ∧ w'.cell? ⟨w.heap.size + 1 + 1, 2, none⟩ = some (.int .i64 bz) ∧ w'.cell? ⟨w.heap.size + 1 + 1 + 1, 0, none⟩ = some (.int .i64 cx) ∧ w'.cell? ⟨w.heap.size + 1 + 1 + 1, 1, none⟩ = some (.int .i64 cy) ∧ w'.cell? ⟨w.heap.size + 1 + 1 + 1, 2, none⟩ = some (.int .i64 cz) := fun w' h => ⟨h, (bcell h _ _ (by omega)).trans k0_0, (bcell h _ _ (by omega)).trans k0_1, (bcell h _ _ (by omega)).trans k0_2, (bcell h _ _ (by omega)).trans k1_0, (bcell h _ _ (by omega)).trans k1_1, (bcell h _ _ (by omega)).trans k1_2, (bcell h _ _ (by omega)).trans k2_0, (bcell h _ _ (by omega)).trans k2_1, (bcell h _ _ (by omega)).trans k2_2, (bcell h _ _ (by omega)).trans k3_0, (bcell h _ _ (by omega)).trans k3_1, (bcell h _ _ (by omega)).trans k3_2⟩
  go_wp2_with fail
  refine (rrights_any _ px py pz).mono ?_
  rintro e w1 ⟨rfl, hb1⟩
  have hL1 : Below w0.heap.size w0 w1 := hb1
  obtain ⟨-, c1_0, c1_1, c1_2, c1_3, c1_4, c1_5, c1_6, c1_7, c1_8, c1_9, c1_10, c1_11⟩ := SK _ hL1
  go_wp2_with fail
  refine (rrights_any _ ax ay az).mono ?_
  rintro e w2 ⟨rfl, hb2⟩
  have hL2 : Below w0.heap.size w0 w2 := hL1.trans (hb2.mono hL1.size)
  obtain ⟨-, c2_0, c2_1, c2_2, c2_3, c2_4, c2_5, c2_6, c2_7, c2_8, c2_9, c2_10, c2_11⟩ := SK _ hL2
  go_wp2_with fail
  refine (rrights_any _ bx by_ bz).mono ?_
  rintro e w3 ⟨rfl, hb3⟩
  have hL3 : Below w0.heap.size w0 w3 := hL2.trans (hb3.mono hL2.size)
  obtain ⟨-, c3_0, c3_1, c3_2, c3_3, c3_4, c3_5, c3_6, c3_7, c3_8, c3_9, c3_10, c3_11⟩ := SK _ hL3
  go_wp2_with fail
  refine (rrights_any _ cx cy cz).mono ?_
  rintro e w4 ⟨rfl, hb4⟩
  have hL4 : Below w0.heap.size w0 w4 := hL3.trans (hb4.mono hL3.size)
  obtain ⟨-, c4_0, c4_1, c4_2, c4_3, c4_4, c4_5, c4_6, c4_7, c4_8, c4_9, c4_10, c4_11⟩ := SK _ hL4
  go_wp2_with fail
  refine (racross_any _ ax ay az bx by_ bz cx cy cz hax hay haz hbx hby_ hbz hcx hcy hcz).mono ?_
  rw [HU.out, HV.out, HZ.out]
  rintro e w5 ⟨rfl, hb5⟩
  have hL5 : Below w0.heap.size w0 w5 := hL4.trans (hb5.mono hL4.size)
  obtain ⟨-, c5_0, c5_1, c5_2, c5_3, c5_4, c5_5, c5_6, c5_7, c5_8, c5_9, c5_10, c5_11⟩ := SK _ hL5
  go_wp2_with fail
  refine (FP.out _).mono ?_
  rintro e w6 ⟨rfl, hb6⟩
  have hL6 : Below w0.heap.size w0 w6 := hL5.trans (hb6.mono hL5.size)
  obtain ⟨-, c6_0, c6_1, c6_2, c6_3, c6_4, c6_5, c6_6, c6_7, c6_8, c6_9, c6_10, c6_11⟩ := SK _ hL6
  go_wp2_with fail
  go_ret2
  exact ⟨rfl, hb0.trans (hL6.mono hb0.size)⟩

set_option maxRecDepth 100000 in
set_option maxHeartbeats 4000000 in
theorem rplane_three (w : World) (px py pz ax ay az bx by_ bz cx cy cz U V Z : Int) (hok : Co px ∧ Co py ∧ Co pz ∧ Co ax ∧ Co ay ∧ Co az ∧ Co bx ∧ Co by_ ∧ Co bz ∧ Co cx ∧ Co cy ∧ Co cz) (hU : (by_ - ay) * (cz - az) - (bz - az) * (cy - ay) = U) (hV : (bz - az) * (cx - ax) - (bx - ax) * (cz - az) = V) (hZ : (bx - ax) * (cy - ay) - (by_ - ay) * (cx - ax) = Z) (nU : Nf U) (nV : Nf V) (nZ : Nf Z) (_z1 : (U = 0) = True) (_z2 : (V = 0) = True) (_z3 : (Z = 0) = False) (hne : U * U + V * V + Z * Z ≠ 0) :
    Calls Tryz.prog 24 #[.agg #[.int .i64 px, .int .i64 py, .int .i64 pz], .agg #[.int .i64 ax, .int .i64 ay, .int .i64 az], .agg #[.int .i64 bx, .int .i64 by_, .int .i64 bz], .agg #[.int .i64 cx, .int .i64 cy, .int .i64 cz]] w fun e w' => e = .returned (RR (.ok (Rat.divInt ((U * (px - ax) + V * (py - ay) + Z * (pz - az)) * (U * (px - ax) + V * (py - ay) + Z * (pz - az))) (U * U + V * V + Z * Z)))) ∧ Below w.heap.size w w' := by
  obtain ⟨hpx, hpy, hpz, hax, hay, haz, hbx, hby_, hbz, hcx, hcy, hcz⟩ := id hok
  clear hok
  have g0 := decide_eq_true (show Co px ∧ Co py ∧ Co pz from ⟨hpx, hpy, hpz⟩)
  have g1 := decide_eq_true (show Co ax ∧ Co ay ∧ Co az from ⟨hax, hay, haz⟩)
  have g2 := decide_eq_true (show Co bx ∧ Co by_ ∧ Co bz from ⟨hbx, hby_, hbz⟩)
  have g3 := decide_eq_true (show Co cx ∧ Co cy ∧ Co cz from ⟨hcx, hcy, hcz⟩)
  have HU := hide hU
  have HV := hide hV
  have HZ := hide hZ
  have FP := hide (fun w => rfromplane_any w px py pz ax ay az bx by_ bz cx cy cz U V Z hpx hpy hpz hax hay haz hbx hby_ hbz hcx hcy hcz hU hV hZ nU nV nZ hne)
  clear hne
  clear hU hV hZ nU nV nZ
  generalize Rat.divInt ((U * (px - ax) + V * (py - ay) + Z * (pz - az)) * (U * (px - ax) + V * (py - ay) + Z * (pz - az))) (U * U + V * V + Z * Z) = q at *
  go_enter Tryz.func24, Tryz.ntmps24
  go_upto_region 1 with (fail)
  have hb0 : Below w.heap.size w ((((w.alloc (.cells #[.int .i64 px, .int .i64 py, .int .i64 pz] 33)).alloc (.cells #[.int .i64 ax, .int .i64 ay, .int .i64 az] 33)).alloc (.cells #[.int .i64 bx, .int .i64 by_, .int .i64 bz] 33)).alloc (.cells #[.int .i64 cx, .int .i64 cy, .int .i64 cz] 33)) := allocs_below w [(.cells #[.int .i64 px, .int .i64 py, .int .i64 pz] 33), (.cells #[.int .i64 ax, .int .i64 ay, .int .i64 az] 33), (.cells #[.int .i64 bx, .int .i64 by_, .int .i64 bz] 33), (.cells #[.int .i64 cx, .int .i64 cy, .int .i64 cz] 33)]
  have s0 : w.heap.size + 4 ≤ ((((w.alloc (.cells #[.int .i64 px, .int .i64 py, .int .i64 pz] 33)).alloc (.cells #[.int .i64 ax, .int .i64 ay, .int .i64 az] 33)).alloc (.cells #[.int .i64 bx, .int .i64 by_, .int .i64 bz] 33)).alloc (.cells #[.int .i64 cx, .int .i64 cy, .int .i64 cz] 33)).heap.size := Nat.le_of_eq (allocs_size w [(.cells #[.int .i64 px, .int .i64 py, .int .i64 pz] 33), (.cells #[.int .i64 ax, .int .i64 ay, .int .i64 az] 33), (.cells #[.int .i64 bx, .int .i64 by_, .int .i64 bz] 33), (.cells #[.int .i64 cx, .int .i64 cy, .int .i64 cz] 33)]).symm
  have kb0 : ((((w.alloc (.cells #[.int .i64 px, .int .i64 py, .int .i64 pz] 33)).alloc (.cells #[.int .i64 ax, .int .i64 ay, .int .i64 az] 33)).alloc (.cells #[.int .i64 bx, .int .i64 by_, .int .i64 bz] 33)).alloc (.cells #[.int .i64 cx, .int .i64 cy, .int .i64 cz] 33)).heap[w.heap.size + 0]? = some (.cells #[.int .i64 px, .int .i64 py, .int .i64 pz] 33) := allocs_at w [(.cells #[.int .i64 px, .int .i64 py, .int .i64 pz] 33), (.cells #[.int .i64 ax, .int .i64 ay, .int .i64 az] 33), (.cells #[.int .i64 bx, .int .i64 by_, .int .i64 bz] 33), (.cells #[.int .i64 cx, .int .i64 cy, .int .i64 cz] 33)] 0 rfl
  have kb1 : ((((w.alloc (.cells #[.int .i64 px, .int .i64 py, .int .i64 pz] 33)).alloc (.cells #[.int .i64 ax, .int .i64 ay, .int .i64 az] 33)).alloc (.cells #[.int .i64 bx, .int .i64 by_, .int .i64 bz] 33)).alloc (.cells #[.int .i64 cx, .int .i64 cy, .int .i64 cz] 33)).heap[w.heap.size + 1]? = some (.cells #[.int .i64 ax, .int .i64 ay, .int .i64 az] 33) := allocs_at w [(.cells #[.int .i64 px, .int .i64 py, .int .i64 pz] 33), (.cells #[.int .i64 ax, .int .i64 ay, .int .i64 az] 33), (.cells #[.int .i64 bx, .int .i64 by_, .int .i64 bz] 33), (.cells #[.int .i64 cx, .int .i64 cy, .int .i64 cz] 33)] 1 rfl
  have kb2 : ((((w.alloc (.cells #[.int .i64 px, .int .i64 py, .int .i64 pz] 33)).alloc (.cells #[.int .i64 ax, .int .i64 ay, .int .i64 az] 33)).alloc (.cells #[.int .i64 bx, .int .i64 by_, .int .i64 bz] 33)).alloc (.cells #[.int .i64 cx, .int .i64 cy, .int .i64 cz] 33)).heap[w.heap.size + 2]? = some (.cells #[.int .i64 bx, .int .i64 by_, .int .i64 bz] 33) := allocs_at w [(.cells #[.int .i64 px, .int .i64 py, .int .i64 pz] 33), (.cells #[.int .i64 ax, .int .i64 ay, .int .i64 az] 33), (.cells #[.int .i64 bx, .int .i64 by_, .int .i64 bz] 33), (.cells #[.int .i64 cx, .int .i64 cy, .int .i64 cz] 33)] 2 rfl
  have kb3 : ((((w.alloc (.cells #[.int .i64 px, .int .i64 py, .int .i64 pz] 33)).alloc (.cells #[.int .i64 ax, .int .i64 ay, .int .i64 az] 33)).alloc (.cells #[.int .i64 bx, .int .i64 by_, .int .i64 bz] 33)).alloc (.cells #[.int .i64 cx, .int .i64 cy, .int .i64 cz] 33)).heap[w.heap.size + 3]? = some (.cells #[.int .i64 cx, .int .i64 cy, .int .i64 cz] 33) := allocs_at w [(.cells #[.int .i64 px, .int .i64 py, .int .i64 pz] 33), (.cells #[.int .i64 ax, .int .i64 ay, .int .i64 az] 33), (.cells #[.int .i64 bx, .int .i64 by_, .int .i64 bz] 33), (.cells #[.int .i64 cx, .int .i64 cy, .int .i64 cz] 33)] 3 rfl
  generalize ((((w.alloc (.cells #[.int .i64 px, .int .i64 py, .int .i64 pz] 33)).alloc (.cells #[.int .i64 ax, .int .i64 ay, .int .i64 az] 33)).alloc (.cells #[.int .i64 bx, .int .i64 by_, .int .i64 bz] 33)).alloc (.cells #[.int .i64 cx, .int .i64 cy, .int .i64 cz] 33)) = w0 at *
  have k0_0 : w0.cell? ⟨w.heap.size, 0, none⟩ = some (.int .i64 px) := (Blk.cell kb0 0).trans rfl
  have k0_1 : w0.cell? ⟨w.heap.size, 1, none⟩ = some (.int .i64 py) := (Blk.cell kb0 1).trans rfl
  have k0_2 : w0.cell? ⟨w.heap.size, 2, none⟩ = some (.int .i64 pz) := (Blk.cell kb0 2).trans rfl
  have k1_0 : w0.cell? ⟨w.heap.size + 1, 0, none⟩ = some (.int .i64 ax) := (Blk.cell kb1 0).trans rfl
  have k1_1 : w0.cell? ⟨w.heap.size + 1, 1, none⟩ = some (.int .i64 ay) := (Blk.cell kb1 1).trans rfl
  have k1_2 : w0.cell? ⟨w.heap.size + 1, 2, none⟩ = some (.int .i64 az) := (Blk.cell kb1 2).trans rfl
  have k2_0 : w0.cell? ⟨w.heap.size + 1 + 1, 0, none⟩ = some (.int .i64 bx) := (Blk.cell kb2 0).trans rfl
  have k2_1 : w0.cell? ⟨w.heap.size + 1 + 1, 1, none⟩ = some (.int .i64 by_) := (Blk.cell kb2 1).trans rfl
  have k2_2 : w0.cell? ⟨w.heap.size + 1 + 1, 2, none⟩ = some (.int .i64 bz) := (Blk.cell kb2 2).trans rfl
  have k3_0 : w0.cell? ⟨w.heap.size + 1 + 1 + 1, 0, none⟩ = some (.int .i64 cx) := (Blk.cell kb3 0).trans rfl
  have k3_1 : w0.cell? ⟨w.heap.size + 1 + 1 + 1, 1, none⟩ = some (.int .i64 cy) := (Blk.cell kb3 1).trans rfl
  have k3_2 : w0.cell? ⟨w.heap.size + 1 + 1 + 1, 2, none⟩ = some (.int .i64 cz) := (Blk.cell kb3 2).trans rfl
  clear kb0 kb1 kb2 kb3
  have SK : ∀ w', Below w0.heap.size w0 w' → Below w0.heap.size w0 w' ∧ w'.cell? ⟨w.heap.size, 0, none⟩ = some (.int .i64 px) ∧ w'.cell? ⟨w.heap.size, 1, none⟩ = some (.int .i64 py) ∧ w'.cell? ⟨w.heap.size, 2, none⟩ = some (.int .i64 pz) ∧ w'.cell? ⟨w.heap.size + 1, 0, none⟩ = some (.int .i64 ax) ∧ w'.cell? ⟨w.heap.size + 1, 1, none⟩ = some (.int .i64 ay) ∧ w'.cell? ⟨w.heap.size + 1, 2, none⟩ = some (.int .i64 az) ∧ w'.cell? ⟨w.heap.size + 1 + 1, 0, none⟩ = some (.int .i64 bx) ∧ w'.cell? ⟨w.heap.size + 1 + 1, 1, none⟩ = some (.int .i64 by_) ∧ w'.cell? ⟨w.heap.size + 1 + 1, 2, none⟩ = some (.int .i64 bz) ∧ w'.cell? ⟨w.heap.size + 1 + 1 + 1, 0, none⟩ = some (.int .i64 cx) ∧ w'.cell? ⟨w.heap.size + 1 + 1 + 1, 1, none⟩ = some (.int .i64 cy) ∧ w'.cell? ⟨w.heap.size + 1 + 1 + 1, 2, none⟩ = some (.int .i64 cz) := fun w' h => ⟨h, (bcell h _ _ (by omega)).trans k0_0, (bcell h _ _ (by omega)).trans k0_1, (bcell h _ _ (by omega)).trans k0_2, (bcell h _ _ (by omega)).trans k1_0, (bcell h _ _ (by omega)).trans k1_1, (bcell h _ _ (by omega)).trans k1_2, (bcell h _ _ (by omega)).trans k2_0, (bcell h _ _ (by omega)).trans k2_1, (bcell h _ _ (by omega)).trans k2_2, (bcell h _ _ (by omega)).trans k3_0, (bcell h _ _ (by omega)).trans k3_1, (bcell h _ _ (by omega)).trans k3_2⟩
  go_wp2_with fail
  refine (rrights_any _ px py pz).mono ?_
  rintro e w1 ⟨rfl, hb1⟩
  have hL1 : Below w0.heap.size w0 w1 := hb1
  obtain ⟨-, c1_0, c1_1, c1_2, c1_3, c1_4, c1_5, c1_6, c1_7, c1_8, c1_9, c1_10, c1_11⟩ := SK _ hL1
  go_wp2_with fail
  refine (rrights_any _ ax ay az).mono ?_
  rintro e w2 ⟨rfl, hb2⟩
  have hL2 : Below w0.heap.size w0 w2 := hL1.trans (hb2.mono hL1.size)
  obtain ⟨-, c2_0, c2_1, c2_2, c2_3, c2_4, c2_5, c2_6, c2_7, c2_8, c2_9, c2_10, c2_11⟩ := SK _ hL2
  go_wp2_with fail
  refine (rrights_any _ bx by_ bz).mono ?_
  rintro e w3 ⟨rfl, hb3⟩
  have hL3 : Below w0.heap.size w0 w3 := hL2.trans (hb3.mono hL2.size)
  obtain ⟨-, c3_0, c3_1, c3_2, c3_3, c3_4, c3_5, c3_6, c3_7, c3_8, c3_9, c3_10, c3_11⟩ := SK _ hL3
  go_wp2_with fail
  refine (rrights_any _ cx cy cz).mono ?_
  rintro e w4 ⟨rfl, hb4⟩
  have hL4 : Below w0.heap.size w0 w4 := hL3.trans (hb4.mono hL3.size)
  obtain ⟨-, c4_0, c4_1, c4_2, c4_3, c4_4, c4_5, c4_6, c4_7, c4_8, c4_9, c4_10, c4_11⟩ := SK _ hL4
  go_wp2_with fail
  refine (racross_any _ ax ay az bx by_ bz cx cy cz hax hay haz hbx hby_ hbz hcx hcy hcz).mono ?_
  rw [HU.out, HV.out, HZ.out]
  rintro e w5 ⟨rfl, hb5⟩
  have hL5 : Below w0.heap.size w0 w5 := hL4.trans (hb5.mono hL4.size)
  obtain ⟨-, c5_0, c5_1, c5_2, c5_3, c5_4, c5_5, c5_6, c5_7, c5_8, c5_9, c5_10, c5_11⟩ := SK _ hL5
  go_wp2_with fail
  refine (FP.out _).mono ?_
  rintro e w6 ⟨rfl, hb6⟩
  have hL6 : Below w0.heap.size w0 w6 := hL5.trans (hb6.mono hL5.size)
  obtain ⟨-, c6_0, c6_1, c6_2, c6_3, c6_4, c6_5, c6_6, c6_7, c6_8, c6_9, c6_10, c6_11⟩ := SK _ hL6
  go_wp2_with fail
  go_ret2
  exact ⟨rfl, hb0.trans (hL6.mono hb0.size)⟩

set_option maxRecDepth 100000 in
set_option maxHeartbeats 2000000 in
theorem rToPlane_any (w : World) (px py pz ax ay az bx by_ bz cx cy cz : Int) :
    Calls Tryz.prog 24 #[.agg #[.int .i64 px, .int .i64 py, .int .i64 pz], .agg #[.int .i64 ax, .int .i64 ay, .int .i64 az], .agg #[.int .i64 bx, .int .i64 by_, .int .i64 bz], .agg #[.int .i64 cx, .int .i64 cy, .int .i64 cz]] w fun e w' => e = .returned (RR (planeR px py pz ax ay az bx by_ bz cx cy cz)) ∧ Below w.heap.size w w' := by
  by_cases hok : Co px ∧ Co py ∧ Co pz ∧ Co ax ∧ Co ay ∧ Co az ∧ Co bx ∧ Co by_ ∧ Co bz ∧ Co cx ∧ Co cy ∧ Co cz
  · obtain ⟨hpx, hpy, hpz, hax, hay, haz, hbx, hby_, hbz, hcx, hcy, hcz⟩ := id hok
    obtain ⟨m0a, m0b⟩ := mulB (x := (by_ - ay)) (y := (cz - az)) (M := 200000) (N := 200000) (by omega) (by omega)
    obtain ⟨m1a, m1b⟩ := mulB (x := (bz - az)) (y := (cy - ay)) (M := 200000) (N := 200000) (by omega) (by omega)
    obtain ⟨m2a, m2b⟩ := mulB (x := (bz - az)) (y := (cx - ax)) (M := 200000) (N := 200000) (by omega) (by omega)
    obtain ⟨m3a, m3b⟩ := mulB (x := (bx - ax)) (y := (cz - az)) (M := 200000) (N := 200000) (by omega) (by omega)
    obtain ⟨m4a, m4b⟩ := mulB (x := (bx - ax)) (y := (cy - ay)) (M := 200000) (N := 200000) (by omega) (by omega)
    obtain ⟨m5a, m5b⟩ := mulB (x := (by_ - ay)) (y := (cx - ax)) (M := 200000) (N := 200000) (by omega) (by omega)
    have HN1 : Nf ((by_ - ay) * (cz - az) - (bz - az) * (cy - ay)) := by constructor <;> omega
    have HN2 : Nf ((bz - az) * (cx - ax) - (bx - ax) * (cz - az)) := by constructor <;> omega
    have HN3 : Nf ((bx - ax) * (cy - ay) - (by_ - ay) * (cx - ax)) := by constructor <;> omega
    clear m0a m0b m1a m1b m2a m2b m3a m3b m4a m4b m5a m5b
    rw [planeR, if_pos hok]
    generalize hU : (by_ - ay) * (cz - az) - (bz - az) * (cy - ay) = U at *
    generalize hV : (bz - az) * (cx - ax) - (bx - ax) * (cz - az) = V at *
    generalize hZ : (bx - ax) * (cy - ay) - (by_ - ay) * (cx - ax) = Z at *
    have s1 := sq_nn U
    have s2 := sq_nn V
    have s3 := sq_nn Z
    by_cases e1 : U = 0
    · by_cases e2 : V = 0
      · by_cases e3 : Z = 0
        · rw [if_pos ⟨e1, e2, e3⟩]
          exact rplane_zero w px py pz ax ay az bx by_ bz cx cy cz U V Z hok hU hV hZ HN1 HN2 HN3 (eq_true e1) (eq_true e2) (eq_true e3)
        · rw [if_neg (fun h => e3 h.2.2)]
          have := sq_pos e3
          exact rplane_three w px py pz ax ay az bx by_ bz cx cy cz U V Z hok hU hV hZ HN1 HN2 HN3 (eq_true e1) (eq_true e2) (eq_false e3) (by omega)
      · rw [if_neg (fun h => e2 h.2.1)]
        have := sq_pos e2
        exact rplane_two w px py pz ax ay az bx by_ bz cx cy cz U V Z hok hU hV hZ HN1 HN2 HN3 (eq_true e1) (eq_false e2) (by omega)
    · rw [if_neg (fun h => e1 h.1)]
      have := sq_pos e1
      exact rplane_one w px py pz ax ay az bx by_ bz cx cy cz U V Z hok hU hV hZ HN1 HN2 HN3 (eq_false e1) (by omega)
  · rw [planeR, if_neg hok]
    by_cases f0 : Co px ∧ Co py ∧ Co pz
    · have g0 := decide_eq_true f0
      by_cases f1 : Co ax ∧ Co ay ∧ Co az
      · have g1 := decide_eq_true f1
        by_cases f2 : Co bx ∧ Co by_ ∧ Co bz
        · have g2 := decide_eq_true f2
          by_cases f3 : Co cx ∧ Co cy ∧ Co cz
          · have g3 := decide_eq_true f3
            exact absurd ⟨f0.1, f0.2.1, f0.2.2, f1.1, f1.2.1, f1.2.2, f2.1, f2.2.1, f2.2.2, f3.1, f3.2.1, f3.2.2⟩ hok
          · have g3 := decide_eq_false f3
            go_enter Tryz.func24, Tryz.ntmps24
            go_upto_region 1 with (fail)
            have hb0 : Below w.heap.size w ((((w.alloc (.cells #[.int .i64 px, .int .i64 py, .int .i64 pz] 33)).alloc (.cells #[.int .i64 ax, .int .i64 ay, .int .i64 az] 33)).alloc (.cells #[.int .i64 bx, .int .i64 by_, .int .i64 bz] 33)).alloc (.cells #[.int .i64 cx, .int .i64 cy, .int .i64 cz] 33)) := allocs_below w [(.cells #[.int .i64 px, .int .i64 py, .int .i64 pz] 33), (.cells #[.int .i64 ax, .int .i64 ay, .int .i64 az] 33), (.cells #[.int .i64 bx, .int .i64 by_, .int .i64 bz] 33), (.cells #[.int .i64 cx, .int .i64 cy, .int .i64 cz] 33)]
            have s0 : w.heap.size + 4 ≤ ((((w.alloc (.cells #[.int .i64 px, .int .i64 py, .int .i64 pz] 33)).alloc (.cells #[.int .i64 ax, .int .i64 ay, .int .i64 az] 33)).alloc (.cells #[.int .i64 bx, .int .i64 by_, .int .i64 bz] 33)).alloc (.cells #[.int .i64 cx, .int .i64 cy, .int .i64 cz] 33)).heap.size := Nat.le_of_eq (allocs_size w [(.cells #[.int .i64 px, .int .i64 py, .int .i64 pz] 33), (.cells #[.int .i64 ax, .int .i64 ay, .int .i64 az] 33), (.cells #[.int .i64 bx, .int .i64 by_, .int .i64 bz] 33), (.cells #[.int .i64 cx, .int .i64 cy, .int .i64 cz] 33)]).symm
            have kb0 : ((((w.alloc (.cells #[.int .i64 px, .int .i64 py, .int .i64 pz] 33)).alloc (.cells #[.int .i64 ax, .int .i64 ay, .int .i64 az] 33)).alloc (.cells #[.int .i64 bx, .int .i64 by_, .int .i64 bz] 33)).alloc (.cells #[.int .i64 cx, .int .i64 cy, .int .i64 cz] 33)).heap[w.heap.size + 0]? = some (.cells #[.int .i64 px, .int .i64 py, .int .i64 pz] 33) := allocs_at w [(.cells #[.int .i64 px, .int .i64 py, .int .i64 pz] 33), (.cells #[.int .i64 ax, .int .i64 ay, .int .i64 az] 33), (.cells #[.int .i64 bx, .int .i64 by_, .int .i64 bz] 33), (.cells #[.int .i64 cx, .int .i64 cy, .int .i64 cz] 33)] 0 rfl
            have kb1 : ((((w.alloc (.cells #[.int .i64 px, .int .i64 py, .int .i64 pz] 33)).alloc (.cells #[.int .i64 ax, .int .i64 ay, .int .i64 az] 33)).alloc (.cells #[.int .i64 bx, .int .i64 by_, .int .i64 bz] 33)).alloc (.cells #[.int .i64 cx, .int .i64 cy, .int .i64 cz] 33)).heap[w.heap.size + 1]? = some (.cells #[.int .i64 ax, .int .i64 ay, .int .i64 az] 33) := allocs_at w [(.cells #[.int .i64 px, .int .i64 py, .int .i64 pz] 33), (.cells #[.int .i64 ax, .int .i64 ay, .int .i64 az] 33), (.cells #[.int .i64 bx, .int .i64 by_, .int .i64 bz] 33), (.cells #[.int .i64 cx, .int .i64 cy, .int .i64 cz] 33)] 1 rfl
            have kb2 : ((((w.alloc (.cells #[.int .i64 px, .int .i64 py, .int .i64 pz] 33)).alloc (.cells #[.int .i64 ax, .int .i64 ay, .int .i64 az] 33)).alloc (.cells #[.int .i64 bx, .int .i64 by_, .int .i64 bz] 33)).alloc (.cells #[.int .i64 cx, .int .i64 cy, .int .i64 cz] 33)).heap[w.heap.size + 2]? = some (.cells #[.int .i64 bx, .int .i64 by_, .int .i64 bz] 33) := allocs_at w [(.cells #[.int .i64 px, .int .i64 py, .int .i64 pz] 33), (.cells #[.int .i64 ax, .int .i64 ay, .int .i64 az] 33), (.cells #[.int .i64 bx, .int .i64 by_, .int .i64 bz] 33), (.cells #[.int .i64 cx, .int .i64 cy, .int .i64 cz] 33)] 2 rfl
            have kb3 : ((((w.alloc (.cells #[.int .i64 px, .int .i64 py, .int .i64 pz] 33)).alloc (.cells #[.int .i64 ax, .int .i64 ay, .int .i64 az] 33)).alloc (.cells #[.int .i64 bx, .int .i64 by_, .int .i64 bz] 33)).alloc (.cells #[.int .i64 cx, .int .i64 cy, .int .i64 cz] 33)).heap[w.heap.size + 3]? = some (.cells #[.int .i64 cx, .int .i64 cy, .int .i64 cz] 33) := allocs_at w [(.cells #[.int .i64 px, .int .i64 py, .int .i64 pz] 33), (.cells #[.int .i64 ax, .int .i64 ay, .int .i64 az] 33), (.cells #[.int .i64 bx, .int .i64 by_, .int .i64 bz] 33), (.cells #[.int .i64 cx, .int .i64 cy, .int .i64 cz] 33)] 3 rfl
            generalize ((((w.alloc (.cells #[.int .i64 px, .int .i64 py, .int .i64 pz] 33)).alloc (.cells #[.int .i64 ax, .int .i64 ay, .int .i64 az] 33)).alloc (.cells #[.int .i64 bx, .int .i64 by_, .int .i64 bz] 33)).alloc (.cells #[.int .i64 cx, .int .i64 cy, .int .i64 cz] 33)) = w0 at *
            have k0_0 : w0.cell? ⟨w.heap.size, 0, none⟩ = some (.int .i64 px) := (Blk.cell kb0 0).trans rfl
            have k0_1 : w0.cell? ⟨w.heap.size, 1, none⟩ = some (.int .i64 py) := (Blk.cell kb0 1).trans rfl
            have k0_2 : w0.cell? ⟨w.heap.size, 2, none⟩ = some (.int .i64 pz) := (Blk.cell kb0 2).trans rfl
            have k1_0 : w0.cell? ⟨w.heap.size + 1, 0, none⟩ = some (.int .i64 ax) := (Blk.cell kb1 0).trans rfl
            have k1_1 : w0.cell? ⟨w.heap.size + 1, 1, none⟩ = some (.int .i64 ay) := (Blk.cell kb1 1).trans rfl
            have k1_2 : w0.cell? ⟨w.heap.size + 1, 2, none⟩ = some (.int .i64 az) := (Blk.cell kb1 2).trans rfl
            have k2_0 : w0.cell? ⟨w.heap.size + 1 + 1, 0, none⟩ = some (.int .i64 bx) := (Blk.cell kb2 0).trans rfl
            have k2_1 : w0.cell? ⟨w.heap.size + 1 + 1, 1, none⟩ = some (.int .i64 by_) := (Blk.cell kb2 1).trans rfl
            have k2_2 : w0.cell? ⟨w.heap.size + 1 + 1, 2, none⟩ = some (.int .i64 bz) := (Blk.cell kb2 2).trans rfl
            have k3_0 : w0.cell? ⟨w.heap.size + 1 + 1 + 1, 0, none⟩ = some (.int .i64 cx) := (Blk.cell kb3 0).trans rfl
            have k3_1 : w0.cell? ⟨w.heap.size + 1 + 1 + 1, 1, none⟩ = some (.int .i64 cy) := (Blk.cell kb3 1).trans rfl
            have k3_2 : w0.cell? ⟨w.heap.size + 1 + 1 + 1, 2, none⟩ = some (.int .i64 cz) := (Blk.cell kb3 2).trans rfl
            clear kb0 kb1 kb2 kb3
            have SK : ∀ w', Below w0.heap.size w0 w' → Below w0.heap.size w0 w' ∧ w'.cell? ⟨w.heap.size, 0, none⟩ = some (.int .i64 px) ∧ w'.cell? ⟨w.heap.size, 1, none⟩ = some (.int .i64 py) ∧ w'.cell? ⟨w.heap.size, 2, none⟩ = some (.int .i64 pz) ∧ w'.cell? ⟨w.heap.size + 1, 0, none⟩ = some (.int .i64 ax) ∧ w'.cell? ⟨w.heap.size + 1, 1, none⟩ = some (.int .i64 ay) ∧ w'.cell? ⟨w.heap.size + 1, 2, none⟩ = some (.int .i64 az) ∧ w'.cell? ⟨w.heap.size + 1 + 1, 0, none⟩ = some (.int .i64 bx) ∧ w'.cell? ⟨w.heap.size + 1 + 1, 1, none⟩ = some (.int .i64 by_) ∧ w'.cell? ⟨w.heap.size + 1 + 1, 2, none⟩ = some (.int .i64 bz) ∧ w'.cell? ⟨w.heap.size + 1 + 1 + 1, 0, none⟩ = some (.int .i64 cx) ∧ w'.cell? ⟨w.heap.size + 1 + 1 + 1, 1, none⟩ = some (.int .i64 cy) ∧ w'.cell? ⟨w.heap.size + 1 + 1 + 1, 2, none⟩ = some (.int .i64 cz) := fun w' h => ⟨h, (bcell h _ _ (by omega)).trans k0_0, (bcell h _ _ (by omega)).trans k0_1, (bcell h _ _ (by omega)).trans k0_2, (bcell h _ _ (by omega)).trans k1_0, (bcell h _ _ (by omega)).trans k1_1, (bcell h _ _ (by omega)).trans k1_2, (bcell h _ _ (by omega)).trans k2_0, (bcell h _ _ (by omega)).trans k2_1, (bcell h _ _ (by omega)).trans k2_2, (bcell h _ _ (by omega)).trans k3_0, (bcell h _ _ (by omega)).trans k3_1, (bcell h _ _ (by omega)).trans k3_2⟩
            go_wp2_with fail
            refine (rrights_any _ px py pz).mono ?_
            rintro e w1 ⟨rfl, hb1⟩
            have hL1 : Below w0.heap.size w0 w1 := hb1
            obtain ⟨-, c1_0, c1_1, c1_2, c1_3, c1_4, c1_5, c1_6, c1_7, c1_8, c1_9, c1_10, c1_11⟩ := SK _ hL1
            go_wp2_with fail
            refine (rrights_any _ ax ay az).mono ?_
            rintro e w2 ⟨rfl, hb2⟩
            have hL2 : Below w0.heap.size w0 w2 := hL1.trans (hb2.mono hL1.size)
            obtain ⟨-, c2_0, c2_1, c2_2, c2_3, c2_4, c2_5, c2_6, c2_7, c2_8, c2_9, c2_10, c2_11⟩ := SK _ hL2
            go_wp2_with fail
            refine (rrights_any _ bx by_ bz).mono ?_
            rintro e w3 ⟨rfl, hb3⟩
            have hL3 : Below w0.heap.size w0 w3 := hL2.trans (hb3.mono hL2.size)
            obtain ⟨-, c3_0, c3_1, c3_2, c3_3, c3_4, c3_5, c3_6, c3_7, c3_8, c3_9, c3_10, c3_11⟩ := SK _ hL3
            go_wp2_with fail
            refine (rrights_any _ cx cy cz).mono ?_
            rintro e w4 ⟨rfl, hb4⟩
            have hL4 : Below w0.heap.size w0 w4 := hL3.trans (hb4.mono hL3.size)
            obtain ⟨-, c4_0, c4_1, c4_2, c4_3, c4_4, c4_5, c4_6, c4_7, c4_8, c4_9, c4_10, c4_11⟩ := SK _ hL4
            go_wp2_with fail
            go_ret2
            exact ⟨rfl, hb0.trans (hL4.mono hb0.size)⟩
        · have g2 := decide_eq_false f2
          go_enter Tryz.func24, Tryz.ntmps24
          go_upto_region 1 with (fail)
          have hb0 : Below w.heap.size w ((((w.alloc (.cells #[.int .i64 px, .int .i64 py, .int .i64 pz] 33)).alloc (.cells #[.int .i64 ax, .int .i64 ay, .int .i64 az] 33)).alloc (.cells #[.int .i64 bx, .int .i64 by_, .int .i64 bz] 33)).alloc (.cells #[.int .i64 cx, .int .i64 cy, .int .i64 cz] 33)) := allocs_below w [(.cells #[.int .i64 px, .int .i64 py, .int .i64 pz] 33), (.cells #[.int .i64 ax, .int .i64 ay, .int .i64 az] 33), (.cells #[.int .i64 bx, .int .i64 by_, .int .i64 bz] 33), (.cells #[.int .i64 cx, .int .i64 cy, .int .i64 cz] 33)]
          have s0 : w.heap.size + 4 ≤ ((((w.alloc (.cells #[.int .i64 px, .int .i64 py, .int .i64 pz] 33)).alloc (.cells #[.int .i64 ax, .int .i64 ay, .int .i64 az] 33)).alloc (.cells #[.int .i64 bx, .int .i64 by_, .int .i64 bz] 33)).alloc (.cells #[.int .i64 cx, .int .i64 cy, .int .i64 cz] 33)).heap.size := Nat.le_of_eq (allocs_size w [(.cells #[.int .i64 px, .int .i64 py, .int .i64 pz] 33), (.cells #[.int .i64 ax, .int .i64 ay, .int .i64 az] 33), (.cells #[.int .i64 bx, .int .i64 by_, .int .i64 bz] 33), (.cells #[.int .i64 cx, .int .i64 cy, .int .i64 cz] 33)]).symm
          have kb0 : ((((w.alloc (.cells #[.int .i64 px, .int .i64 py, .int .i64 pz] 33)).alloc (.cells #[.int .i64 ax, .int .i64 ay, .int .i64 az] 33)).alloc (.cells #[.int .i64 bx, .int .i64 by_, .int .i64 bz] 33)).alloc (.cells #[.int .i64 cx, .int .i64 cy, .int .i64 cz] 33)).heap[w.heap.size + 0]? = some (.cells #[.int .i64 px, .int .i64 py, .int .i64 pz] 33) := allocs_at w [(.cells #[.int .i64 px, .int .i64 py, .int .i64 pz] 33), (.cells #[.int .i64 ax, .int .i64 ay, .int .i64 az] 33), (.cells #[.int .i64 bx, .int .i64 by_, .int .i64 bz] 33), (.cells #[.int .i64 cx, .int .i64 cy, .int .i64 cz] 33)] 0 rfl
          have kb1 : ((((w.alloc (.cells #[.int .i64 px, .int .i64 py, .int .i64 pz] 33)).alloc (.cells #[.int .i64 ax, .int .i64 ay, .int .i64 az] 33)).alloc (.cells #[.int .i64 bx, .int .i64 by_, .int .i64 bz] 33)).alloc (.cells #[.int .i64 cx, .int .i64 cy, .int .i64 cz] 33)).heap[w.heap.size + 1]? = some (.cells #[.int .i64 ax, .int .i64 ay, .int .i64 az] 33) := allocs_at w [(.cells #[.int .i64 px, .int .i64 py, .int .i64 pz] 33), (.cells #[.int .i64 ax, .int .i64 ay, .int .i64 az] 33), (.cells #[.int .i64 bx, .int .i64 by_, .int .i64 bz] 33), (.cells #[.int .i64 cx, .int .i64 cy, .int .i64 cz] 33)] 1 rfl
          have kb2 : ((((w.alloc (.cells #[.int .i64 px, .int .i64 py, .int .i64 pz] 33)).alloc (.cells #[.int .i64 ax, .int .i64 ay, .int .i64 az] 33)).alloc (.cells #[.int .i64 bx, .int .i64 by_, .int .i64 bz] 33)).alloc (.cells #[.int .i64 cx, .int .i64 cy, .int .i64 cz] 33)).heap[w.heap.size + 2]? = some (.cells #[.int .i64 bx, .int .i64 by_, .int .i64 bz] 33) := allocs_at w [(.cells #[.int .i64 px, .int .i64 py, .int .i64 pz] 33), (.cells #[.int .i64 ax, .int .i64 ay, .int .i64 az] 33), (.cells #[.int .i64 bx, .int .i64 by_, .int .i64 bz] 33), (.cells #[.int .i64 cx, .int .i64 cy, .int .i64 cz] 33)] 2 rfl
          have kb3 : ((((w.alloc (.cells #[.int .i64 px, .int .i64 py, .int .i64 pz] 33)).alloc (.cells #[.int .i64 ax, .int .i64 ay, .int .i64 az] 33)).alloc (.cells #[.int .i64 bx, .int .i64 by_, .int .i64 bz] 33)).alloc (.cells #[.int .i64 cx, .int .i64 cy, .int .i64 cz] 33)).heap[w.heap.size + 3]? = some (.cells #[.int .i64 cx, .int .i64 cy, .int .i64 cz] 33) := allocs_at w [(.cells #[.int .i64 px, .int .i64 py, .int .i64 pz] 33), (.cells #[.int .i64 ax, .int .i64 ay, .int .i64 az] 33), (.cells #[.int .i64 bx, .int .i64 by_, .int .i64 bz] 33), (.cells #[.int .i64 cx, .int .i64 cy, .int .i64 cz] 33)] 3 rfl
          generalize ((((w.alloc (.cells #[.int .i64 px, .int .i64 py, .int .i64 pz] 33)).alloc (.cells #[.int .i64 ax, .int .i64 ay, .int .i64 az] 33)).alloc (.cells #[.int .i64 bx, .int .i64 by_, .int .i64 bz] 33)).alloc (.cells #[.int .i64 cx, .int .i64 cy, .int .i64 cz] 33)) = w0 at *
          have k0_0 : w0.cell? ⟨w.heap.size, 0, none⟩ = some (.int .i64 px) := (Blk.cell kb0 0).trans rfl
          have k0_1 : w0.cell? ⟨w.heap.size, 1, none⟩ = some (.int .i64 py) := (Blk.cell kb0 1).trans rfl
          have k0_2 : w0.cell? ⟨w.heap.size, 2, none⟩ = some (.int .i64 pz) := (Blk.cell kb0 2).trans rfl
          have k1_0 : w0.cell? ⟨w.heap.size + 1, 0, none⟩ = some (.int .i64 ax) := (Blk.cell kb1 0).trans rfl
          have k1_1 : w0.cell? ⟨w.heap.size + 1, 1, none⟩ = some (.int .i64 ay) := (Blk.cell kb1 1).trans rfl
          have k1_2 : w0.cell? ⟨w.heap.size + 1, 2, none⟩ = some (.int .i64 az) := (Blk.cell kb1 2).trans rfl
          have k2_0 : w0.cell? ⟨w.heap.size + 1 + 1, 0, none⟩ = some (.int .i64 bx) := (Blk.cell kb2 0).trans rfl
          have k2_1 : w0.cell? ⟨w.heap.size + 1 + 1, 1, none⟩ = some (.int .i64 by_) := (Blk.cell kb2 1).trans rfl
          have k2_2 : w0.cell? ⟨w.heap.size + 1 + 1, 2, none⟩ = some (.int .i64 bz) := (Blk.cell kb2 2).trans rfl
          have k3_0 : w0.cell? ⟨w.heap.size + 1 + 1 + 1, 0, none⟩ = some (.int .i64 cx) := (Blk.cell kb3 0).trans rfl
          have k3_1 : w0.cell? ⟨w.heap.size + 1 + 1 + 1, 1, none⟩ = some (.int .i64 cy) := (Blk.cell kb3 1).trans rfl
          have k3_2 : w0.cell? ⟨w.heap.size + 1 + 1 + 1, 2, none⟩ = some (.int .i64 cz) := (Blk.cell kb3 2).trans rfl
          clear kb0 kb1 kb2 kb3
          have SK : ∀ w', Below w0.heap.size w0 w' → Below w0.heap.size w0 w' ∧ w'.cell? ⟨w.heap.size, 0, none⟩ = some (.int .i64 px) ∧ w'.cell? ⟨w.heap.size, 1, none⟩ = some (.int .i64 py) ∧ w'.cell? ⟨w.heap.size, 2, none⟩ = some (.int .i64 pz) ∧ w'.cell? ⟨w.heap.size + 1, 0, none⟩ = some (.int .i64 ax) ∧ w'.cell? ⟨w.heap.size + 1, 1, none⟩ = some (.int .i64 ay) ∧ w'.cell? ⟨w.heap.size + 1, 2, none⟩ = some (.int .i64 az) ∧ w'.cell? ⟨w.heap.size + 1 + 1, 0, none⟩ = some (.int .i64 bx) ∧ w'.cell? ⟨w.heap.size + 1 + 1, 1, none⟩ = some (.int .i64 by_) ∧ w'.cell? ⟨w.heap.size + 1 + 1, 2, none⟩ = some (.int .i64 bz) ∧ w'.cell? ⟨w.heap.size + 1 + 1 + 1, 0, none⟩ = some (.int .i64 cx) ∧ w'.cell? ⟨w.heap.size + 1 + 1 + 1, 1, none⟩ = some (.int .i64 cy) ∧ w'.cell? ⟨w.heap.size + 1 + 1 + 1, 2, none⟩ = some (.int .i64 cz) := fun w' h => ⟨h, (bcell h _ _ (by omega)).trans k0_0, (bcell h _ _ (by omega)).trans k0_1, (bcell h _ _ (by omega)).trans k0_2, (bcell h _ _ (by omega)).trans k1_0, (bcell h _ _ (by omega)).trans k1_1, (bcell h _ _ (by omega)).trans k1_2, (bcell h _ _ (by omega)).trans k2_0, (bcell h _ _ (by omega)).trans k2_1, (bcell h _ _ (by omega)).trans k2_2, (bcell h _ _ (by omega)).trans k3_0, (bcell h _ _ (by omega)).trans k3_1, (bcell h _ _ (by omega)).trans k3_2⟩
          go_wp2_with fail
          refine (rrights_any _ px py pz).mono ?_
          rintro e w1 ⟨rfl, hb1⟩
          have hL1 : Below w0.heap.size w0 w1 := hb1
          obtain ⟨-, c1_0, c1_1, c1_2, c1_3, c1_4, c1_5, c1_6, c1_7, c1_8, c1_9, c1_10, c1_11⟩ := SK _ hL1
          go_wp2_with fail
          refine (rrights_any _ ax ay az).mono ?_
          rintro e w2 ⟨rfl, hb2⟩
          have hL2 : Below w0.heap.size w0 w2 := hL1.trans (hb2.mono hL1.size)
          obtain ⟨-, c2_0, c2_1, c2_2, c2_3, c2_4, c2_5, c2_6, c2_7, c2_8, c2_9, c2_10, c2_11⟩ := SK _ hL2
          go_wp2_with fail
          refine (rrights_any _ bx by_ bz).mono ?_
          rintro e w3 ⟨rfl, hb3⟩
          have hL3 : Below w0.heap.size w0 w3 := hL2.trans (hb3.mono hL2.size)
          obtain ⟨-, c3_0, c3_1, c3_2, c3_3, c3_4, c3_5, c3_6, c3_7, c3_8, c3_9, c3_10, c3_11⟩ := SK _ hL3
          go_wp2_with fail
          go_ret2
          exact ⟨rfl, hb0.trans (hL3.mono hb0.size)⟩
      · have g1 := decide_eq_false f1
        go_enter Tryz.func24, Tryz.ntmps24
        go_upto_region 1 with (fail)
        have hb0 : Below w.heap.size w ((((w.alloc (.cells #[.int .i64 px, .int .i64 py, .int .i64 pz] 33)).alloc (.cells #[.int .i64 ax, .int .i64 ay, .int .i64 az] 33)).alloc (.cells #[.int .i64 bx, .int .i64 by_, .int .i64 bz] 33)).alloc (.cells #[.int .i64 cx, .int .i64 cy, .int .i64 cz] 33)) := allocs_below w [(.cells #[.int .i64 px, .int .i64 py, .int .i64 pz] 33), (.cells #[.int .i64 ax, .int .i64 ay, .int .i64 az] 33), (.cells #[.int .i64 bx, .int .i64 by_, .int .i64 bz] 33), (.cells #[.int .i64 cx, .int .i64 cy, .int .i64 cz] 33)]
        have s0 : w.heap.size + 4 ≤ ((((w.alloc (.cells #[.int .i64 px, .int .i64 py, .int .i64 pz] 33)).alloc (.cells #[.int .i64 ax, .int .i64 ay, .int .i64 az] 33)).alloc (.cells #[.int .i64 bx, .int .i64 by_, .int .i64 bz] 33)).alloc (.cells #[.int .i64 cx, .int .i64 cy, .int .i64 cz] 33)).heap.size := Nat.le_of_eq (allocs_size w [(.cells #[.int .i64 px, .int .i64 py, .int .i64 pz] 33), (.cells #[.int .i64 ax, .int .i64 ay, .int .i64 az] 33), (.cells #[.int .i64 bx, .int .i64 by_, .int .i64 bz] 33), (.cells #[.int .i64 cx, .int .i64 cy, .int .i64 cz] 33)]).symm
        have kb0 : ((((w.alloc (.cells #[.int .i64 px, .int .i64 py, .int .i64 pz] 33)).alloc (.cells #[.int .i64 ax, .int .i64 ay, .int .i64 az] 33)).alloc (.cells #[.int .i64 bx, .int .i64 by_, .int .i64 bz] 33)).alloc (.cells #[.int .i64 cx, .int .i64 cy, .int .i64 cz] 33)).heap[w.heap.size + 0]? = some (.cells #[.int .i64 px, .int .i64 py, .int .i64 pz] 33) := allocs_at w [(.cells #[.int .i64 px, .int .i64 py, .int .i64 pz] 33), (.cells #[.int .i64 ax, .int .i64 ay, .int .i64 az] 33), (.cells #[.int .i64 bx, .int .i64 by_, .int .i64 bz] 33), (.cells #[.int .i64 cx, .int .i64 cy, .int .i64 cz] 33)] 0 rfl
        have kb1 : ((((w.alloc (.cells #[.int .i64 px, .int .i64 py, .int .i64 pz] 33)).alloc (.cells #[.int .i64 ax, .int .i64 ay, .int .i64 az] 33)).alloc (.cells #[.int .i64 bx, .int .i64 by_, .int .i64 bz] 33)).alloc (.cells #[.int .i64 cx, .int .i64 cy, .int .i64 cz] 33)).heap[w.heap.size + 1]? = some (.cells #[.int .i64 ax, .int .i64 ay, .int .i64 az] 33) := allocs_at w [(.cells #[.int .i64 px, .int .i64 py, .int .i64 pz] 33), (.cells #[.int .i64 ax, .int .i64 ay, .int .i64 az] 33), (.cells #[.int .i64 bx, .int .i64 by_, .int .i64 bz] 33), (.cells #[.int .i64 cx, .int .i64 cy, .int .i64 cz] 33)] 1 rfl
        have kb2 : ((((w.alloc (.cells #[.int .i64 px, .int .i64 py, .int .i64 pz] 33)).alloc (.cells #[.int .i64 ax, .int .i64 ay, .int .i64 az] 33)).alloc (.cells #[.int .i64 bx, .int .i64 by_, .int .i64 bz] 33)).alloc (.cells #[.int .i64 cx, .int .i64 cy, .int .i64 cz] 33)).heap[w.heap.size + 2]? = some (.cells #[.int .i64 bx, .int .i64 by_, .int .i64 bz] 33) := allocs_at w [(.cells #[.int .i64 px, .int .i64 py, .int .i64 pz] 33), (.cells #[.int .i64 ax, .int .i64 ay, .int .i64 az] 33), (.cells #[.int .i64 bx, .int .i64 by_, .int .i64 bz] 33), (.cells #[.int .i64 cx, .int .i64 cy, .int .i64 cz] 33)] 2 rfl
        have kb3 : ((((w.alloc (.cells #[.int .i64 px, .int .i64 py, .int .i64 pz] 33)).alloc (.cells #[.int .i64 ax, .int .i64 ay, .int .i64 az] 33)).alloc (.cells #[.int .i64 bx, .int .i64 by_, .int .i64 bz] 33)).alloc (.cells #[.int .i64 cx, .int .i64 cy, .int .i64 cz] 33)).heap[w.heap.size + 3]? = some (.cells #[.int .i64 cx, .int .i64 cy, .int .i64 cz] 33) := allocs_at w [(.cells #[.int .i64 px, .int .i64 py, .int .i64 pz] 33), (.cells #[.int .i64 ax, .int .i64 ay, .int .i64 az] 33), (.cells #[.int .i64 bx, .int .i64 by_, .int .i64 bz] 33), (.cells #[.int .i64 cx, .int .i64 cy, .int .i64 cz] 33)] 3 rfl
        generalize ((((w.alloc (.cells #[.int .i64 px, .int .i64 py, .int .i64 pz] 33)).alloc (.cells #[.int .i64 ax, .int .i64 ay, .int .i64 az] 33)).alloc (.cells #[.int .i64 bx, .int .i64 by_, .int .i64 bz] 33)).alloc (.cells #[.int .i64 cx, .int .i64 cy, .int .i64 cz] 33)) = w0 at *
        have k0_0 : w0.cell? ⟨w.heap.size, 0, none⟩ = some (.int .i64 px) := (Blk.cell kb0 0).trans rfl
        have k0_1 : w0.cell? ⟨w.heap.size, 1, none⟩ = some (.int .i64 py) := (Blk.cell kb0 1).trans rfl
        have k0_2 : w0.cell? ⟨w.heap.size, 2, none⟩ = some (.int .i64 pz) := (Blk.cell kb0 2).trans rfl
        have k1_0 : w0.cell? ⟨w.heap.size + 1, 0, none⟩ = some (.int .i64 ax) := (Blk.cell kb1 0).trans rfl
        have k1_1 : w0.cell? ⟨w.heap.size + 1, 1, none⟩ = some (.int .i64 ay) := (Blk.cell kb1 1).trans rfl
        have k1_2 : w0.cell? ⟨w.heap.size + 1, 2, none⟩ = some (.int .i64 az) := (Blk.cell kb1 2).trans rfl
        have k2_0 : w0.cell? ⟨w.heap.size + 1 + 1, 0, none⟩ = some (.int .i64 bx) := (Blk.cell kb2 0).trans rfl
        have k2_1 : w0.cell? ⟨w.heap.size + 1 + 1, 1, none⟩ = some (.int .i64 by_) := (Blk.cell kb2 1).trans rfl
        have k2_2 : w0.cell? ⟨w.heap.size + 1 + 1, 2, none⟩ = some (.int .i64 bz) := (Blk.cell kb2 2).trans rfl
        have k3_0 : w0.cell? ⟨w.heap.size + 1 + 1 + 1, 0, none⟩ = some (.int .i64 cx) := (Blk.cell kb3 0).trans rfl
        have k3_1 : w0.cell? ⟨w.heap.size + 1 + 1 + 1, 1, none⟩ = some (.int .i64 cy) := (Blk.cell kb3 1).trans rfl
        have k3_2 : w0.cell? ⟨w.heap.size + 1 + 1 + 1, 2, none⟩ = some (.int .i64 cz) := (Blk.cell kb3 2).trans rfl
        clear kb0 kb1 kb2 kb3
        have SK : ∀ w', Below w0.heap.size w0 w' → Below w0.heap.size w0 w' ∧ w'.cell? ⟨w.heap.size, 0, none⟩ = some (.int .i64 px) ∧ w'.cell? ⟨w.heap.size, 1, none⟩ = some (.int .i64 py) ∧ w'.cell? ⟨w.heap.size, 2, none⟩ = some (.int .i64 pz) ∧ w'.cell? ⟨w.heap.size + 1, 0, none⟩ = some (.int .i64 ax) ∧ w'.cell? ⟨w.heap.size + 1, 1, none⟩ = some (.int .i64 ay) ∧ w'.cell? ⟨w.heap.size + 1, 2, none⟩ = some (.int .i64 az) ∧ w'.cell? ⟨w.heap.size + 1 + 1, 0, none⟩ = some (.int .i64 bx) ∧ w'.cell? ⟨w.heap.size + 1 + 1, 1, none⟩ = some (.int .i64 by_) ∧ w'.cell? ⟨w.heap.size + 1 + 1, 2, none⟩ = some (.int .i64 bz) ∧ w'.cell? ⟨w.heap.size + 1 + 1 + 1, 0, none⟩ = some (.int .i64 cx) ∧ w'.cell? ⟨w.heap.size + 1 + 1 + 1, 1, none⟩ = some (.int .i64 cy) ∧ w'.cell? ⟨w.heap.size + 1 + 1 + 1, 2, none⟩ = some (.int .i64 cz) := fun w' h => ⟨h, (bcell h _ _ (by omega)).trans k0_0, (bcell h _ _ (by omega)).trans k0_1, (bcell h _ _ (by omega)).trans k0_2, (bcell h _ _ (by omega)).trans k1_0, (bcell h _ _ (by omega)).trans k1_1, (bcell h _ _ (by omega)).trans k1_2, (bcell h _ _ (by omega)).trans k2_0, (bcell h _ _ (by omega)).trans k2_1, (bcell h _ _ (by omega)).trans k2_2, (bcell h _ _ (by omega)).trans k3_0, (bcell h _ _ (by omega)).trans k3_1, (bcell h _ _ (by omega)).trans k3_2⟩
        go_wp2_with fail
        refine (rrights_any _ px py pz).mono ?_
        rintro e w1 ⟨rfl, hb1⟩
        have hL1 : Below w0.heap.size w0 w1 := hb1
        obtain ⟨-, c1_0, c1_1, c1_2, c1_3, c1_4, c1_5, c1_6, c1_7, c1_8, c1_9, c1_10, c1_11⟩ := SK _ hL1
        go_wp2_with fail
        refine (rrights_any _ ax ay az).mono ?_
        rintro e w2 ⟨rfl, hb2⟩
        have hL2 : Below w0.heap.size w0 w2 := hL1.trans (hb2.mono hL1.size)
        obtain ⟨-, c2_0, c2_1, c2_2, c2_3, c2_4, c2_5, c2_6, c2_7, c2_8, c2_9, c2_10, c2_11⟩ := SK _ hL2
        go_wp2_with fail
        go_ret2
        exact ⟨rfl, hb0.trans (hL2.mono hb0.size)⟩
    · have g0 := decide_eq_false f0
      go_enter Tryz.func24, Tryz.ntmps24
      go_upto_region 1 with (fail)
      have hb0 : Below w.heap.size w ((((w.alloc (.cells #[.int .i64 px, .int .i64 py, .int .i64 pz] 33)).alloc (.cells #[.int .i64 ax, .int .i64 ay, .int .i64 az] 33)).alloc (.cells #[.int .i64 bx, .int .i64 by_, .int .i64 bz] 33)).alloc (.cells #[.int .i64 cx, .int .i64 cy, .int .i64 cz] 33)) := allocs_below w [(.cells #[.int .i64 px, .int .i64 py, .int .i64 pz] 33), (.cells #[.int .i64 ax, .int .i64 ay, .int .i64 az] 33), (.cells #[.int .i64 bx, .int .i64 by_, .int .i64 bz] 33), (.cells #[.int .i64 cx, .int .i64 cy, .int .i64 cz] 33)]
      have s0 : w.heap.size + 4 ≤ ((((w.alloc (.cells #[.int .i64 px, .int .i64 py, .int .i64 pz] 33)).alloc (.cells #[.int .i64 ax, .int .i64 ay, .int .i64 az] 33)).alloc (.cells #[.int .i64 bx, .int .i64 by_, .int .i64 bz] 33)).alloc (.cells #[.int .i64 cx, .int .i64 cy, .int .i64 cz] 33)).heap.size := Nat.le_of_eq (allocs_size w [(.cells #[.int .i64 px, .int .i64 py, .int .i64 pz] 33), (.cells #[.int .i64 ax, .int .i64 ay, .int .i64 az] 33), (.cells #[.int .i64 bx, .int .i64 by_, .int .i64 bz] 33), (.cells #[.int .i64 cx, .int .i64 cy, .int .i64 cz] 33)]).symm
      have kb0 : ((((w.alloc (.cells #[.int .i64 px, .int .i64 py, .int .i64 pz] 33)).alloc (.cells #[.int .i64 ax, .int .i64 ay, .int .i64 az] 33)).alloc (.cells #[.int .i64 bx, .int .i64 by_, .int .i64 bz] 33)).alloc (.cells #[.int .i64 cx, .int .i64 cy, .int .i64 cz] 33)).heap[w.heap.size + 0]? = some (.cells #[.int .i64 px, .int .i64 py, .int .i64 pz] 33) := allocs_at w [(.cells #[.int .i64 px, .int .i64 py, .int .i64 pz] 33), (.cells #[.int .i64 ax, .int .i64 ay, .int .i64 az] 33), (.cells #[.int .i64 bx, .int .i64 by_, .int .i64 bz] 33), (.cells #[.int .i64 cx, .int .i64 cy, .int .i64 cz] 33)] 0 rfl
      have kb1 : ((((w.alloc (.cells #[.int .i64 px, .int .i64 py, .int .i64 pz] 33)).alloc (.cells #[.int .i64 ax, .int .i64 ay, .int .i64 az] 33)).alloc (.cells #[.int .i64 bx, .int .i64 by_, .int .i64 bz] 33)).alloc (.cells #[.int .i64 cx, .int .i64 cy, .int .i64 cz] 33)).heap[w.heap.size + 1]? = some (.cells #[.int .i64 ax, .int .i64 ay, .int .i64 az] 33) := allocs_at w [(.cells #[.int .i64 px, .int .i64 py, .int .i64 pz] 33), (.cells #[.int .i64 ax, .int .i64 ay, .int .i64 az] 33), (.cells #[.int .i64 bx, .int .i64 by_, .int .i64 bz] 33), (.cells #[.int .i64 cx, .int .i64 cy, .int .i64 cz] 33)] 1 rfl
      have kb2 : ((((w.alloc (.cells #[.int .i64 px, .int .i64 py, .int .i64 pz] 33)).alloc (.cells #[.int .i64 ax, .int .i64 ay, .int .i64 az] 33)).alloc (.cells #[.int .i64 bx, .int .i64 by_, .int .i64 bz] 33)).alloc (.cells #[.int .i64 cx, .int .i64 cy, .int .i64 cz] 33)).heap[w.heap.size + 2]? = some (.cells #[.int .i64 bx, .int .i64 by_, .int .i64 bz] 33) := allocs_at w [(.cells #[.int .i64 px, .int .i64 py, .int .i64 pz] 33), (.cells #[.int .i64 ax, .int .i64 ay, .int .i64 az] 33), (.cells #[.int .i64 bx, .int .i64 by_, .int .i64 bz] 33), (.cells #[.int .i64 cx, .int .i64 cy, .int .i64 cz] 33)] 2 rfl
      have kb3 : ((((w.alloc (.cells #[.int .i64 px, .int .i64 py, .int .i64 pz] 33)).alloc (.cells #[.int .i64 ax, .int .i64 ay, .int .i64 az] 33)).alloc (.cells #[.int .i64 bx, .int .i64 by_, .int .i64 bz] 33)).alloc (.cells #[.int .i64 cx, .int .i64 cy, .int .i64 cz] 33)).heap[w.heap.size + 3]? = some (.cells #[.int .i64 cx, .int .i64 cy, .int .i64 cz] 33) := allocs_at w [(.cells #[.int .i64 px, .int .i64 py, .int .i64 pz] 33), (.cells #[.int .i64 ax, .int .i64 ay, .int .i64 az] 33), (.cells #[.int .i64 bx, .int .i64 by_, .int .i64 bz] 33), (.cells #[.int .i64 cx, .int .i64 cy, .int .i64 cz] 33)] 3 rfl
      generalize ((((w.alloc (.cells #[.int .i64 px, .int .i64 py, .int .i64 pz] 33)).alloc (.cells #[.int .i64 ax, .int .i64 ay, .int .i64 az] 33)).alloc (.cells #[.int .i64 bx, .int .i64 by_, .int .i64 bz] 33)).alloc (.cells #[.int .i64 cx, .int .i64 cy, .int .i64 cz] 33)) = w0 at *
      have k0_0 : w0.cell? ⟨w.heap.size, 0, none⟩ = some (.int .i64 px) := (Blk.cell kb0 0).trans rfl
      have k0_1 : w0.cell? ⟨w.heap.size, 1, none⟩ = some (.int .i64 py) := (Blk.cell kb0 1).trans rfl
      have k0_2 : w0.cell? ⟨w.heap.size, 2, none⟩ = some (.int .i64 pz) := (Blk.cell kb0 2).trans rfl
      have k1_0 : w0.cell? ⟨w.heap.size + 1, 0, none⟩ = some (.int .i64 ax) := (Blk.cell kb1 0).trans rfl
      have k1_1 : w0.cell? ⟨w.heap.size + 1, 1, none⟩ = some (.int .i64 ay) := (Blk.cell kb1 1).trans rfl
      have k1_2 : w0.cell? ⟨w.heap.size + 1, 2, none⟩ = some (.int .i64 az) := (Blk.cell kb1 2).trans rfl
      have k2_0 : w0.cell? ⟨w.heap.size + 1 + 1, 0, none⟩ = some (.int .i64 bx) := (Blk.cell kb2 0).trans rfl
      have k2_1 : w0.cell? ⟨w.heap.size + 1 + 1, 1, none⟩ = some (.int .i64 by_) := (Blk.cell kb2 1).trans rfl
      have k2_2 : w0.cell? ⟨w.heap.size + 1 + 1, 2, none⟩ = some (.int .i64 bz) := (Blk.cell kb2 2).trans rfl
      have k3_0 : w0.cell? ⟨w.heap.size + 1 + 1 + 1, 0, none⟩ = some (.int .i64 cx) := (Blk.cell kb3 0).trans rfl
      have k3_1 : w0.cell? ⟨w.heap.size + 1 + 1 + 1, 1, none⟩ = some (.int .i64 cy) := (Blk.cell kb3 1).trans rfl
      have k3_2 : w0.cell? ⟨w.heap.size + 1 + 1 + 1, 2, none⟩ = some (.int .i64 cz) := (Blk.cell kb3 2).trans rfl
      clear kb0 kb1 kb2 kb3
      have SK : ∀ w', Below w0.heap.size w0 w' → Below w0.heap.size w0 w' ∧ w'.cell? ⟨w.heap.size, 0, none⟩ = some (.int .i64 px) ∧ w'.cell? ⟨w.heap.size, 1, none⟩ = some (.int .i64 py) ∧ w'.cell? ⟨w.heap.size, 2, none⟩ = some (.int .i64 pz) ∧ w'.cell? ⟨w.heap.size + 1, 0, none⟩ = some (.int .i64 ax) ∧ w'.cell? ⟨w.heap.size + 1, 1, none⟩ = some (.int .i64 ay) ∧ w'.cell? ⟨w.heap.size + 1, 2, none⟩ = some (.int .i64 az) ∧ w'.cell? ⟨w.heap.size + 1 + 1, 0, none⟩ = some (.int .i64 bx) ∧ w'.cell? ⟨w.heap.size + 1 + 1, 1, none⟩ = some (.int .i64 by_) ∧ w'.cell? ⟨w.heap.size + 1 + 1, 2, none⟩ = some (.int .i64 bz) ∧ w'.cell? ⟨w.heap.size + 1 + 1 + 1, 0, none⟩ = some (.int .i64 cx) ∧ w'.cell? ⟨w.heap.size + 1 + 1 + 1, 1, none⟩ = some (.int .i64 cy) ∧ w'.cell? ⟨w.heap.size + 1 + 1 + 1, 2, none⟩ = some (.int .i64 cz) := fun w' h => ⟨h, (bcell h _ _ (by omega)).trans k0_0, (bcell h _ _ (by omega)).trans k0_1, (bcell h _ _ (by omega)).trans k0_2, (bcell h _ _ (by omega)).trans k1_0, (bcell h _ _ (by omega)).trans k1_1, (bcell h _ _ (by omega)).trans k1_2, (bcell h _ _ (by omega)).trans k2_0, (bcell h _ _ (by omega)).trans k2_1, (bcell h _ _ (by omega)).trans k2_2, (bcell h _ _ (by omega)).trans k3_0, (bcell h _ _ (by omega)).trans k3_1, (bcell h _ _ (by omega)).trans k3_2⟩
      go_wp2_with fail
      refine (rrights_any _ px py pz).mono ?_
      rintro e w1 ⟨rfl, hb1⟩
      have hL1 : Below w0.heap.size w0 w1 := hb1
      obtain ⟨-, c1_0, c1_1, c1_2, c1_3, c1_4, c1_5, c1_6, c1_7, c1_8, c1_9, c1_10, c1_11⟩ := SK _ hL1
      go_wp2_with fail
      go_ret2
      exact ⟨rfl, hb0.trans (hL1.mono hb0.size)⟩

end Go.Proofs.YtblfinpfcpglcaaGreatDoor
