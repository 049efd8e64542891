/- vector: ToPlane. -/
import Derived.Test.YtblfinpfcpglcaaGreatDoorDist
namespace Go.Proofs.YtblfinpfcpglcaaGreatDoor
open Go.RowKit MLab

/-- What ToPlane returns. -/
def planeR (px py pz ax ay az bx by_ bz cx cy cz : Int) : Except Int Rat :=
  if Co px ∧ Co py ∧ Co pz ∧ Co ax ∧ Co ay ∧ Co az ∧ Co bx ∧ Co by_ ∧ Co bz ∧ Co cx ∧ Co cy ∧ Co cz then
    (if ((by_ - ay) * (cz - az) - (bz - az) * (cy - ay)) = 0 ∧ ((bz - az) * (cx - ax) - (bx - ax) * (cz - az)) = 0 ∧ ((bx - ax) * (cy - ay) - (by_ - ay) * (cx - ax)) = 0 then .error 10
     else .ok (Rat.divInt ((((by_ - ay) * (cz - az) - (bz - az) * (cy - ay)) * (px - ax) + ((bz - az) * (cx - ax) - (bx - ax) * (cz - az)) * (py - ay) + ((bx - ax) * (cy - ay) - (by_ - ay) * (cx - ax)) * (pz - az)) * (((by_ - ay) * (cz - az) - (bz - az) * (cy - ay)) * (px - ax) + ((bz - az) * (cx - ax) - (bx - ax) * (cz - az)) * (py - ay) + ((bx - ax) * (cy - ay) - (by_ - ay) * (cx - ax)) * (pz - az))) (((by_ - ay) * (cz - az) - (bz - az) * (cy - ay)) * ((by_ - ay) * (cz - az) - (bz - az) * (cy - ay)) + ((bz - az) * (cx - ax) - (bx - ax) * (cz - az)) * ((bz - az) * (cx - ax) - (bx - ax) * (cz - az)) + ((bx - ax) * (cy - ay) - (by_ - ay) * (cx - ax)) * ((bx - ax) * (cy - ay) - (by_ - ay) * (cx - ax)))))
  else .error 2

/-- The three coordinates by their number; the sum of the first squares. -/
def nth3 (u v z : Int) : Nat → Int
  | 0 => u
  | 1 => v
  | _ => z
def sq3 (u v z : Int) : Nat → Int
  | 0 => 0
  | j + 1 => sq3 u v z j + nth3 u v z j * nth3 u v z j
theorem sq3_three (u v z : Int) : sq3 u v z 3 = u * u + v * v + z * z := by simp [sq3, nth3]
theorem nth3_nf {u v z : Int} (h1 : Nf u) (h2 : Nf v) (h3 : Nf z) : ∀ j, Nf (nth3 u v z j)
  | 0 => h1
  | 1 => h2
  | _ + 2 => h3
theorem sq3_bound {u v z : Int} (h1 : Nf u) (h2 : Nf v) (h3 : Nf z) : ∀ j, 0 ≤ sq3 u v z j ∧ sq3 u v z j ≤ j * 6400000000000000000000
  | 0 => by simp [sq3]
  | j + 1 => by
    have h := sq3_bound h1 h2 h3 j
    have h4 := nth3_nf h1 h2 h3 j
    have h5 := mulB (x := nth3 u v z j) (y := nth3 u v z j) (M := 80000000000) (N := 80000000000) h4 h4
    have h6 := sq_nn (nth3 u v z j)
    rw [sq3]
    omega
theorem big_of {z : Int} (h : z.natAbs ≤ 100000000000000000000000) : z.natAbs < Big := by
  have h2 : (10 : Nat) ^ 35 ≤ Big := pow_le_big (k := 35) (by omega)
  generalize Big = g at *
  exact Nat.lt_of_le_of_lt h (Nat.lt_of_lt_of_le (by decide) h2)

set_option maxRecDepth 100000 in
set_option maxHeartbeats 2000000 in
theorem plane_zero (w : World) (px py pz ax ay az bx by_ bz cx cy cz U V Z : Int) (hs : Std w) (hok : Co px ∧ Co py ∧ Co pz ∧ Co ax ∧ Co ay ∧ Co az ∧ Co bx ∧ Co by_ ∧ Co bz ∧ Co cx ∧ Co cy ∧ Co cz) (hU : (by_ - ay) * (cz - az) - (bz - az) * (cy - ay) = U) (hV : (bz - az) * (cx - ax) - (bx - ax) * (cz - az) = V) (hZ : (bx - ax) * (cy - ay) - (by_ - ay) * (cx - ax) = Z) (z1 : (U = 0) = True) (z2 : (V = 0) = True) (z3 : (Z = 0) = True) :
    Calls Tryz.prog 23 #[.agg #[.int .i64 px, .int .i64 py, .int .i64 pz], .agg #[.int .i64 ax, .int .i64 ay, .int .i64 az], .agg #[.int .i64 bx, .int .i64 by_, .int .i64 bz], .agg #[.int .i64 cx, .int .i64 cy, .int .i64 cz]] w fun e w' => e = .returned (RR (.error 10)) ∧ Below w.heap.size w w' := by
  have HS := hide hs
  clear hs
  have hchk : chkSps [(px, py, pz), (ax, ay, az), (bx, by_, bz), (cx, cy, cz)] = 0 := by simp [chkSps, okSps, hok]
  obtain ⟨hpx, hpy, hpz, hax, hay, haz, hbx, hby_, hbz, hcx, hcy, hcz⟩ := id hok
  clear hok
  go_enter Tryz.func23, Tryz.ntmps23
  go_upto_region 1 with (fail)
  have hb0 : Below w.heap.size w ((((w.alloc (.cells #[.int .i64 px, .int .i64 py, .int .i64 pz] 33)).alloc (.cells #[.int .i64 ax, .int .i64 ay, .int .i64 az] 33)).alloc (.cells #[.int .i64 bx, .int .i64 by_, .int .i64 bz] 33)).alloc (.cells #[.int .i64 cx, .int .i64 cy, .int .i64 cz] 33)) := allocs_below w [(.cells #[.int .i64 px, .int .i64 py, .int .i64 pz] 33), (.cells #[.int .i64 ax, .int .i64 ay, .int .i64 az] 33), (.cells #[.int .i64 bx, .int .i64 by_, .int .i64 bz] 33), (.cells #[.int .i64 cx, .int .i64 cy, .int .i64 cz] 33)]
  have s0 : w.heap.size + 4 ≤ ((((w.alloc (.cells #[.int .i64 px, .int .i64 py, .int .i64 pz] 33)).alloc (.cells #[.int .i64 ax, .int .i64 ay, .int .i64 az] 33)).alloc (.cells #[.int .i64 bx, .int .i64 by_, .int .i64 bz] 33)).alloc (.cells #[.int .i64 cx, .int .i64 cy, .int .i64 cz] 33)).heap.size := Nat.le_of_eq (allocs_size w [(.cells #[.int .i64 px, .int .i64 py, .int .i64 pz] 33), (.cells #[.int .i64 ax, .int .i64 ay, .int .i64 az] 33), (.cells #[.int .i64 bx, .int .i64 by_, .int .i64 bz] 33), (.cells #[.int .i64 cx, .int .i64 cy, .int .i64 cz] 33)]).symm
  have kb0 : ((((w.alloc (.cells #[.int .i64 px, .int .i64 py, .int .i64 pz] 33)).alloc (.cells #[.int .i64 ax, .int .i64 ay, .int .i64 az] 33)).alloc (.cells #[.int .i64 bx, .int .i64 by_, .int .i64 bz] 33)).alloc (.cells #[.int .i64 cx, .int .i64 cy, .int .i64 cz] 33)).heap[w.heap.size + 0]? = some (.cells #[.int .i64 px, .int .i64 py, .int .i64 pz] 33) := allocs_at w [(.cells #[.int .i64 px, .int .i64 py, .int .i64 pz] 33), (.cells #[.int .i64 ax, .int .i64 ay, .int .i64 az] 33), (.cells #[.int .i64 bx, .int .i64 by_, .int .i64 bz] 33), (.cells #[.int .i64 cx, .int .i64 cy, .int .i64 cz] 33)] 0 rfl
  have kb1 : ((((w.alloc (.cells #[.int .i64 px, .int .i64 py, .int .i64 pz] 33)).alloc (.cells #[.int .i64 ax, .int .i64 ay, .int .i64 az] 33)).alloc (.cells #[.int .i64 bx, .int .i64 by_, .int .i64 bz] 33)).alloc (.cells #[.int .i64 cx, .int .i64 cy, .int .i64 cz] 33)).heap[w.heap.size + 1]? = some (.cells #[.int .i64 ax, .int .i64 ay, .int .i64 az] 33) := allocs_at w [(.cells #[.int .i64 px, .int .i64 py, .int .i64 pz] 33), (.cells #[.int .i64 ax, .int .i64 ay, .int .i64 az] 33), (.cells #[.int .i64 bx, .int .i64 by_, .int .i64 bz] 33), (.cells #[.int .i64 cx, .int .i64 cy, .int .i64 cz] 33)] 1 rfl
  have kb2 : ((((w.alloc (.cells #[.int .i64 px, .int .i64 py, .int .i64 pz] 33)).alloc (.cells #[.int .i64 ax, .int .i64 ay, .int .i64 az] 33)).alloc (.cells #[.int .i64 bx, .int .i64 by_, .int .i64 bz] 33)).alloc (.cells #[.int .i64 cx, .int .i64 cy, .int .i64 cz] 33)).heap[w.heap.size + 2]? = some (.cells #[.int .i64 bx, .int .i64 by_, .int .i64 bz] 33) := allocs_at w [(.cells #[.int .i64 px, .int .i64 py, .int .i64 pz] 33), (.cells #[.int .i64 ax, .int .i64 ay, .int .i64 az] 33), (.cells #[.int .i64 bx, .int .i64 by_, .int .i64 bz] 33), (.cells #[.int .i64 cx, .int .i64 cy, .int .i64 cz] 33)] 2 rfl
  have kb3 : ((((w.alloc (.cells #[.int .i64 px, .int .i64 py, .int .i64 pz] 33)).alloc (.cells #[.int .i64 ax, .int .i64 ay, .int .i64 az] 33)).alloc (.cells #[.int .i64 bx, .int .i64 by_, .int .i64 bz] 33)).alloc (.cells #[.int .i64 cx, .int .i64 cy, .int .i64 cz] 33)).heap[w.heap.size + 3]? = some (.cells #[.int .i64 cx, .int .i64 cy, .int .i64 cz] 33) := allocs_at w [(.cells #[.int .i64 px, .int .i64 py, .int .i64 pz] 33), (.cells #[.int .i64 ax, .int .i64 ay, .int .i64 az] 33), (.cells #[.int .i64 bx, .int .i64 by_, .int .i64 bz] 33), (.cells #[.int .i64 cx, .int .i64 cy, .int .i64 cz] 33)] 3 rfl
  generalize ((((w.alloc (.cells #[.int .i64 px, .int .i64 py, .int .i64 pz] 33)).alloc (.cells #[.int .i64 ax, .int .i64 ay, .int .i64 az] 33)).alloc (.cells #[.int .i64 bx, .int .i64 by_, .int .i64 bz] 33)).alloc (.cells #[.int .i64 cx, .int .i64 cy, .int .i64 cz] 33)) = w0 at *
  have k0_0 : w0.cell? ⟨w.heap.size, 0, none⟩ = some (.int .i64 px) := (Blk.cell kb0 0).trans rfl
  have k0_1 : w0.cell? ⟨w.heap.size, 1, none⟩ = some (.int .i64 py) := (Blk.cell kb0 1).trans rfl
  have k0_2 : w0.cell? ⟨w.heap.size, 2, none⟩ = some (.int .i64 pz) := (Blk.cell kb0 2).trans rfl
  have k1_0 : w0.cell? ⟨w.heap.size + 1, 0, none⟩ = some (.int .i64 ax) := (Blk.cell kb1 0).trans rfl
  have k1_1 : w0.cell? ⟨w.heap.size + 1, 1, none⟩ = some (.int .i64 ay) := (Blk.cell kb1 1).trans rfl
  have k1_2 : w0.cell? ⟨w.heap.size + 1, 2, none⟩ = some (.int .i64 az) := (Blk.cell kb1 2).trans rfl
  have k2_0 : w0.cell? ⟨w.heap.size + 1 + 1, 0, none⟩ = some (.int .i64 bx) := (Blk.cell kb2 0).trans rfl
  have k2_1 : w0.cell? ⟨w.heap.size + 1 + 1, 1, none⟩ = some (.int .i64 by_) := (Blk.cell kb2 1).trans rfl
  have k2_2 : w0.cell? ⟨w.heap.size + 1 + 1, 2, none⟩ = some (.int .i64 bz) := (Blk.cell kb2 2).trans rfl
  have k3_0 : w0.cell? ⟨w.heap.size + 1 + 1 + 1, 0, none⟩ = some (.int .i64 cx) := (Blk.cell kb3 0).trans rfl
  have k3_1 : w0.cell? ⟨w.heap.size + 1 + 1 + 1, 1, none⟩ = some (.int .i64 cy) := (Blk.cell kb3 1).trans rfl
  have k3_2 : w0.cell? ⟨w.heap.size + 1 + 1 + 1, 2, none⟩ = some (.int .i64 cz) := (Blk.cell kb3 2).trans rfl
  clear kb0 kb1 kb2 kb3
  have SK : ∀ w', Below w0.heap.size w0 w' → Below w0.heap.size w0 w' ∧ w'.cell? ⟨w.heap.size, 0, none⟩ = some (.int .i64 px) ∧ w'.cell? ⟨w.heap.size, 1, none⟩ = some (.int .i64 py) ∧ w'.cell? ⟨w.heap.size, 2, none⟩ = some (.int .i64 pz) ∧ w'.cell? ⟨w.heap.size + 1, 0, none⟩ = some (.int .i64 ax) ∧ w'.cell? ⟨w.heap.size + 1, 1, none⟩ = some (.int .i64 ay) ∧ w'.cell? ⟨w.heap.size + 1, 2, none⟩ = some (.int .i64 az) ∧ w'.cell? ⟨w.heap.size + 1 + 1, 0, none⟩ = some (.int .i64 bx) ∧ w'.cell? ⟨w.heap.size + 1 + 1, 1, none⟩ = some (.int .i64 by_) ∧ w'.cell? ⟨w.heap.size + 1 + 1, 2, none⟩ = some (.int .i64 bz) ∧ w'.cell? ⟨w.heap.size + 1 + 1 + 1, 0, none⟩ = some (.int .i64 cx) ∧ w'.cell? ⟨w.heap.size + 1 + 1 + 1, 1, none⟩ = some (.int .i64 cy) ∧ w'.cell? ⟨w.heap.size + 1 + 1 + 1, 2, none⟩ = some (.int .i64 cz) := fun w' h => ⟨h, (bcell h _ _ (by omega)).trans k0_0, (bcell h _ _ (by omega)).trans k0_1, (bcell h _ _ (by omega)).trans k0_2, (bcell h _ _ (by omega)).trans k1_0, (bcell h _ _ (by omega)).trans k1_1, (bcell h _ _ (by omega)).trans k1_2, (bcell h _ _ (by omega)).trans k2_0, (bcell h _ _ (by omega)).trans k2_1, (bcell h _ _ (by omega)).trans k2_2, (bcell h _ _ (by omega)).trans k3_0, (bcell h _ _ (by omega)).trans k3_1, (bcell h _ _ (by omega)).trans k3_2⟩
  go_wp2_with fail
  refine (alls_any _ _ [(px, py, pz), (ax, ay, az), (bx, by_, bz), (cx, cy, cz)] (Sps4 w0 (px, py, pz) (ax, ay, az) (bx, by_, bz) (cx, cy, cz) _ _) (by simp)).mono ?_
  rintro e w1 ⟨rfl, hb1⟩
  have hb1' := (allocs_below w0 [_]).trans (hb1.mono (by simp))
  rw [hchk]
  have hL1 : Below w0.heap.size w0 w1 := hb1'
  obtain ⟨-, c1_0, c1_1, c1_2, c1_3, c1_4, c1_5, c1_6, c1_7, c1_8, c1_9, c1_10, c1_11⟩ := SK _ hL1
  go_wp2_with fail
  refine (normal_any _ ax ay az bx by_ bz cx cy cz hax hay haz hbx hby_ hbz hcx hcy hcz).mono ?_
  rw [hU, hV, hZ]
  rintro e w2 ⟨rfl, hb2⟩
  have hL2 : Below w0.heap.size w0 w2 := hL1.trans (hb2.mono hL1.size)
  obtain ⟨-, c2_0, c2_1, c2_2, c2_3, c2_4, c2_5, c2_6, c2_7, c2_8, c2_9, c2_10, c2_11⟩ := SK _ hL2
  go_upto_region 5 with (fail)
  have hL3 : Below w0.heap.size w0 (w2.alloc (.cells #[.int .i64 U, .int .i64 V, .int .i64 Z] 99)) := hL2.alloc hL2.size _
  have hA3 := Blk.new w2 99 #[.int .i64 U, .int .i64 V, .int .i64 Z]
  have sA3 : w2.heap.size < (w2.alloc (.cells #[.int .i64 U, .int .i64 V, .int .i64 Z] 99)).heap.size := by simp
  have kA3_0 : (w2.alloc (.cells #[.int .i64 U, .int .i64 V, .int .i64 Z] 99)).cell? ⟨w2.heap.size, 0, none⟩ = some (.int .i64 (U)) := (Blk.cell hA3 0).trans rfl
  have kA3_1 : (w2.alloc (.cells #[.int .i64 U, .int .i64 V, .int .i64 Z] 99)).cell? ⟨w2.heap.size, 1, none⟩ = some (.int .i64 (V)) := (Blk.cell hA3 1).trans rfl
  have kA3_2 : (w2.alloc (.cells #[.int .i64 U, .int .i64 V, .int .i64 Z] 99)).cell? ⟨w2.heap.size, 2, none⟩ = some (.int .i64 (Z)) := (Blk.cell hA3 2).trans rfl
  have fA3_0 : (w2.alloc (.cells #[.int .i64 U, .int .i64 V, .int .i64 Z] 99)).frozen? ⟨w2.heap.size, 0, none⟩ = false := Blk.frozen hA3 0
  have fA3_1 : (w2.alloc (.cells #[.int .i64 U, .int .i64 V, .int .i64 Z] 99)).frozen? ⟨w2.heap.size, 1, none⟩ = false := Blk.frozen hA3 1
  have fA3_2 : (w2.alloc (.cells #[.int .i64 U, .int .i64 V, .int .i64 Z] 99)).frozen? ⟨w2.heap.size, 2, none⟩ = false := Blk.frozen hA3 2
  have gA3 : Below w2.heap.size w2 (w2.alloc (.cells #[.int .i64 U, .int .i64 V, .int .i64 Z] 99)) := (Below.refl _ _).alloc (Nat.le_refl _) _
  generalize (w2.alloc (.cells #[.int .i64 U, .int .i64 V, .int .i64 Z] 99)) = w3 at *
  have c3_0 := (bcell gA3 _ _ (block_lt_of_cell c2_0)).trans c2_0
  have c3_1 := (bcell gA3 _ _ (block_lt_of_cell c2_1)).trans c2_1
  have c3_2 := (bcell gA3 _ _ (block_lt_of_cell c2_2)).trans c2_2
  have c3_3 := (bcell gA3 _ _ (block_lt_of_cell c2_3)).trans c2_3
  have c3_4 := (bcell gA3 _ _ (block_lt_of_cell c2_4)).trans c2_4
  have c3_5 := (bcell gA3 _ _ (block_lt_of_cell c2_5)).trans c2_5
  have c3_6 := (bcell gA3 _ _ (block_lt_of_cell c2_6)).trans c2_6
  have c3_7 := (bcell gA3 _ _ (block_lt_of_cell c2_7)).trans c2_7
  have c3_8 := (bcell gA3 _ _ (block_lt_of_cell c2_8)).trans c2_8
  have c3_9 := (bcell gA3 _ _ (block_lt_of_cell c2_9)).trans c2_9
  have c3_10 := (bcell gA3 _ _ (block_lt_of_cell c2_10)).trans c2_10
  have c3_11 := (bcell gA3 _ _ (block_lt_of_cell c2_11)).trans c2_11
  go_wp2_with fail
  go_ret2
  exact ⟨rfl, hb0.trans (hL3.mono hb0.size)⟩

set_option maxRecDepth 100000 in
set_option maxHeartbeats 4000000 in
theorem plane_one (w : World) (px py pz ax ay az bx by_ bz cx cy cz U V Z : Int) (hs : Std w) (hok : Co px ∧ Co py ∧ Co pz ∧ Co ax ∧ Co ay ∧ Co az ∧ Co bx ∧ Co by_ ∧ Co bz ∧ Co cx ∧ Co cy ∧ Co cz) (hU : (by_ - ay) * (cz - az) - (bz - az) * (cy - ay) = U) (hV : (bz - az) * (cx - ax) - (bx - ax) * (cz - az) = V) (hZ : (bx - ax) * (cy - ay) - (by_ - ay) * (cx - ax) = Z) (nU : Nf U) (nV : Nf V) (nZ : Nf Z) (z1 : (U = 0) = False) (hpos : 0 < U * U + V * V + Z * Z) :
    Calls Tryz.prog 23 #[.agg #[.int .i64 px, .int .i64 py, .int .i64 pz], .agg #[.int .i64 ax, .int .i64 ay, .int .i64 az], .agg #[.int .i64 bx, .int .i64 by_, .int .i64 bz], .agg #[.int .i64 cx, .int .i64 cy, .int .i64 cz]] w fun e w' => e = .returned (RR (.ok (Rat.divInt ((U * (px - ax) + V * (py - ay) + Z * (pz - az)) * (U * (px - ax) + V * (py - ay) + Z * (pz - az))) (U * U + V * V + Z * Z)))) ∧ Below w.heap.size w w' := by
  have HS := hide hs
  clear hs
  have hchk : chkSps [(px, py, pz), (ax, ay, az), (bx, by_, bz), (cx, cy, cz)] = 0 := by simp [chkSps, okSps, hok]
  obtain ⟨hpx, hpy, hpz, hax, hay, haz, hbx, hby_, hbz, hcx, hcy, hcz⟩ := id hok
  clear hok
  have HP := hide hpos
  clear hpos
  go_enter Tryz.func23, Tryz.ntmps23
  go_upto_region 1 with (fail)
  have hb0 : Below w.heap.size w ((((w.alloc (.cells #[.int .i64 px, .int .i64 py, .int .i64 pz] 33)).alloc (.cells #[.int .i64 ax, .int .i64 ay, .int .i64 az] 33)).alloc (.cells #[.int .i64 bx, .int .i64 by_, .int .i64 bz] 33)).alloc (.cells #[.int .i64 cx, .int .i64 cy, .int .i64 cz] 33)) := allocs_below w [(.cells #[.int .i64 px, .int .i64 py, .int .i64 pz] 33), (.cells #[.int .i64 ax, .int .i64 ay, .int .i64 az] 33), (.cells #[.int .i64 bx, .int .i64 by_, .int .i64 bz] 33), (.cells #[.int .i64 cx, .int .i64 cy, .int .i64 cz] 33)]
  have s0 : w.heap.size + 4 ≤ ((((w.alloc (.cells #[.int .i64 px, .int .i64 py, .int .i64 pz] 33)).alloc (.cells #[.int .i64 ax, .int .i64 ay, .int .i64 az] 33)).alloc (.cells #[.int .i64 bx, .int .i64 by_, .int .i64 bz] 33)).alloc (.cells #[.int .i64 cx, .int .i64 cy, .int .i64 cz] 33)).heap.size := Nat.le_of_eq (allocs_size w [(.cells #[.int .i64 px, .int .i64 py, .int .i64 pz] 33), (.cells #[.int .i64 ax, .int .i64 ay, .int .i64 az] 33), (.cells #[.int .i64 bx, .int .i64 by_, .int .i64 bz] 33), (.cells #[.int .i64 cx, .int .i64 cy, .int .i64 cz] 33)]).symm
  have kb0 : ((((w.alloc (.cells #[.int .i64 px, .int .i64 py, .int .i64 pz] 33)).alloc (.cells #[.int .i64 ax, .int .i64 ay, .int .i64 az] 33)).alloc (.cells #[.int .i64 bx, .int .i64 by_, .int .i64 bz] 33)).alloc (.cells #[.int .i64 cx, .int .i64 cy, .int .i64 cz] 33)).heap[w.heap.size + 0]? = some (.cells #[.int .i64 px, .int .i64 py, .int .i64 pz] 33) := allocs_at w [(.cells #[.int .i64 px, .int .i64 py, .int .i64 pz] 33), (.cells #[.int .i64 ax, .int .i64 ay, .int .i64 az] 33), (.cells #[.int .i64 bx, .int .i64 by_, .int .i64 bz] 33), (.cells #[.int .i64 cx, .int .i64 cy, .int .i64 cz] 33)] 0 rfl
  have kb1 : ((((w.alloc (.cells #[.int .i64 px, .int .i64 py, .int .i64 pz] 33)).alloc (.cells #[.int .i64 ax, .int .i64 ay, .int .i64 az] 33)).alloc (.cells #[.int .i64 bx, .int .i64 by_, .int .i64 bz] 33)).alloc (.cells #[.int .i64 cx, .int .i64 cy, .int .i64 cz] 33)).heap[w.heap.size + 1]? = some (.cells #[.int .i64 ax, .int .i64 ay, .int .i64 az] 33) := allocs_at w [(.cells #[.int .i64 px, .int .i64 py, .int .i64 pz] 33), (.cells #[.int .i64 ax, .int .i64 ay, .int .i64 az] 33), (.cells #[.int .i64 bx, .int .i64 by_, .int .i64 bz] 33), (.cells #[.int .i64 cx, .int .i64 cy, .int .i64 cz] 33)] 1 rfl
  have kb2 : ((((w.alloc (.cells #[.int .i64 px, .int .i64 py, .int .i64 pz] 33)).alloc (.cells #[.int .i64 ax, .int .i64 ay, .int .i64 az] 33)).alloc (.cells #[.int .i64 bx, .int .i64 by_, .int .i64 bz] 33)).alloc (.cells #[.int .i64 cx, .int .i64 cy, .int .i64 cz] 33)).heap[w.heap.size + 2]? = some (.cells #[.int .i64 bx, .int .i64 by_, .int .i64 bz] 33) := allocs_at w [(.cells #[.int .i64 px, .int .i64 py, .int .i64 pz] 33), (.cells #[.int .i64 ax, .int .i64 ay, .int .i64 az] 33), (.cells #[.int .i64 bx, .int .i64 by_, .int .i64 bz] 33), (.cells #[.int .i64 cx, .int .i64 cy, .int .i64 cz] 33)] 2 rfl
  have kb3 : ((((w.alloc (.cells #[.int .i64 px, .int .i64 py, .int .i64 pz] 33)).alloc (.cells #[.int .i64 ax, .int .i64 ay, .int .i64 az] 33)).alloc (.cells #[.int .i64 bx, .int .i64 by_, .int .i64 bz] 33)).alloc (.cells #[.int .i64 cx, .int .i64 cy, .int .i64 cz] 33)).heap[w.heap.size + 3]? = some (.cells #[.int .i64 cx, .int .i64 cy, .int .i64 cz] 33) := allocs_at w [(.cells #[.int .i64 px, .int .i64 py, .int .i64 pz] 33), (.cells #[.int .i64 ax, .int .i64 ay, .int .i64 az] 33), (.cells #[.int .i64 bx, .int .i64 by_, .int .i64 bz] 33), (.cells #[.int .i64 cx, .int .i64 cy, .int .i64 cz] 33)] 3 rfl
  generalize ((((w.alloc (.cells #[.int .i64 px, .int .i64 py, .int .i64 pz] 33)).alloc (.cells #[.int .i64 ax, .int .i64 ay, .int .i64 az] 33)).alloc (.cells #[.int .i64 bx, .int .i64 by_, .int .i64 bz] 33)).alloc (.cells #[.int .i64 cx, .int .i64 cy, .int .i64 cz] 33)) = w0 at *
  have k0_0 : w0.cell? ⟨w.heap.size, 0, none⟩ = some (.int .i64 px) := (Blk.cell kb0 0).trans rfl
  have k0_1 : w0.cell? ⟨w.heap.size, 1, none⟩ = some (.int .i64 py) := (Blk.cell kb0 1).trans rfl
  have k0_2 : w0.cell? ⟨w.heap.size, 2, none⟩ = some (.int .i64 pz) := (Blk.cell kb0 2).trans rfl
  have k1_0 : w0.cell? ⟨w.heap.size + 1, 0, none⟩ = some (.int .i64 ax) := (Blk.cell kb1 0).trans rfl
  have k1_1 : w0.cell? ⟨w.heap.size + 1, 1, none⟩ = some (.int .i64 ay) := (Blk.cell kb1 1).trans rfl
  have k1_2 : w0.cell? ⟨w.heap.size + 1, 2, none⟩ = some (.int .i64 az) := (Blk.cell kb1 2).trans rfl
  have k2_0 : w0.cell? ⟨w.heap.size + 1 + 1, 0, none⟩ = some (.int .i64 bx) := (Blk.cell kb2 0).trans rfl
  have k2_1 : w0.cell? ⟨w.heap.size + 1 + 1, 1, none⟩ = some (.int .i64 by_) := (Blk.cell kb2 1).trans rfl
  have k2_2 : w0.cell? ⟨w.heap.size + 1 + 1, 2, none⟩ = some (.int .i64 bz) := (Blk.cell kb2 2).trans rfl
  have k3_0 : w0.cell? ⟨w.heap.size + 1 + 1 + 1, 0, none⟩ = some (.int .i64 cx) := (Blk.cell kb3 0).trans rfl
  have k3_1 : w0.cell? ⟨w.heap.size + 1 + 1 + 1, 1, none⟩ = some (.int .i64 cy) := (Blk.cell kb3 1).trans rfl
  have k3_2 : w0.cell? ⟨w.heap.size + 1 + 1 + 1, 2, none⟩ = some (.int .i64 cz) := (Blk.cell kb3 2).trans rfl
  clear kb0 kb1 kb2 kb3
  have SK : ∀ w', Below w0.heap.size w0 w' → Below w0.heap.size w0 w' ∧ w'.cell? ⟨w.heap.size, 0, none⟩ = some (.int .i64 px) ∧ w'.cell? ⟨w.heap.size, 1, none⟩ = some (.int .i64 py) ∧ w'.cell? ⟨w.heap.size, 2, none⟩ = some (.int .i64 pz) ∧ w'.cell? ⟨w.heap.size + 1, 0, none⟩ = some (.int .i64 ax) ∧ w'.cell? ⟨w.heap.size + 1, 1, none⟩ = some (.int .i64 ay) ∧ w'.cell? ⟨w.heap.size + 1, 2, none⟩ = some (.int .i64 az) ∧ w'.cell? ⟨w.heap.size + 1 + 1, 0, none⟩ = some (.int .i64 bx) ∧ w'.cell? ⟨w.heap.size + 1 + 1, 1, none⟩ = some (.int .i64 by_) ∧ w'.cell? ⟨w.heap.size + 1 + 1, 2, none⟩ = some (.int .i64 bz) ∧ w'.cell? ⟨w.heap.size + 1 + 1 + 1, 0, none⟩ = some (.int .i64 cx) ∧ w'.cell? ⟨w.heap.size + 1 + 1 + 1, 1, none⟩ = some (.int .i64 cy) ∧ w'.cell? ⟨w.heap.size + 1 + 1 + 1, 2, none⟩ = some (.int .i64 cz) := fun w' h => ⟨h, (bcell h _ _ (by omega)).trans k0_0, (bcell h _ _ (by omega)).trans k0_1, (bcell h _ _ (by omega)).trans k0_2, (bcell h _ _ (by omega)).trans k1_0, (bcell h _ _ (by omega)).trans k1_1, (bcell h _ _ (by omega)).trans k1_2, (bcell h _ _ (by omega)).trans k2_0, (bcell h _ _ (by omega)).trans k2_1, (bcell h _ _ (by omega)).trans k2_2, (bcell h _ _ (by omega)).trans k3_0, (bcell h _ _ (by omega)).trans k3_1, (bcell h _ _ (by omega)).trans k3_2⟩
  go_wp2_with fail
  refine (alls_any _ _ [(px, py, pz), (ax, ay, az), (bx, by_, bz), (cx, cy, cz)] (Sps4 w0 (px, py, pz) (ax, ay, az) (bx, by_, bz) (cx, cy, cz) _ _) (by simp)).mono ?_
  rintro e w1 ⟨rfl, hb1⟩
  have hb1' := (allocs_below w0 [_]).trans (hb1.mono (by simp))
  rw [hchk]
  have hL1 : Below w0.heap.size w0 w1 := hb1'
  obtain ⟨-, c1_0, c1_1, c1_2, c1_3, c1_4, c1_5, c1_6, c1_7, c1_8, c1_9, c1_10, c1_11⟩ := SK _ hL1
  go_wp2_with fail
  refine (normal_any _ ax ay az bx by_ bz cx cy cz hax hay haz hbx hby_ hbz hcx hcy hcz).mono ?_
  rw [hU, hV, hZ]
  rintro e w2 ⟨rfl, hb2⟩
  have hL2 : Below w0.heap.size w0 w2 := hL1.trans (hb2.mono hL1.size)
  obtain ⟨-, c2_0, c2_1, c2_2, c2_3, c2_4, c2_5, c2_6, c2_7, c2_8, c2_9, c2_10, c2_11⟩ := SK _ hL2
  go_upto_region 5 with (fail)
  have hL3 : Below w0.heap.size w0 (w2.alloc (.cells #[.int .i64 U, .int .i64 V, .int .i64 Z] 99)) := hL2.alloc hL2.size _
  have hA3 := Blk.new w2 99 #[.int .i64 U, .int .i64 V, .int .i64 Z]
  have sA3 : w2.heap.size < (w2.alloc (.cells #[.int .i64 U, .int .i64 V, .int .i64 Z] 99)).heap.size := by simp
  have kA3_0 : (w2.alloc (.cells #[.int .i64 U, .int .i64 V, .int .i64 Z] 99)).cell? ⟨w2.heap.size, 0, none⟩ = some (.int .i64 (U)) := (Blk.cell hA3 0).trans rfl
  have kA3_1 : (w2.alloc (.cells #[.int .i64 U, .int .i64 V, .int .i64 Z] 99)).cell? ⟨w2.heap.size, 1, none⟩ = some (.int .i64 (V)) := (Blk.cell hA3 1).trans rfl
  have kA3_2 : (w2.alloc (.cells #[.int .i64 U, .int .i64 V, .int .i64 Z] 99)).cell? ⟨w2.heap.size, 2, none⟩ = some (.int .i64 (Z)) := (Blk.cell hA3 2).trans rfl
  have fA3_0 : (w2.alloc (.cells #[.int .i64 U, .int .i64 V, .int .i64 Z] 99)).frozen? ⟨w2.heap.size, 0, none⟩ = false := Blk.frozen hA3 0
  have fA3_1 : (w2.alloc (.cells #[.int .i64 U, .int .i64 V, .int .i64 Z] 99)).frozen? ⟨w2.heap.size, 1, none⟩ = false := Blk.frozen hA3 1
  have fA3_2 : (w2.alloc (.cells #[.int .i64 U, .int .i64 V, .int .i64 Z] 99)).frozen? ⟨w2.heap.size, 2, none⟩ = false := Blk.frozen hA3 2
  have gA3 : Below w2.heap.size w2 (w2.alloc (.cells #[.int .i64 U, .int .i64 V, .int .i64 Z] 99)) := (Below.refl _ _).alloc (Nat.le_refl _) _
  generalize (w2.alloc (.cells #[.int .i64 U, .int .i64 V, .int .i64 Z] 99)) = w3 at *
  have c3_0 := (bcell gA3 _ _ (block_lt_of_cell c2_0)).trans c2_0
  have c3_1 := (bcell gA3 _ _ (block_lt_of_cell c2_1)).trans c2_1
  have c3_2 := (bcell gA3 _ _ (block_lt_of_cell c2_2)).trans c2_2
  have c3_3 := (bcell gA3 _ _ (block_lt_of_cell c2_3)).trans c2_3
  have c3_4 := (bcell gA3 _ _ (block_lt_of_cell c2_4)).trans c2_4
  have c3_5 := (bcell gA3 _ _ (block_lt_of_cell c2_5)).trans c2_5
  have c3_6 := (bcell gA3 _ _ (block_lt_of_cell c2_6)).trans c2_6
  have c3_7 := (bcell gA3 _ _ (block_lt_of_cell c2_7)).trans c2_7
  have c3_8 := (bcell gA3 _ _ (block_lt_of_cell c2_8)).trans c2_8
  have c3_9 := (bcell gA3 _ _ (block_lt_of_cell c2_9)).trans c2_9
  have c3_10 := (bcell gA3 _ _ (block_lt_of_cell c2_10)).trans c2_10
  have c3_11 := (bcell gA3 _ _ (block_lt_of_cell c2_11)).trans c2_11
  go_upto_region 8 with (fail)
  go_wp2_with fail
  have hL4 : Below w0.heap.size w0 (w3.alloc (.cells #[.int .i64 U, .int .i64 V, .int .i64 Z] 3)) := hL3.alloc hL3.size _
  have hA4 := Blk.new w3 3 #[.int .i64 U, .int .i64 V, .int .i64 Z]
  have sA4 : w3.heap.size < (w3.alloc (.cells #[.int .i64 U, .int .i64 V, .int .i64 Z] 3)).heap.size := by simp
  have kA4_0 : (w3.alloc (.cells #[.int .i64 U, .int .i64 V, .int .i64 Z] 3)).cell? ⟨w3.heap.size, 0, none⟩ = some (.int .i64 (U)) := (Blk.cell hA4 0).trans rfl
  have kA4_1 : (w3.alloc (.cells #[.int .i64 U, .int .i64 V, .int .i64 Z] 3)).cell? ⟨w3.heap.size, 1, none⟩ = some (.int .i64 (V)) := (Blk.cell hA4 1).trans rfl
  have kA4_2 : (w3.alloc (.cells #[.int .i64 U, .int .i64 V, .int .i64 Z] 3)).cell? ⟨w3.heap.size, 2, none⟩ = some (.int .i64 (Z)) := (Blk.cell hA4 2).trans rfl
  have fA4_0 : (w3.alloc (.cells #[.int .i64 U, .int .i64 V, .int .i64 Z] 3)).frozen? ⟨w3.heap.size, 0, none⟩ = false := Blk.frozen hA4 0
  have fA4_1 : (w3.alloc (.cells #[.int .i64 U, .int .i64 V, .int .i64 Z] 3)).frozen? ⟨w3.heap.size, 1, none⟩ = false := Blk.frozen hA4 1
  have fA4_2 : (w3.alloc (.cells #[.int .i64 U, .int .i64 V, .int .i64 Z] 3)).frozen? ⟨w3.heap.size, 2, none⟩ = false := Blk.frozen hA4 2
  have gA4 : Below w3.heap.size w3 (w3.alloc (.cells #[.int .i64 U, .int .i64 V, .int .i64 Z] 3)) := (Below.refl _ _).alloc (Nat.le_refl _) _
  generalize (w3.alloc (.cells #[.int .i64 U, .int .i64 V, .int .i64 Z] 3)) = w4 at *
  have c4_0 := (bcell gA4 _ _ (block_lt_of_cell c3_0)).trans c3_0
  have c4_1 := (bcell gA4 _ _ (block_lt_of_cell c3_1)).trans c3_1
  have c4_2 := (bcell gA4 _ _ (block_lt_of_cell c3_2)).trans c3_2
  have c4_3 := (bcell gA4 _ _ (block_lt_of_cell c3_3)).trans c3_3
  have c4_4 := (bcell gA4 _ _ (block_lt_of_cell c3_4)).trans c3_4
  have c4_5 := (bcell gA4 _ _ (block_lt_of_cell c3_5)).trans c3_5
  have c4_6 := (bcell gA4 _ _ (block_lt_of_cell c3_6)).trans c3_6
  have c4_7 := (bcell gA4 _ _ (block_lt_of_cell c3_7)).trans c3_7
  have c4_8 := (bcell gA4 _ _ (block_lt_of_cell c3_8)).trans c3_8
  have c4_9 := (bcell gA4 _ _ (block_lt_of_cell c3_9)).trans c3_9
  have c4_10 := (bcell gA4 _ _ (block_lt_of_cell c3_10)).trans c3_10
  have c4_11 := (bcell gA4 _ _ (block_lt_of_cell c3_11)).trans c3_11
  have c4_12 := (bcell gA4 _ _ (block_lt_of_cell kA3_0)).trans kA3_0
  have c4_13 := (bcell gA4 _ _ (block_lt_of_cell kA3_1)).trans kA3_1
  have c4_14 := (bcell gA4 _ _ (block_lt_of_cell kA3_2)).trans kA3_2
  have q4 : w0.heap.size ≤ w4.heap.size := hL4.size
  have HB0 := hide hb0
  have HL4 := hide hL4
  have HNU := hide (nth3_nf nU nV nZ)
  have HSB := hide (sq3_bound nU nV nZ)
  clear nU nV nZ
  go_loopg [12, 41] 3 (fun k s i wr => ∃ j : Nat, i = .int .i64 (j : Int) ∧ k + j = 3 ∧ s = .string ⟨(T (sq3 U V Z j)).toArray⟩ ∧ Below w4.heap.size w4 wr)
  case atStart => exact ⟨0, rfl, rfl, by rw [sq3, T_zero], Below.refl _ _⟩
  case round =>
    obtain ⟨j, rfl, hk, rfl, hb⟩ := hrel
    have HK := hide hk
    have HB := hide hb
    have HW := hide (hb0.trans ((hL4.trans (hb.mono q4)).mono hb0.size))
    by_cases hlt : j < 3
    · have hji : (j : Int) < 3 := by omega
      have hc : wr.cell? ⟨w3.heap.size, j, none⟩ = some (.int .i64 (nth3 U V Z j)) := by
        match j, hlt with
        | 0, _ => exact (bcell hb _ _ sA4).trans kA4_0
        | 1, _ => exact (bcell hb _ _ sA4).trans kA4_1
        | 2, _ => exact (bcell hb _ _ sA4).trans kA4_2
      have hx := HNU.out j
      have hq0 := HSB.out j
      have hq1 := HSB.out (j + 1)
      rw [sq3] at hq1
      have hxx := mulB hx hx
      have hsn := sq_nn (nth3 U V Z j)
      have X0 := hide (p := -9223372036854775808 ≤ nth3 U V Z j) (by omega)
      have X1 := hide (p := nth3 U V Z j ≤ 9223372036854775807) (by omega)
      have XB := hide (small_big X0.out X1.out)
      have Y0 := hide (big_of (z := sq3 U V Z j) (by omega))
      have Y1 := hide (big_of (z := nth3 U V Z j * nth3 U V Z j) (by omega))
      have Y2 := hide (big_of (z := sq3 U V Z j + nth3 U V Z j * nth3 U V Z j) (by omega))
      have hs1 : sq3 U V Z (j + 1) = sq3 U V Z j + nth3 U V Z j * nth3 U V Z j := rfl
      have HS1 := hide hs1
      clear hx hq0 hq1 hxx hsn hk hb hs1
      generalize nth3 U V Z j = x at *
      generalize hsj : sq3 U V Z j = y at *
      have hsj := hide hsj
      go_wp2_with fail
      refine (of_any x X0.out X1.out _ (HS.out.below HW.out (Nat.le_refl _))).mono ?_
      rintro e v1 ⟨rfl, hv1⟩
      have K1 := hide (HW.out.trans (hv1.mono HW.out.size))
      have M1 := hide hv1
      clear hv1
      go_wp2_with fail
      refine (of_any x X0.out X1.out _ (HS.out.below K1.out (Nat.le_refl _))).mono ?_
      rintro e v2 ⟨rfl, hv2⟩
      have K2 := hide (K1.out.trans (hv2.mono K1.out.size))
      have M2 := hide (M1.out.trans (hv2.mono M1.out.size))
      clear hv2
      go_wp2_with fail
      refine (mul_any _ _ _ x x ⟨rfl, rfl, XB.out, XB.out⟩ (HS.out.below K2.out (Nat.le_refl _))).mono ?_
      rintro e v3 ⟨he, hv3⟩
      rw [RetLim, lim_ok Y1.out] at he
      subst he
      have K3 := hide (K2.out.trans (hv3.mono K2.out.size))
      have M3 := hide (M2.out.trans (hv3.mono M2.out.size))
      clear hv3
      go_wp2_with fail
      refine (add_any _ _ _ y (x * x) ⟨rfl, rfl, Y0.out, Y1.out⟩ (HS.out.below K3.out (Nat.le_refl _))).mono ?_
      rintro e v4 ⟨he, hv4⟩
      rw [RetLim, lim_ok Y2.out] at he
      subst he
      have M4 := hide (M3.out.trans (hv4.mono M3.out.size))
      clear hv4
      go_wp2_with fail
      go_roundg (gk - 1)
      case measure => have := HK.out; omega
      case rel =>
        exact ⟨j + 1, by go_num, by have := HK.out; omega, by rw [HS1.out], HB.out.trans (M4.out.mono HB.out.size)⟩
    · have hj3 : j = 3 := by omega
      subst hj3
      have hji : ¬ ((3 : Nat) : Int) < 3 := by omega
      rw [sq3_three]
      have c9_0 := (bcell hb _ _ (block_lt_of_cell c4_0)).trans c4_0
      have c9_1 := (bcell hb _ _ (block_lt_of_cell c4_1)).trans c4_1
      have c9_2 := (bcell hb _ _ (block_lt_of_cell c4_2)).trans c4_2
      have c9_3 := (bcell hb _ _ (block_lt_of_cell c4_3)).trans c4_3
      have c9_4 := (bcell hb _ _ (block_lt_of_cell c4_4)).trans c4_4
      have c9_5 := (bcell hb _ _ (block_lt_of_cell c4_5)).trans c4_5
      have c9_6 := (bcell hb _ _ (block_lt_of_cell c4_6)).trans c4_6
      have c9_7 := (bcell hb _ _ (block_lt_of_cell c4_7)).trans c4_7
      have c9_8 := (bcell hb _ _ (block_lt_of_cell c4_8)).trans c4_8
      have c9_9 := (bcell hb _ _ (block_lt_of_cell c4_9)).trans c4_9
      have c9_10 := (bcell hb _ _ (block_lt_of_cell c4_10)).trans c4_10
      have c9_11 := (bcell hb _ _ (block_lt_of_cell c4_11)).trans c4_11
      have c9_12 := (bcell hb _ _ (block_lt_of_cell c4_12)).trans c4_12
      have c9_13 := (bcell hb _ _ (block_lt_of_cell c4_13)).trans c4_13
      have c9_14 := (bcell hb _ _ (block_lt_of_cell c4_14)).trans c4_14
      have c9_15 := (bcell hb _ _ (block_lt_of_cell kA4_0)).trans kA4_0
      have c9_16 := (bcell hb _ _ (block_lt_of_cell kA4_1)).trans kA4_1
      have c9_17 := (bcell hb _ _ (block_lt_of_cell kA4_2)).trans kA4_2
      have hL9 : Below w0.heap.size w0 wr := hL4.trans (hb.mono q4)
      have D0 := hide (p := U * U + V * V + Z * Z ≠ 0) (by have := HP.out; omega)
      have D1 := HSB.out 3
      rw [sq3_three] at D1
      have D2 := hide (big_of (z := U * U + V * V + Z * Z) (by omega))
      obtain ⟨m0a, m0b⟩ := mulB (x := U) (y := px - ax) (M := 80000000000) (N := 200000) (HNU.out 0) (by omega)
      obtain ⟨m1a, m1b⟩ := mulB (x := V) (y := py - ay) (M := 80000000000) (N := 200000) (HNU.out 1) (by omega)
      obtain ⟨m2a, m2b⟩ := mulB (x := Z) (y := pz - az) (M := 80000000000) (N := 200000) (HNU.out 2) (by omega)
      have D3 := hide (p := (U * (px - ax) + V * (py - ay) + Z * (pz - az)).natAbs ≤ 100000000000000000) (by omega)
      clear D1 m0a m0b m1a m1b m2a m2b
      generalize hS : U * U + V * V + Z * Z = S at *
      have hS := hide hS
      go_upto_region 18 with (fail)
      have q9 : w0.heap.size ≤ wr.heap.size := hL9.size
      have SQ9 : ∀ w', Below wr.heap.size wr w' → Below wr.heap.size wr w' ∧ w'.cell? ⟨w.heap.size, 0, none⟩ = some (.int .i64 px) ∧ w'.cell? ⟨w.heap.size, 1, none⟩ = some (.int .i64 py) ∧ w'.cell? ⟨w.heap.size, 2, none⟩ = some (.int .i64 pz) ∧ w'.cell? ⟨w.heap.size + 1, 0, none⟩ = some (.int .i64 ax) ∧ w'.cell? ⟨w.heap.size + 1, 1, none⟩ = some (.int .i64 ay) ∧ w'.cell? ⟨w.heap.size + 1, 2, none⟩ = some (.int .i64 az) ∧ w'.cell? ⟨w.heap.size + 1 + 1, 0, none⟩ = some (.int .i64 bx) ∧ w'.cell? ⟨w.heap.size + 1 + 1, 1, none⟩ = some (.int .i64 by_) ∧ w'.cell? ⟨w.heap.size + 1 + 1, 2, none⟩ = some (.int .i64 bz) ∧ w'.cell? ⟨w.heap.size + 1 + 1 + 1, 0, none⟩ = some (.int .i64 cx) ∧ w'.cell? ⟨w.heap.size + 1 + 1 + 1, 1, none⟩ = some (.int .i64 cy) ∧ w'.cell? ⟨w.heap.size + 1 + 1 + 1, 2, none⟩ = some (.int .i64 cz) ∧ w'.cell? ⟨w2.heap.size, 0, none⟩ = some (.int .i64 (U)) ∧ w'.cell? ⟨w2.heap.size, 1, none⟩ = some (.int .i64 (V)) ∧ w'.cell? ⟨w2.heap.size, 2, none⟩ = some (.int .i64 (Z)) := fun w' h => ⟨h, (bcell h _ _ (block_lt_of_cell c9_0)).trans c9_0, (bcell h _ _ (block_lt_of_cell c9_1)).trans c9_1, (bcell h _ _ (block_lt_of_cell c9_2)).trans c9_2, (bcell h _ _ (block_lt_of_cell c9_3)).trans c9_3, (bcell h _ _ (block_lt_of_cell c9_4)).trans c9_4, (bcell h _ _ (block_lt_of_cell c9_5)).trans c9_5, (bcell h _ _ (block_lt_of_cell c9_6)).trans c9_6, (bcell h _ _ (block_lt_of_cell c9_7)).trans c9_7, (bcell h _ _ (block_lt_of_cell c9_8)).trans c9_8, (bcell h _ _ (block_lt_of_cell c9_9)).trans c9_9, (bcell h _ _ (block_lt_of_cell c9_10)).trans c9_10, (bcell h _ _ (block_lt_of_cell c9_11)).trans c9_11, (bcell h _ _ (block_lt_of_cell c9_12)).trans c9_12, (bcell h _ _ (block_lt_of_cell c9_13)).trans c9_13, (bcell h _ _ (block_lt_of_cell c9_14)).trans c9_14⟩
      go_region_held3 (fun w' => Below wr.heap.size wr w' ∧ w'.cell? ⟨w.heap.size, 0, none⟩ = some (.int .i64 px) ∧ w'.cell? ⟨w.heap.size, 1, none⟩ = some (.int .i64 py) ∧ w'.cell? ⟨w.heap.size, 2, none⟩ = some (.int .i64 pz) ∧ w'.cell? ⟨w.heap.size + 1, 0, none⟩ = some (.int .i64 ax) ∧ w'.cell? ⟨w.heap.size + 1, 1, none⟩ = some (.int .i64 ay) ∧ w'.cell? ⟨w.heap.size + 1, 2, none⟩ = some (.int .i64 az) ∧ w'.cell? ⟨w.heap.size + 1 + 1, 0, none⟩ = some (.int .i64 bx) ∧ w'.cell? ⟨w.heap.size + 1 + 1, 1, none⟩ = some (.int .i64 by_) ∧ w'.cell? ⟨w.heap.size + 1 + 1, 2, none⟩ = some (.int .i64 bz) ∧ w'.cell? ⟨w.heap.size + 1 + 1 + 1, 0, none⟩ = some (.int .i64 cx) ∧ w'.cell? ⟨w.heap.size + 1 + 1 + 1, 1, none⟩ = some (.int .i64 cy) ∧ w'.cell? ⟨w.heap.size + 1 + 1 + 1, 2, none⟩ = some (.int .i64 cz) ∧ w'.cell? ⟨w2.heap.size, 0, none⟩ = some (.int .i64 (U)) ∧ w'.cell? ⟨w2.heap.size, 1, none⟩ = some (.int .i64 (V)) ∧ w'.cell? ⟨w2.heap.size, 2, none⟩ = some (.int .i64 (Z))) (first | exact SQ9 _ (Below.refl _ _).drew | exact SQ9 _ (bel_next (by assumption) (by assumption) (Nat.le_refl _)))
        (first
          | (go_at_call 72; refine (reach_any _ ax ay az px py pz hax hay haz hpx hpy hpz).mono ?_; rintro e w9 ⟨rfl, hbW⟩)
          | (go_at_call 71; refine (bdot_any _ U V Z (px - ax) (py - ay) (pz - az) (HNU.out 0) (HNU.out 1) (HNU.out 2) (by omega) (by omega) (by omega)).mono ?_; rintro e w9 ⟨rfl, hbW⟩)
          | (go_at_call 57; refine (squared_any _ (U * (px - ax) + V * (py - ay) + Z * (pz - az)) _ S D3.out rfl D0.out D2.out (HS.out.below (HW.out.trans (Below.mono (And.left (by assumption)) HW.out.size)) (Nat.le_refl _))).mono ?_; rintro e w9 ⟨rfl, hbW⟩; rw [RR]))
      obtain ⟨hH10, c10_0, c10_1, c10_2, c10_3, c10_4, c10_5, c10_6, c10_7, c10_8, c10_9, c10_10, c10_11, c10_12, c10_13, c10_14⟩ : Below wr.heap.size wr w9 ∧ w9.cell? ⟨w.heap.size, 0, none⟩ = some (.int .i64 px) ∧ w9.cell? ⟨w.heap.size, 1, none⟩ = some (.int .i64 py) ∧ w9.cell? ⟨w.heap.size, 2, none⟩ = some (.int .i64 pz) ∧ w9.cell? ⟨w.heap.size + 1, 0, none⟩ = some (.int .i64 ax) ∧ w9.cell? ⟨w.heap.size + 1, 1, none⟩ = some (.int .i64 ay) ∧ w9.cell? ⟨w.heap.size + 1, 2, none⟩ = some (.int .i64 az) ∧ w9.cell? ⟨w.heap.size + 1 + 1, 0, none⟩ = some (.int .i64 bx) ∧ w9.cell? ⟨w.heap.size + 1 + 1, 1, none⟩ = some (.int .i64 by_) ∧ w9.cell? ⟨w.heap.size + 1 + 1, 2, none⟩ = some (.int .i64 bz) ∧ w9.cell? ⟨w.heap.size + 1 + 1 + 1, 0, none⟩ = some (.int .i64 cx) ∧ w9.cell? ⟨w.heap.size + 1 + 1 + 1, 1, none⟩ = some (.int .i64 cy) ∧ w9.cell? ⟨w.heap.size + 1 + 1 + 1, 2, none⟩ = some (.int .i64 cz) ∧ w9.cell? ⟨w2.heap.size, 0, none⟩ = some (.int .i64 (U)) ∧ w9.cell? ⟨w2.heap.size, 1, none⟩ = some (.int .i64 (V)) ∧ w9.cell? ⟨w2.heap.size, 2, none⟩ = some (.int .i64 (Z)) := by assumption
      have hL10 : Below w0.heap.size w0 w9 := hL9.trans (hH10.mono hL9.size)
      go_wp2_with fail
      go_ret2
      exact ⟨by rw [hS.out]; rfl, hb0.trans (hL10.mono hb0.size)⟩

set_option maxRecDepth 100000 in
set_option maxHeartbeats 4000000 in
theorem plane_two (w : World) (px py pz ax ay az bx by_ bz cx cy cz U V Z : Int) (hs : Std w) (hok : Co px ∧ Co py ∧ Co pz ∧ Co ax ∧ Co ay ∧ Co az ∧ Co bx ∧ Co by_ ∧ Co bz ∧ Co cx ∧ Co cy ∧ Co cz) (hU : (by_ - ay) * (cz - az) - (bz - az) * (cy - ay) = U) (hV : (bz - az) * (cx - ax) - (bx - ax) * (cz - az) = V) (hZ : (bx - ax) * (cy - ay) - (by_ - ay) * (cx - ax) = Z) (nU : Nf U) (nV : Nf V) (nZ : Nf Z) (_z1 : (U = 0) = True) (z2 : (V = 0) = False) (hpos : 0 < U * U + V * V + Z * Z) :
    Calls Tryz.prog 23 #[.agg #[.int .i64 px, .int .i64 py, .int .i64 pz], .agg #[.int .i64 ax, .int .i64 ay, .int .i64 az], .agg #[.int .i64 bx, .int .i64 by_, .int .i64 bz], .agg #[.int .i64 cx, .int .i64 cy, .int .i64 cz]] w fun e w' => e = .returned (RR (.ok (Rat.divInt ((U * (px - ax) + V * (py - ay) + Z * (pz - az)) * (U * (px - ax) + V * (py - ay) + Z * (pz - az))) (U * U + V * V + Z * Z)))) ∧ Below w.heap.size w w' := by
  have HS := hide hs
  clear hs
  have hchk : chkSps [(px, py, pz), (ax, ay, az), (bx, by_, bz), (cx, cy, cz)] = 0 := by simp [chkSps, okSps, hok]
  obtain ⟨hpx, hpy, hpz, hax, hay, haz, hbx, hby_, hbz, hcx, hcy, hcz⟩ := id hok
  clear hok
  have HP := hide hpos
  clear hpos
  go_enter Tryz.func23, Tryz.ntmps23
  go_upto_region 1 with (fail)
  have hb0 : Below w.heap.size w ((((w.alloc (.cells #[.int .i64 px, .int .i64 py, .int .i64 pz] 33)).alloc (.cells #[.int .i64 ax, .int .i64 ay, .int .i64 az] 33)).alloc (.cells #[.int .i64 bx, .int .i64 by_, .int .i64 bz] 33)).alloc (.cells #[.int .i64 cx, .int .i64 cy, .int .i64 cz] 33)) := allocs_below w [(.cells #[.int .i64 px, .int .i64 py, .int .i64 pz] 33), (.cells #[.int .i64 ax, .int .i64 ay, .int .i64 az] 33), (.cells #[.int .i64 bx, .int .i64 by_, .int .i64 bz] 33), (.cells #[.int .i64 cx, .int .i64 cy, .int .i64 cz] 33)]
  have s0 : w.heap.size + 4 ≤ ((((w.alloc (.cells #[.int .i64 px, .int .i64 py, .int .i64 pz] 33)).alloc (.cells #[.int .i64 ax, .int .i64 ay, .int .i64 az] 33)).alloc (.cells #[.int .i64 bx, .int .i64 by_, .int .i64 bz] 33)).alloc (.cells #[.int .i64 cx, .int .i64 cy, .int .i64 cz] 33)).heap.size := Nat.le_of_eq (allocs_size w [(.cells #[.int .i64 px, .int .i64 py, .int .i64 pz] 33), (.cells #[.int .i64 ax, .int .i64 ay, .int .i64 az] 33), (.cells #[.int .i64 bx, .int .i64 by_, .int .i64 bz] 33), (.cells #[.int .i64 cx, .int .i64 cy, .int .i64 cz] 33)]).symm
  have kb0 : ((((w.alloc (.cells #[.int .i64 px, .int .i64 py, .int .i64 pz] 33)).alloc (.cells #[.int .i64 ax, .int .i64 ay, .int .i64 az] 33)).alloc (.cells #[.int .i64 bx, .int .i64 by_, .int .i64 bz] 33)).alloc (.cells #[.int .i64 cx, .int .i64 cy, .int .i64 cz] 33)).heap[w.heap.size + 0]? = some (.cells #[.int .i64 px, .int .i64 py, .int .i64 pz] 33) := allocs_at w [(.cells #[.int .i64 px, .int .i64 py, .int .i64 pz] 33), (.cells #[.int .i64 ax, .int .i64 ay, .int .i64 az] 33), (.cells #[.int .i64 bx, .int .i64 by_, .int .i64 bz] 33), (.cells #[.int .i64 cx, .int .i64 cy, .int .i64 cz] 33)] 0 rfl
  have kb1 : ((((w.alloc (.cells #[.int .i64 px, .int .i64 py, .int .i64 pz] 33)).alloc (.cells #[.int .i64 ax, .int .i64 ay, .int .i64 az] 33)).alloc (.cells #[.int .i64 bx, .int .i64 by_, .int .i64 bz] 33)).alloc (.cells #[.int .i64 cx, .int .i64 cy, .int .i64 cz] 33)).heap[w.heap.size + 1]? = some (.cells #[.int .i64 ax, .int .i64 ay, .int .i64 az] 33) := allocs_at w [(.cells #[.int .i64 px, .int .i64 py, .int .i64 pz] 33), (.cells #[.int .i64 ax, .int .i64 ay, .int .i64 az] 33), (.cells #[.int .i64 bx, .int .i64 by_, .int .i64 bz] 33), (.cells #[.int .i64 cx, .int .i64 cy, .int .i64 cz] 33)] 1 rfl
  have kb2 : ((((w.alloc (.cells #[.int .i64 px, .int .i64 py, .int .i64 pz] 33)).alloc (.cells #[.int .i64 ax, .int .i64 ay, .int .i64 az] 33)).alloc (.cells #[.int .i64 bx, .int .i64 by_, .int .i64 bz] 33)).alloc (.cells #[.int .i64 cx, .int .i64 cy, .int .i64 cz] 33)).heap[w.heap.size + 2]? = some (.cells #[.int .i64 bx, .int .i64 by_, .int .i64 bz] 33) := allocs_at w [(.cells #[.int .i64 px, .int .i64 py, .int .i64 pz] 33), (.cells #[.int .i64 ax, .int .i64 ay, .int .i64 az] 33), (.cells #[.int .i64 bx, .int .i64 by_, .int .i64 bz] 33), (.cells #[.int .i64 cx, .int .i64 cy, .int .i64 cz] 33)] 2 rfl
  have kb3 : ((((w.alloc (.cells #[.int .i64 px, .int .i64 py, .int .i64 pz] 33)).alloc (.cells #[.int .i64 ax, .int .i64 ay, .int .i64 az] 33)).alloc (.cells #[.int .i64 bx, .int .i64 by_, .int .i64 bz] 33)).alloc (.cells #[.int .i64 cx, .int .i64 cy, .int .i64 cz] 33)).heap[w.heap.size + 3]? = some (.cells #[.int .i64 cx, .int .i64 cy, .int .i64 cz] 33) := allocs_at w [(.cells #[.int .i64 px, .int .i64 py, .int .i64 pz] 33), (.cells #[.int .i64 ax, .int .i64 ay, .int .i64 az] 33), (.cells #[.int .i64 bx, .int .i64 by_, .int .i64 bz] 33), (.cells #[.int .i64 cx, .int .i64 cy, .int .i64 cz] 33)] 3 rfl
  generalize ((((w.alloc (.cells #[.int .i64 px, .int .i64 py, .int .i64 pz] 33)).alloc (.cells #[.int .i64 ax, .int .i64 ay, .int .i64 az] 33)).alloc (.cells #[.int .i64 bx, .int .i64 by_, .int .i64 bz] 33)).alloc (.cells #[.int .i64 cx, .int .i64 cy, .int .i64 cz] 33)) = w0 at *
  have k0_0 : w0.cell? ⟨w.heap.size, 0, none⟩ = some (.int .i64 px) := (Blk.cell kb0 0).trans rfl
  have k0_1 : w0.cell? ⟨w.heap.size, 1, none⟩ = some (.int .i64 py) := (Blk.cell kb0 1).trans rfl
  have k0_2 : w0.cell? ⟨w.heap.size, 2, none⟩ = some (.int .i64 pz) := (Blk.cell kb0 2).trans rfl
  have k1_0 : w0.cell? ⟨w.heap.size + 1, 0, none⟩ = some (.int .i64 ax) := (Blk.cell kb1 0).trans rfl
  have k1_1 : w0.cell? ⟨w.heap.size + 1, 1, none⟩ = some (.int .i64 ay) := (Blk.cell kb1 1).trans rfl
  have k1_2 : w0.cell? ⟨w.heap.size + 1, 2, none⟩ = some (.int .i64 az) := (Blk.cell kb1 2).trans rfl
  have k2_0 : w0.cell? ⟨w.heap.size + 1 + 1, 0, none⟩ = some (.int .i64 bx) := (Blk.cell kb2 0).trans rfl
  have k2_1 : w0.cell? ⟨w.heap.size + 1 + 1, 1, none⟩ = some (.int .i64 by_) := (Blk.cell kb2 1).trans rfl
  have k2_2 : w0.cell? ⟨w.heap.size + 1 + 1, 2, none⟩ = some (.int .i64 bz) := (Blk.cell kb2 2).trans rfl
  have k3_0 : w0.cell? ⟨w.heap.size + 1 + 1 + 1, 0, none⟩ = some (.int .i64 cx) := (Blk.cell kb3 0).trans rfl
  have k3_1 : w0.cell? ⟨w.heap.size + 1 + 1 + 1, 1, none⟩ = some (.int .i64 cy) := (Blk.cell kb3 1).trans rfl
  have k3_2 : w0.cell? ⟨w.heap.size + 1 + 1 + 1, 2, none⟩ = some (.int .i64 cz) := (Blk.cell kb3 2).trans rfl
  clear kb0 kb1 kb2 kb3
  have SK : ∀ w', Below w0.heap.size w0 w' → Below w0.heap.size w0 w' ∧ w'.cell? ⟨w.heap.size, 0, none⟩ = some (.int .i64 px) ∧ w'.cell? ⟨w.heap.size, 1, none⟩ = some (.int .i64 py) ∧ w'.cell? ⟨w.heap.size, 2, none⟩ = some (.int .i64 pz) ∧ w'.cell? ⟨w.heap.size + 1, 0, none⟩ = some (.int .i64 ax) ∧ w'.cell? ⟨w.heap.size + 1, 1, none⟩ = some (.int .i64 ay) ∧ w'.cell? ⟨w.heap.size + 1, 2, none⟩ = some (.int .i64 az) ∧ w'.cell? ⟨w.heap.size + 1 + 1, 0, none⟩ = some (.int .i64 bx) ∧ w'.cell? ⟨w.heap.size + 1 + 1, 1, none⟩ = some (.int .i64 by_) ∧ w'.cell? ⟨w.heap.size + 1 + 1, 2, none⟩ = some (.int .i64 bz) ∧ w'.cell? ⟨w.heap.size + 1 + 1 + 1, 0, none⟩ = some (.int .i64 cx) ∧ w'.cell? ⟨w.heap.size + 1 + 1 + 1, 1, none⟩ = some (.int .i64 cy) ∧ w'.cell? ⟨w.heap.size + 1 + 1 + 1, 2, none⟩ = some (.int .i64 cz) := fun w' h => ⟨h, (bcell h _ _ (by omega)).trans k0_0, (bcell h _ _ (by omega)).trans k0_1, (bcell h _ _ (by omega)).trans k0_2, (bcell h _ _ (by omega)).trans k1_0, (bcell h _ _ (by omega)).trans k1_1, (bcell h _ _ (by omega)).trans k1_2, (bcell h _ _ (by omega)).trans k2_0, (bcell h _ _ (by omega)).trans k2_1, (bcell h _ _ (by omega)).trans k2_2, (bcell h _ _ (by omega)).trans k3_0, (bcell h _ _ (by omega)).trans k3_1, (bcell h _ _ (by omega)).trans k3_2⟩
  go_wp2_with fail
  refine (alls_any _ _ [(px, py, pz), (ax, ay, az), (bx, by_, bz), (cx, cy, cz)] (Sps4 w0 (px, py, pz) (ax, ay, az) (bx, by_, bz) (cx, cy, cz) _ _) (by simp)).mono ?_
  rintro e w1 ⟨rfl, hb1⟩
  have hb1' := (allocs_below w0 [_]).trans (hb1.mono (by simp))
  rw [hchk]
  have hL1 : Below w0.heap.size w0 w1 := hb1'
  obtain ⟨-, c1_0, c1_1, c1_2, c1_3, c1_4, c1_5, c1_6, c1_7, c1_8, c1_9, c1_10, c1_11⟩ := SK _ hL1
  go_wp2_with fail
  refine (normal_any _ ax ay az bx by_ bz cx cy cz hax hay haz hbx hby_ hbz hcx hcy hcz).mono ?_
  rw [hU, hV, hZ]
  rintro e w2 ⟨rfl, hb2⟩
  have hL2 : Below w0.heap.size w0 w2 := hL1.trans (hb2.mono hL1.size)
  obtain ⟨-, c2_0, c2_1, c2_2, c2_3, c2_4, c2_5, c2_6, c2_7, c2_8, c2_9, c2_10, c2_11⟩ := SK _ hL2
  go_upto_region 5 with (fail)
  have hL3 : Below w0.heap.size w0 (w2.alloc (.cells #[.int .i64 U, .int .i64 V, .int .i64 Z] 99)) := hL2.alloc hL2.size _
  have hA3 := Blk.new w2 99 #[.int .i64 U, .int .i64 V, .int .i64 Z]
  have sA3 : w2.heap.size < (w2.alloc (.cells #[.int .i64 U, .int .i64 V, .int .i64 Z] 99)).heap.size := by simp
  have kA3_0 : (w2.alloc (.cells #[.int .i64 U, .int .i64 V, .int .i64 Z] 99)).cell? ⟨w2.heap.size, 0, none⟩ = some (.int .i64 (U)) := (Blk.cell hA3 0).trans rfl
  have kA3_1 : (w2.alloc (.cells #[.int .i64 U, .int .i64 V, .int .i64 Z] 99)).cell? ⟨w2.heap.size, 1, none⟩ = some (.int .i64 (V)) := (Blk.cell hA3 1).trans rfl
  have kA3_2 : (w2.alloc (.cells #[.int .i64 U, .int .i64 V, .int .i64 Z] 99)).cell? ⟨w2.heap.size, 2, none⟩ = some (.int .i64 (Z)) := (Blk.cell hA3 2).trans rfl
  have fA3_0 : (w2.alloc (.cells #[.int .i64 U, .int .i64 V, .int .i64 Z] 99)).frozen? ⟨w2.heap.size, 0, none⟩ = false := Blk.frozen hA3 0
  have fA3_1 : (w2.alloc (.cells #[.int .i64 U, .int .i64 V, .int .i64 Z] 99)).frozen? ⟨w2.heap.size, 1, none⟩ = false := Blk.frozen hA3 1
  have fA3_2 : (w2.alloc (.cells #[.int .i64 U, .int .i64 V, .int .i64 Z] 99)).frozen? ⟨w2.heap.size, 2, none⟩ = false := Blk.frozen hA3 2
  have gA3 : Below w2.heap.size w2 (w2.alloc (.cells #[.int .i64 U, .int .i64 V, .int .i64 Z] 99)) := (Below.refl _ _).alloc (Nat.le_refl _) _
  generalize (w2.alloc (.cells #[.int .i64 U, .int .i64 V, .int .i64 Z] 99)) = w3 at *
  have c3_0 := (bcell gA3 _ _ (block_lt_of_cell c2_0)).trans c2_0
  have c3_1 := (bcell gA3 _ _ (block_lt_of_cell c2_1)).trans c2_1
  have c3_2 := (bcell gA3 _ _ (block_lt_of_cell c2_2)).trans c2_2
  have c3_3 := (bcell gA3 _ _ (block_lt_of_cell c2_3)).trans c2_3
  have c3_4 := (bcell gA3 _ _ (block_lt_of_cell c2_4)).trans c2_4
  have c3_5 := (bcell gA3 _ _ (block_lt_of_cell c2_5)).trans c2_5
  have c3_6 := (bcell gA3 _ _ (block_lt_of_cell c2_6)).trans c2_6
  have c3_7 := (bcell gA3 _ _ (block_lt_of_cell c2_7)).trans c2_7
  have c3_8 := (bcell gA3 _ _ (block_lt_of_cell c2_8)).trans c2_8
  have c3_9 := (bcell gA3 _ _ (block_lt_of_cell c2_9)).trans c2_9
  have c3_10 := (bcell gA3 _ _ (block_lt_of_cell c2_10)).trans c2_10
  have c3_11 := (bcell gA3 _ _ (block_lt_of_cell c2_11)).trans c2_11
  go_upto_region 8 with (fail)
  go_wp2_with fail
  have hL4 : Below w0.heap.size w0 (w3.alloc (.cells #[.int .i64 U, .int .i64 V, .int .i64 Z] 3)) := hL3.alloc hL3.size _
  have hA4 := Blk.new w3 3 #[.int .i64 U, .int .i64 V, .int .i64 Z]
  have sA4 : w3.heap.size < (w3.alloc (.cells #[.int .i64 U, .int .i64 V, .int .i64 Z] 3)).heap.size := by simp
  have kA4_0 : (w3.alloc (.cells #[.int .i64 U, .int .i64 V, .int .i64 Z] 3)).cell? ⟨w3.heap.size, 0, none⟩ = some (.int .i64 (U)) := (Blk.cell hA4 0).trans rfl
  have kA4_1 : (w3.alloc (.cells #[.int .i64 U, .int .i64 V, .int .i64 Z] 3)).cell? ⟨w3.heap.size, 1, none⟩ = some (.int .i64 (V)) := (Blk.cell hA4 1).trans rfl
  have kA4_2 : (w3.alloc (.cells #[.int .i64 U, .int .i64 V, .int .i64 Z] 3)).cell? ⟨w3.heap.size, 2, none⟩ = some (.int .i64 (Z)) := (Blk.cell hA4 2).trans rfl
  have fA4_0 : (w3.alloc (.cells #[.int .i64 U, .int .i64 V, .int .i64 Z] 3)).frozen? ⟨w3.heap.size, 0, none⟩ = false := Blk.frozen hA4 0
  have fA4_1 : (w3.alloc (.cells #[.int .i64 U, .int .i64 V, .int .i64 Z] 3)).frozen? ⟨w3.heap.size, 1, none⟩ = false := Blk.frozen hA4 1
  have fA4_2 : (w3.alloc (.cells #[.int .i64 U, .int .i64 V, .int .i64 Z] 3)).frozen? ⟨w3.heap.size, 2, none⟩ = false := Blk.frozen hA4 2
  have gA4 : Below w3.heap.size w3 (w3.alloc (.cells #[.int .i64 U, .int .i64 V, .int .i64 Z] 3)) := (Below.refl _ _).alloc (Nat.le_refl _) _
  generalize (w3.alloc (.cells #[.int .i64 U, .int .i64 V, .int .i64 Z] 3)) = w4 at *
  have c4_0 := (bcell gA4 _ _ (block_lt_of_cell c3_0)).trans c3_0
  have c4_1 := (bcell gA4 _ _ (block_lt_of_cell c3_1)).trans c3_1
  have c4_2 := (bcell gA4 _ _ (block_lt_of_cell c3_2)).trans c3_2
  have c4_3 := (bcell gA4 _ _ (block_lt_of_cell c3_3)).trans c3_3
  have c4_4 := (bcell gA4 _ _ (block_lt_of_cell c3_4)).trans c3_4
  have c4_5 := (bcell gA4 _ _ (block_lt_of_cell c3_5)).trans c3_5
  have c4_6 := (bcell gA4 _ _ (block_lt_of_cell c3_6)).trans c3_6
  have c4_7 := (bcell gA4 _ _ (block_lt_of_cell c3_7)).trans c3_7
  have c4_8 := (bcell gA4 _ _ (block_lt_of_cell c3_8)).trans c3_8
  have c4_9 := (bcell gA4 _ _ (block_lt_of_cell c3_9)).trans c3_9
  have c4_10 := (bcell gA4 _ _ (block_lt_of_cell c3_10)).trans c3_10
  have c4_11 := (bcell gA4 _ _ (block_lt_of_cell c3_11)).trans c3_11
  have c4_12 := (bcell gA4 _ _ (block_lt_of_cell kA3_0)).trans kA3_0
  have c4_13 := (bcell gA4 _ _ (block_lt_of_cell kA3_1)).trans kA3_1
  have c4_14 := (bcell gA4 _ _ (block_lt_of_cell kA3_2)).trans kA3_2
  have q4 : w0.heap.size ≤ w4.heap.size := hL4.size
  have HB0 := hide hb0
  have HL4 := hide hL4
  have HNU := hide (nth3_nf nU nV nZ)
  have HSB := hide (sq3_bound nU nV nZ)
  clear nU nV nZ
  go_loopg [12, 41] 3 (fun k s i wr => ∃ j : Nat, i = .int .i64 (j : Int) ∧ k + j = 3 ∧ s = .string ⟨(T (sq3 U V Z j)).toArray⟩ ∧ Below w4.heap.size w4 wr)
  case atStart => exact ⟨0, rfl, rfl, by rw [sq3, T_zero], Below.refl _ _⟩
  case round =>
    obtain ⟨j, rfl, hk, rfl, hb⟩ := hrel
    have HK := hide hk
    have HB := hide hb
    have HW := hide (hb0.trans ((hL4.trans (hb.mono q4)).mono hb0.size))
    by_cases hlt : j < 3
    · have hji : (j : Int) < 3 := by omega
      have hc : wr.cell? ⟨w3.heap.size, j, none⟩ = some (.int .i64 (nth3 U V Z j)) := by
        match j, hlt with
        | 0, _ => exact (bcell hb _ _ sA4).trans kA4_0
        | 1, _ => exact (bcell hb _ _ sA4).trans kA4_1
        | 2, _ => exact (bcell hb _ _ sA4).trans kA4_2
      have hx := HNU.out j
      have hq0 := HSB.out j
      have hq1 := HSB.out (j + 1)
      rw [sq3] at hq1
      have hxx := mulB hx hx
      have hsn := sq_nn (nth3 U V Z j)
      have X0 := hide (p := -9223372036854775808 ≤ nth3 U V Z j) (by omega)
      have X1 := hide (p := nth3 U V Z j ≤ 9223372036854775807) (by omega)
      have XB := hide (small_big X0.out X1.out)
      have Y0 := hide (big_of (z := sq3 U V Z j) (by omega))
      have Y1 := hide (big_of (z := nth3 U V Z j * nth3 U V Z j) (by omega))
      have Y2 := hide (big_of (z := sq3 U V Z j + nth3 U V Z j * nth3 U V Z j) (by omega))
      have hs1 : sq3 U V Z (j + 1) = sq3 U V Z j + nth3 U V Z j * nth3 U V Z j := rfl
      have HS1 := hide hs1
      clear hx hq0 hq1 hxx hsn hk hb hs1
      generalize nth3 U V Z j = x at *
      generalize hsj : sq3 U V Z j = y at *
      have hsj := hide hsj
      go_wp2_with fail
      refine (of_any x X0.out X1.out _ (HS.out.below HW.out (Nat.le_refl _))).mono ?_
      rintro e v1 ⟨rfl, hv1⟩
      have K1 := hide (HW.out.trans (hv1.mono HW.out.size))
      have M1 := hide hv1
      clear hv1
      go_wp2_with fail
      refine (of_any x X0.out X1.out _ (HS.out.below K1.out (Nat.le_refl _))).mono ?_
      rintro e v2 ⟨rfl, hv2⟩
      have K2 := hide (K1.out.trans (hv2.mono K1.out.size))
      have M2 := hide (M1.out.trans (hv2.mono M1.out.size))
      clear hv2
      go_wp2_with fail
      refine (mul_any _ _ _ x x ⟨rfl, rfl, XB.out, XB.out⟩ (HS.out.below K2.out (Nat.le_refl _))).mono ?_
      rintro e v3 ⟨he, hv3⟩
      rw [RetLim, lim_ok Y1.out] at he
      subst he
      have K3 := hide (K2.out.trans (hv3.mono K2.out.size))
      have M3 := hide (M2.out.trans (hv3.mono M2.out.size))
      clear hv3
      go_wp2_with fail
      refine (add_any _ _ _ y (x * x) ⟨rfl, rfl, Y0.out, Y1.out⟩ (HS.out.below K3.out (Nat.le_refl _))).mono ?_
      rintro e v4 ⟨he, hv4⟩
      rw [RetLim, lim_ok Y2.out] at he
      subst he
      have M4 := hide (M3.out.trans (hv4.mono M3.out.size))
      clear hv4
      go_wp2_with fail
      go_roundg (gk - 1)
      case measure => have := HK.out; omega
      case rel =>
        exact ⟨j + 1, by go_num, by have := HK.out; omega, by rw [HS1.out], HB.out.trans (M4.out.mono HB.out.size)⟩
    · have hj3 : j = 3 := by omega
      subst hj3
      have hji : ¬ ((3 : Nat) : Int) < 3 := by omega
      rw [sq3_three]
      have c9_0 := (bcell hb _ _ (block_lt_of_cell c4_0)).trans c4_0
      have c9_1 := (bcell hb _ _ (block_lt_of_cell c4_1)).trans c4_1
      have c9_2 := (bcell hb _ _ (block_lt_of_cell c4_2)).trans c4_2
      have c9_3 := (bcell hb _ _ (block_lt_of_cell c4_3)).trans c4_3
      have c9_4 := (bcell hb _ _ (block_lt_of_cell c4_4)).trans c4_4
      have c9_5 := (bcell hb _ _ (block_lt_of_cell c4_5)).trans c4_5
      have c9_6 := (bcell hb _ _ (block_lt_of_cell c4_6)).trans c4_6
      have c9_7 := (bcell hb _ _ (block_lt_of_cell c4_7)).trans c4_7
      have c9_8 := (bcell hb _ _ (block_lt_of_cell c4_8)).trans c4_8
      have c9_9 := (bcell hb _ _ (block_lt_of_cell c4_9)).trans c4_9
      have c9_10 := (bcell hb _ _ (block_lt_of_cell c4_10)).trans c4_10
      have c9_11 := (bcell hb _ _ (block_lt_of_cell c4_11)).trans c4_11
      have c9_12 := (bcell hb _ _ (block_lt_of_cell c4_12)).trans c4_12
      have c9_13 := (bcell hb _ _ (block_lt_of_cell c4_13)).trans c4_13
      have c9_14 := (bcell hb _ _ (block_lt_of_cell c4_14)).trans c4_14
      have c9_15 := (bcell hb _ _ (block_lt_of_cell kA4_0)).trans kA4_0
      have c9_16 := (bcell hb _ _ (block_lt_of_cell kA4_1)).trans kA4_1
      have c9_17 := (bcell hb _ _ (block_lt_of_cell kA4_2)).trans kA4_2
      have hL9 : Below w0.heap.size w0 wr := hL4.trans (hb.mono q4)
      have D0 := hide (p := U * U + V * V + Z * Z ≠ 0) (by have := HP.out; omega)
      have D1 := HSB.out 3
      rw [sq3_three] at D1
      have D2 := hide (big_of (z := U * U + V * V + Z * Z) (by omega))
      obtain ⟨m0a, m0b⟩ := mulB (x := U) (y := px - ax) (M := 80000000000) (N := 200000) (HNU.out 0) (by omega)
      obtain ⟨m1a, m1b⟩ := mulB (x := V) (y := py - ay) (M := 80000000000) (N := 200000) (HNU.out 1) (by omega)
      obtain ⟨m2a, m2b⟩ := mulB (x := Z) (y := pz - az) (M := 80000000000) (N := 200000) (HNU.out 2) (by omega)
      have D3 := hide (p := (U * (px - ax) + V * (py - ay) + Z * (pz - az)).natAbs ≤ 100000000000000000) (by omega)
      clear D1 m0a m0b m1a m1b m2a m2b
      generalize hS : U * U + V * V + Z * Z = S at *
      have hS := hide hS
      go_upto_region 18 with (fail)
      have q9 : w0.heap.size ≤ wr.heap.size := hL9.size
      have SQ9 : ∀ w', Below wr.heap.size wr w' → Below wr.heap.size wr w' ∧ w'.cell? ⟨w.heap.size, 0, none⟩ = some (.int .i64 px) ∧ w'.cell? ⟨w.heap.size, 1, none⟩ = some (.int .i64 py) ∧ w'.cell? ⟨w.heap.size, 2, none⟩ = some (.int .i64 pz) ∧ w'.cell? ⟨w.heap.size + 1, 0, none⟩ = some (.int .i64 ax) ∧ w'.cell? ⟨w.heap.size + 1, 1, none⟩ = some (.int .i64 ay) ∧ w'.cell? ⟨w.heap.size + 1, 2, none⟩ = some (.int .i64 az) ∧ w'.cell? ⟨w.heap.size + 1 + 1, 0, none⟩ = some (.int .i64 bx) ∧ w'.cell? ⟨w.heap.size + 1 + 1, 1, none⟩ = some (.int .i64 by_) ∧ w'.cell? ⟨w.heap.size + 1 + 1, 2, none⟩ = some (.int .i64 bz) ∧ w'.cell? ⟨w.heap.size + 1 + 1 + 1, 0, none⟩ = some (.int .i64 cx) ∧ w'.cell? ⟨w.heap.size + 1 + 1 + 1, 1, none⟩ = some (.int .i64 cy) ∧ w'.cell? ⟨w.heap.size + 1 + 1 + 1, 2, none⟩ = some (.int .i64 cz) ∧ w'.cell? ⟨w2.heap.size, 0, none⟩ = some (.int .i64 (U)) ∧ w'.cell? ⟨w2.heap.size, 1, none⟩ = some (.int .i64 (V)) ∧ w'.cell? ⟨w2.heap.size, 2, none⟩ = some (.int .i64 (Z)) := fun w' h => ⟨h, (bcell h _ _ (block_lt_of_cell c9_0)).trans c9_0, (bcell h _ _ (block_lt_of_cell c9_1)).trans c9_1, (bcell h _ _ (block_lt_of_cell c9_2)).trans c9_2, (bcell h _ _ (block_lt_of_cell c9_3)).trans c9_3, (bcell h _ _ (block_lt_of_cell c9_4)).trans c9_4, (bcell h _ _ (block_lt_of_cell c9_5)).trans c9_5, (bcell h _ _ (block_lt_of_cell c9_6)).trans c9_6, (bcell h _ _ (block_lt_of_cell c9_7)).trans c9_7, (bcell h _ _ (block_lt_of_cell c9_8)).trans c9_8, (bcell h _ _ (block_lt_of_cell c9_9)).trans c9_9, (bcell h _ _ (block_lt_of_cell c9_10)).trans c9_10, (bcell h _ _ (block_lt_of_cell c9_11)).trans c9_11, (bcell h _ _ (block_lt_of_cell c9_12)).trans c9_12, (bcell h _ _ (block_lt_of_cell c9_13)).trans c9_13, (bcell h _ _ (block_lt_of_cell c9_14)).trans c9_14⟩
      go_region_held3 (fun w' => Below wr.heap.size wr w' ∧ w'.cell? ⟨w.heap.size, 0, none⟩ = some (.int .i64 px) ∧ w'.cell? ⟨w.heap.size, 1, none⟩ = some (.int .i64 py) ∧ w'.cell? ⟨w.heap.size, 2, none⟩ = some (.int .i64 pz) ∧ w'.cell? ⟨w.heap.size + 1, 0, none⟩ = some (.int .i64 ax) ∧ w'.cell? ⟨w.heap.size + 1, 1, none⟩ = some (.int .i64 ay) ∧ w'.cell? ⟨w.heap.size + 1, 2, none⟩ = some (.int .i64 az) ∧ w'.cell? ⟨w.heap.size + 1 + 1, 0, none⟩ = some (.int .i64 bx) ∧ w'.cell? ⟨w.heap.size + 1 + 1, 1, none⟩ = some (.int .i64 by_) ∧ w'.cell? ⟨w.heap.size + 1 + 1, 2, none⟩ = some (.int .i64 bz) ∧ w'.cell? ⟨w.heap.size + 1 + 1 + 1, 0, none⟩ = some (.int .i64 cx) ∧ w'.cell? ⟨w.heap.size + 1 + 1 + 1, 1, none⟩ = some (.int .i64 cy) ∧ w'.cell? ⟨w.heap.size + 1 + 1 + 1, 2, none⟩ = some (.int .i64 cz) ∧ w'.cell? ⟨w2.heap.size, 0, none⟩ = some (.int .i64 (U)) ∧ w'.cell? ⟨w2.heap.size, 1, none⟩ = some (.int .i64 (V)) ∧ w'.cell? ⟨w2.heap.size, 2, none⟩ = some (.int .i64 (Z))) (first | exact SQ9 _ (Below.refl _ _).drew | exact SQ9 _ (bel_next (by assumption) (by assumption) (Nat.le_refl _)))
        (first
          | (go_at_call 72; refine (reach_any _ ax ay az px py pz hax hay haz hpx hpy hpz).mono ?_; rintro e w9 ⟨rfl, hbW⟩)
          | (go_at_call 71; refine (bdot_any _ U V Z (px - ax) (py - ay) (pz - az) (HNU.out 0) (HNU.out 1) (HNU.out 2) (by omega) (by omega) (by omega)).mono ?_; rintro e w9 ⟨rfl, hbW⟩)
          | (go_at_call 57; refine (squared_any _ (U * (px - ax) + V * (py - ay) + Z * (pz - az)) _ S D3.out rfl D0.out D2.out (HS.out.below (HW.out.trans (Below.mono (And.left (by assumption)) HW.out.size)) (Nat.le_refl _))).mono ?_; rintro e w9 ⟨rfl, hbW⟩; rw [RR]))
      obtain ⟨hH10, c10_0, c10_1, c10_2, c10_3, c10_4, c10_5, c10_6, c10_7, c10_8, c10_9, c10_10, c10_11, c10_12, c10_13, c10_14⟩ : Below wr.heap.size wr w9 ∧ w9.cell? ⟨w.heap.size, 0, none⟩ = some (.int .i64 px) ∧ w9.cell? ⟨w.heap.size, 1, none⟩ = some (.int .i64 py) ∧ w9.cell? ⟨w.heap.size, 2, none⟩ = some (.int .i64 pz) ∧ w9.cell? ⟨w.heap.size + 1, 0, none⟩ = some (.int .i64 ax) ∧ w9.cell? ⟨w.heap.size + 1, 1, none⟩ = some (.int .i64 ay) ∧ w9.cell? ⟨w.heap.size + 1, 2, none⟩ = some (.int .i64 az) ∧ w9.cell? ⟨w.heap.size + 1 + 1, 0, none⟩ = some (.int .i64 bx) ∧ w9.cell? ⟨w.heap.size + 1 + 1, 1, none⟩ = some (.int .i64 by_) ∧ w9.cell? ⟨w.heap.size + 1 + 1, 2, none⟩ = some (.int .i64 bz) ∧ w9.cell? ⟨w.heap.size + 1 + 1 + 1, 0, none⟩ = some (.int .i64 cx) ∧ w9.cell? ⟨w.heap.size + 1 + 1 + 1, 1, none⟩ = some (.int .i64 cy) ∧ w9.cell? ⟨w.heap.size + 1 + 1 + 1, 2, none⟩ = some (.int .i64 cz) ∧ w9.cell? ⟨w2.heap.size, 0, none⟩ = some (.int .i64 (U)) ∧ w9.cell? ⟨w2.heap.size, 1, none⟩ = some (.int .i64 (V)) ∧ w9.cell? ⟨w2.heap.size, 2, none⟩ = some (.int .i64 (Z)) := by assumption
      have hL10 : Below w0.heap.size w0 w9 := hL9.trans (hH10.mono hL9.size)
      go_wp2_with fail
      go_ret2
      exact ⟨by rw [hS.out]; rfl, hb0.trans (hL10.mono hb0.size)⟩

set_option maxRecDepth 100000 in
set_option maxHeartbeats 4000000 in
theorem plane_three (w : World) (px py pz ax ay az bx by_ bz cx cy cz U V Z : Int) (hs : Std w) (hok : Co px ∧ Co py ∧ Co pz ∧ Co ax ∧ Co ay ∧ Co az ∧ Co bx ∧ Co by_ ∧ Co bz ∧ Co cx ∧ Co cy ∧ Co cz) (hU : (by_ - ay) * (cz - az) - (bz - az) * (cy - ay) = U) (hV : (bz - az) * (cx - ax) - (bx - ax) * (cz - az) = V) (hZ : (bx - ax) * (cy - ay) - (by_ - ay) * (cx - ax) = Z) (nU : Nf U) (nV : Nf V) (nZ : Nf Z) (_z1 : (U = 0) = True) (_z2 : (V = 0) = True) (z3 : (Z = 0) = False) (hpos : 0 < U * U + V * V + Z * Z) :
    Calls Tryz.prog 23 #[.agg #[.int .i64 px, .int .i64 py, .int .i64 pz], .agg #[.int .i64 ax, .int .i64 ay, .int .i64 az], .agg #[.int .i64 bx, .int .i64 by_, .int .i64 bz], .agg #[.int .i64 cx, .int .i64 cy, .int .i64 cz]] w fun e w' => e = .returned (RR (.ok (Rat.divInt ((U * (px - ax) + V * (py - ay) + Z * (pz - az)) * (U * (px - ax) + V * (py - ay) + Z * (pz - az))) (U * U + V * V + Z * Z)))) ∧ Below w.heap.size w w' := by
  have HS := hide hs
  clear hs
  have hchk : chkSps [(px, py, pz), (ax, ay, az), (bx, by_, bz), (cx, cy, cz)] = 0 := by simp [chkSps, okSps, hok]
  obtain ⟨hpx, hpy, hpz, hax, hay, haz, hbx, hby_, hbz, hcx, hcy, hcz⟩ := id hok
  clear hok
  have HP := hide hpos
  clear hpos
  go_enter Tryz.func23, Tryz.ntmps23
  go_upto_region 1 with (fail)
  have hb0 : Below w.heap.size w ((((w.alloc (.cells #[.int .i64 px, .int .i64 py, .int .i64 pz] 33)).alloc (.cells #[.int .i64 ax, .int .i64 ay, .int .i64 az] 33)).alloc (.cells #[.int .i64 bx, .int .i64 by_, .int .i64 bz] 33)).alloc (.cells #[.int .i64 cx, .int .i64 cy, .int .i64 cz] 33)) := allocs_below w [(.cells #[.int .i64 px, .int .i64 py, .int .i64 pz] 33), (.cells #[.int .i64 ax, .int .i64 ay, .int .i64 az] 33), (.cells #[.int .i64 bx, .int .i64 by_, .int .i64 bz] 33), (.cells #[.int .i64 cx, .int .i64 cy, .int .i64 cz] 33)]
  have s0 : w.heap.size + 4 ≤ ((((w.alloc (.cells #[.int .i64 px, .int .i64 py, .int .i64 pz] 33)).alloc (.cells #[.int .i64 ax, .int .i64 ay, .int .i64 az] 33)).alloc (.cells #[.int .i64 bx, .int .i64 by_, .int .i64 bz] 33)).alloc (.cells #[.int .i64 cx, .int .i64 cy, .int .i64 cz] 33)).heap.size := Nat.le_of_eq (allocs_size w [(.cells #[.int .i64 px, .int .i64 py, .int .i64 pz] 33), (.cells #[.int .i64 ax, .int .i64 ay, .int .i64 az] 33), (.cells #[.int .i64 bx, .int .i64 by_, .int .i64 bz] 33), (.cells #[.int .i64 cx, .int .i64 cy, .int .i64 cz] 33)]).symm
  have kb0 : ((((w.alloc (.cells #[.int .i64 px, .int .i64 py, .int .i64 pz] 33)).alloc (.cells #[.int .i64 ax, .int .i64 ay, .int .i64 az] 33)).alloc (.cells #[.int .i64 bx, .int .i64 by_, .int .i64 bz] 33)).alloc (.cells #[.int .i64 cx, .int .i64 cy, .int .i64 cz] 33)).heap[w.heap.size + 0]? = some (.cells #[.int .i64 px, .int .i64 py, .int .i64 pz] 33) := allocs_at w [(.cells #[.int .i64 px, .int .i64 py, .int .i64 pz] 33), (.cells #[.int .i64 ax, .int .i64 ay, .int .i64 az] 33), (.cells #[.int .i64 bx, .int .i64 by_, .int .i64 bz] 33), (.cells #[.int .i64 cx, .int .i64 cy, .int .i64 cz] 33)] 0 rfl
  have kb1 : ((((w.alloc (.cells #[.int .i64 px, .int .i64 py, .int .i64 pz] 33)).alloc (.cells #[.int .i64 ax, .int .i64 ay, .int .i64 az] 33)).alloc (.cells #[.int .i64 bx, .int .i64 by_, .int .i64 bz] 33)).alloc (.cells #[.int .i64 cx, .int .i64 cy, .int .i64 cz] 33)).heap[w.heap.size + 1]? = some (.cells #[.int .i64 ax, .int .i64 ay, .int .i64 az] 33) := allocs_at w [(.cells #[.int .i64 px, .int .i64 py, .int .i64 pz] 33), (.cells #[.int .i64 ax, .int .i64 ay, .int .i64 az] 33), (.cells #[.int .i64 bx, .int .i64 by_, .int .i64 bz] 33), (.cells #[.int .i64 cx, .int .i64 cy, .int .i64 cz] 33)] 1 rfl
  have kb2 : ((((w.alloc (.cells #[.int .i64 px, .int .i64 py, .int .i64 pz] 33)).alloc (.cells #[.int .i64 ax, .int .i64 ay, .int .i64 az] 33)).alloc (.cells #[.int .i64 bx, .int .i64 by_, .int .i64 bz] 33)).alloc (.cells #[.int .i64 cx, .int .i64 cy, .int .i64 cz] 33)).heap[w.heap.size + 2]? = some (.cells #[.int .i64 bx, .int .i64 by_, .int .i64 bz] 33) := allocs_at w [(.cells #[.int .i64 px, .int .i64 py, .int .i64 pz] 33), (.cells #[.int .i64 ax, .int .i64 ay, .int .i64 az] 33), (.cells #[.int .i64 bx, .int .i64 by_, .int .i64 bz] 33), (.cells #[.int .i64 cx, .int .i64 cy, .int .i64 cz] 33)] 2 rfl
  have kb3 : ((((w.alloc (.cells #[.int .i64 px, .int .i64 py, .int .i64 pz] 33)).alloc (.cells #[.int .i64 ax, .int .i64 ay, .int .i64 az] 33)).alloc (.cells #[.int .i64 bx, .int .i64 by_, .int .i64 bz] 33)).alloc (.cells #[.int .i64 cx, .int .i64 cy, .int .i64 cz] 33)).heap[w.heap.size + 3]? = some (.cells #[.int .i64 cx, .int .i64 cy, .int .i64 cz] 33) := allocs_at w [(.cells #[.int .i64 px, .int .i64 py, .int .i64 pz] 33), (.cells #[.int .i64 ax, .int .i64 ay, .int .i64 az] 33), (.cells #[.int .i64 bx, .int .i64 by_, .int .i64 bz] 33), (.cells #[.int .i64 cx, .int .i64 cy, .int .i64 cz] 33)] 3 rfl
  generalize ((((w.alloc (.cells #[.int .i64 px, .int .i64 py, .int .i64 pz] 33)).alloc (.cells #[.int .i64 ax, .int .i64 ay, .int .i64 az] 33)).alloc (.cells #[.int .i64 bx, .int .i64 by_, .int .i64 bz] 33)).alloc (.cells #[.int .i64 cx, .int .i64 cy, .int .i64 cz] 33)) = w0 at *
  have k0_0 : w0.cell? ⟨w.heap.size, 0, none⟩ = some (.int .i64 px) := (Blk.cell kb0 0).trans rfl
  have k0_1 : w0.cell? ⟨w.heap.size, 1, none⟩ = some (.int .i64 py) := (Blk.cell kb0 1).trans rfl
  have k0_2 : w0.cell? ⟨w.heap.size, 2, none⟩ = some (.int .i64 pz) := (Blk.cell kb0 2).trans rfl
  have k1_0 : w0.cell? ⟨w.heap.size + 1, 0, none⟩ = some (.int .i64 ax) := (Blk.cell kb1 0).trans rfl
  have k1_1 : w0.cell? ⟨w.heap.size + 1, 1, none⟩ = some (.int .i64 ay) := (Blk.cell kb1 1).trans rfl
  have k1_2 : w0.cell? ⟨w.heap.size + 1, 2, none⟩ = some (.int .i64 az) := (Blk.cell kb1 2).trans rfl
  have k2_0 : w0.cell? ⟨w.heap.size + 1 + 1, 0, none⟩ = some (.int .i64 bx) := (Blk.cell kb2 0).trans rfl
  have k2_1 : w0.cell? ⟨w.heap.size + 1 + 1, 1, none⟩ = some (.int .i64 by_) := (Blk.cell kb2 1).trans rfl
  have k2_2 : w0.cell? ⟨w.heap.size + 1 + 1, 2, none⟩ = some (.int .i64 bz) := (Blk.cell kb2 2).trans rfl
  have k3_0 : w0.cell? ⟨w.heap.size + 1 + 1 + 1, 0, none⟩ = some (.int .i64 cx) := (Blk.cell kb3 0).trans rfl
  have k3_1 : w0.cell? ⟨w.heap.size + 1 + 1 + 1, 1, none⟩ = some (.int .i64 cy) := (Blk.cell kb3 1).trans rfl
  have k3_2 : w0.cell? ⟨w.heap.size + 1 + 1 + 1, 2, none⟩ = some (.int .i64 cz) := (Blk.cell kb3 2).trans rfl
  clear kb0 kb1 kb2 kb3
  have SK : ∀ w', Below w0.heap.size w0 w' → Below w0.heap.size w0 w' ∧ w'.cell? ⟨w.heap.size, 0, none⟩ = some (.int .i64 px) ∧ w'.cell? ⟨w.heap.size, 1, none⟩ = some (.int .i64 py) ∧ w'.cell? ⟨w.heap.size, 2, none⟩ = some (.int .i64 pz) ∧ w'.cell? ⟨w.heap.size + 1, 0, none⟩ = some (.int .i64 ax) ∧ w'.cell? ⟨w.heap.size + 1, 1, none⟩ = some (.int .i64 ay) ∧ w'.cell? ⟨w.heap.size + 1, 2, none⟩ = some (.int .i64 az) ∧ w'.cell? ⟨w.heap.size + 1 + 1, 0, none⟩ = some (.int .i64 bx) ∧ w'.cell? ⟨w.heap.size + 1 + 1, 1, none⟩ = some (.int .i64 by_) ∧ w'.cell? ⟨w.heap.size + 1 + 1, 2, none⟩ = some (.int .i64 bz) ∧ w'.cell? ⟨w.heap.size + 1 + 1 + 1, 0, none⟩ = some (.int .i64 cx) ∧ w'.cell? ⟨w.heap.size + 1 + 1 + 1, 1, none⟩ = some (.int .i64 cy) ∧ w'.cell? ⟨w.heap.size + 1 + 1 + 1, 2, none⟩ = some (.int .i64 cz) := fun w' h => ⟨h, (bcell h _ _ (by omega)).trans k0_0, (bcell h _ _ (by omega)).trans k0_1, (bcell h _ _ (by omega)).trans k0_2, (bcell h _ _ (by omega)).trans k1_0, (bcell h _ _ (by omega)).trans k1_1, (bcell h _ _ (by omega)).trans k1_2, (bcell h _ _ (by omega)).trans k2_0, (bcell h _ _ (by omega)).trans k2_1, (bcell h _ _ (by omega)).trans k2_2, (bcell h _ _ (by omega)).trans k3_0, (bcell h _ _ (by omega)).trans k3_1, (bcell h _ _ (by omega)).trans k3_2⟩
  go_wp2_with fail
  refine (alls_any _ _ [(px, py, pz), (ax, ay, az), (bx, by_, bz), (cx, cy, cz)] (Sps4 w0 (px, py, pz) (ax, ay, az) (bx, by_, bz) (cx, cy, cz) _ _) (by simp)).mono ?_
  rintro e w1 ⟨rfl, hb1⟩
  have hb1' := (allocs_below w0 [_]).trans (hb1.mono (by simp))
  rw [hchk]
  have hL1 : Below w0.heap.size w0 w1 := hb1'
  obtain ⟨-, c1_0, c1_1, c1_2, c1_3, c1_4, c1_5, c1_6, c1_7, c1_8, c1_9, c1_10, c1_11⟩ := SK _ hL1
  go_wp2_with fail
  refine (normal_any _ ax ay az bx by_ bz cx cy cz hax hay haz hbx hby_ hbz hcx hcy hcz).mono ?_
  rw [hU, hV, hZ]
  rintro e w2 ⟨rfl, hb2⟩
  have hL2 : Below w0.heap.size w0 w2 := hL1.trans (hb2.mono hL1.size)
  obtain ⟨-, c2_0, c2_1, c2_2, c2_3, c2_4, c2_5, c2_6, c2_7, c2_8, c2_9, c2_10, c2_11⟩ := SK _ hL2
  go_upto_region 5 with (fail)
  have hL3 : Below w0.heap.size w0 (w2.alloc (.cells #[.int .i64 U, .int .i64 V, .int .i64 Z] 99)) := hL2.alloc hL2.size _
  have hA3 := Blk.new w2 99 #[.int .i64 U, .int .i64 V, .int .i64 Z]
  have sA3 : w2.heap.size < (w2.alloc (.cells #[.int .i64 U, .int .i64 V, .int .i64 Z] 99)).heap.size := by simp
  have kA3_0 : (w2.alloc (.cells #[.int .i64 U, .int .i64 V, .int .i64 Z] 99)).cell? ⟨w2.heap.size, 0, none⟩ = some (.int .i64 (U)) := (Blk.cell hA3 0).trans rfl
  have kA3_1 : (w2.alloc (.cells #[.int .i64 U, .int .i64 V, .int .i64 Z] 99)).cell? ⟨w2.heap.size, 1, none⟩ = some (.int .i64 (V)) := (Blk.cell hA3 1).trans rfl
  have kA3_2 : (w2.alloc (.cells #[.int .i64 U, .int .i64 V, .int .i64 Z] 99)).cell? ⟨w2.heap.size, 2, none⟩ = some (.int .i64 (Z)) := (Blk.cell hA3 2).trans rfl
  have fA3_0 : (w2.alloc (.cells #[.int .i64 U, .int .i64 V, .int .i64 Z] 99)).frozen? ⟨w2.heap.size, 0, none⟩ = false := Blk.frozen hA3 0
  have fA3_1 : (w2.alloc (.cells #[.int .i64 U, .int .i64 V, .int .i64 Z] 99)).frozen? ⟨w2.heap.size, 1, none⟩ = false := Blk.frozen hA3 1
  have fA3_2 : (w2.alloc (.cells #[.int .i64 U, .int .i64 V, .int .i64 Z] 99)).frozen? ⟨w2.heap.size, 2, none⟩ = false := Blk.frozen hA3 2
  have gA3 : Below w2.heap.size w2 (w2.alloc (.cells #[.int .i64 U, .int .i64 V, .int .i64 Z] 99)) := (Below.refl _ _).alloc (Nat.le_refl _) _
  generalize (w2.alloc (.cells #[.int .i64 U, .int .i64 V, .int .i64 Z] 99)) = w3 at *
  have c3_0 := (bcell gA3 _ _ (block_lt_of_cell c2_0)).trans c2_0
  have c3_1 := (bcell gA3 _ _ (block_lt_of_cell c2_1)).trans c2_1
  have c3_2 := (bcell gA3 _ _ (block_lt_of_cell c2_2)).trans c2_2
  have c3_3 := (bcell gA3 _ _ (block_lt_of_cell c2_3)).trans c2_3
  have c3_4 := (bcell gA3 _ _ (block_lt_of_cell c2_4)).trans c2_4
  have c3_5 := (bcell gA3 _ _ (block_lt_of_cell c2_5)).trans c2_5
  have c3_6 := (bcell gA3 _ _ (block_lt_of_cell c2_6)).trans c2_6
  have c3_7 := (bcell gA3 _ _ (block_lt_of_cell c2_7)).trans c2_7
  have c3_8 := (bcell gA3 _ _ (block_lt_of_cell c2_8)).trans c2_8
  have c3_9 := (bcell gA3 _ _ (block_lt_of_cell c2_9)).trans c2_9
  have c3_10 := (bcell gA3 _ _ (block_lt_of_cell c2_10)).trans c2_10
  have c3_11 := (bcell gA3 _ _ (block_lt_of_cell c2_11)).trans c2_11
  go_upto_region 8 with (fail)
  go_wp2_with fail
  have hL4 : Below w0.heap.size w0 (w3.alloc (.cells #[.int .i64 U, .int .i64 V, .int .i64 Z] 3)) := hL3.alloc hL3.size _
  have hA4 := Blk.new w3 3 #[.int .i64 U, .int .i64 V, .int .i64 Z]
  have sA4 : w3.heap.size < (w3.alloc (.cells #[.int .i64 U, .int .i64 V, .int .i64 Z] 3)).heap.size := by simp
  have kA4_0 : (w3.alloc (.cells #[.int .i64 U, .int .i64 V, .int .i64 Z] 3)).cell? ⟨w3.heap.size, 0, none⟩ = some (.int .i64 (U)) := (Blk.cell hA4 0).trans rfl
  have kA4_1 : (w3.alloc (.cells #[.int .i64 U, .int .i64 V, .int .i64 Z] 3)).cell? ⟨w3.heap.size, 1, none⟩ = some (.int .i64 (V)) := (Blk.cell hA4 1).trans rfl
  have kA4_2 : (w3.alloc (.cells #[.int .i64 U, .int .i64 V, .int .i64 Z] 3)).cell? ⟨w3.heap.size, 2, none⟩ = some (.int .i64 (Z)) := (Blk.cell hA4 2).trans rfl
  have fA4_0 : (w3.alloc (.cells #[.int .i64 U, .int .i64 V, .int .i64 Z] 3)).frozen? ⟨w3.heap.size, 0, none⟩ = false := Blk.frozen hA4 0
  have fA4_1 : (w3.alloc (.cells #[.int .i64 U, .int .i64 V, .int .i64 Z] 3)).frozen? ⟨w3.heap.size, 1, none⟩ = false := Blk.frozen hA4 1
  have fA4_2 : (w3.alloc (.cells #[.int .i64 U, .int .i64 V, .int .i64 Z] 3)).frozen? ⟨w3.heap.size, 2, none⟩ = false := Blk.frozen hA4 2
  have gA4 : Below w3.heap.size w3 (w3.alloc (.cells #[.int .i64 U, .int .i64 V, .int .i64 Z] 3)) := (Below.refl _ _).alloc (Nat.le_refl _) _
  generalize (w3.alloc (.cells #[.int .i64 U, .int .i64 V, .int .i64 Z] 3)) = w4 at *
  have c4_0 := (bcell gA4 _ _ (block_lt_of_cell c3_0)).trans c3_0
  have c4_1 := (bcell gA4 _ _ (block_lt_of_cell c3_1)).trans c3_1
  have c4_2 := (bcell gA4 _ _ (block_lt_of_cell c3_2)).trans c3_2
  have c4_3 := (bcell gA4 _ _ (block_lt_of_cell c3_3)).trans c3_3
  have c4_4 := (bcell gA4 _ _ (block_lt_of_cell c3_4)).trans c3_4
  have c4_5 := (bcell gA4 _ _ (block_lt_of_cell c3_5)).trans c3_5
  have c4_6 := (bcell gA4 _ _ (block_lt_of_cell c3_6)).trans c3_6
  have c4_7 := (bcell gA4 _ _ (block_lt_of_cell c3_7)).trans c3_7
  have c4_8 := (bcell gA4 _ _ (block_lt_of_cell c3_8)).trans c3_8
  have c4_9 := (bcell gA4 _ _ (block_lt_of_cell c3_9)).trans c3_9
  have c4_10 := (bcell gA4 _ _ (block_lt_of_cell c3_10)).trans c3_10
  have c4_11 := (bcell gA4 _ _ (block_lt_of_cell c3_11)).trans c3_11
  have c4_12 := (bcell gA4 _ _ (block_lt_of_cell kA3_0)).trans kA3_0
  have c4_13 := (bcell gA4 _ _ (block_lt_of_cell kA3_1)).trans kA3_1
  have c4_14 := (bcell gA4 _ _ (block_lt_of_cell kA3_2)).trans kA3_2
  have q4 : w0.heap.size ≤ w4.heap.size := hL4.size
  have HB0 := hide hb0
  have HL4 := hide hL4
  have HNU := hide (nth3_nf nU nV nZ)
  have HSB := hide (sq3_bound nU nV nZ)
  clear nU nV nZ
  go_loopg [12, 41] 3 (fun k s i wr => ∃ j : Nat, i = .int .i64 (j : Int) ∧ k + j = 3 ∧ s = .string ⟨(T (sq3 U V Z j)).toArray⟩ ∧ Below w4.heap.size w4 wr)
  case atStart => exact ⟨0, rfl, rfl, by rw [sq3, T_zero], Below.refl _ _⟩
  case round =>
    obtain ⟨j, rfl, hk, rfl, hb⟩ := hrel
    have HK := hide hk
    have HB := hide hb
    have HW := hide (hb0.trans ((hL4.trans (hb.mono q4)).mono hb0.size))
    by_cases hlt : j < 3
    · have hji : (j : Int) < 3 := by omega
      have hc : wr.cell? ⟨w3.heap.size, j, none⟩ = some (.int .i64 (nth3 U V Z j)) := by
        match j, hlt with
        | 0, _ => exact (bcell hb _ _ sA4).trans kA4_0
        | 1, _ => exact (bcell hb _ _ sA4).trans kA4_1
        | 2, _ => exact (bcell hb _ _ sA4).trans kA4_2
      have hx := HNU.out j
      have hq0 := HSB.out j
      have hq1 := HSB.out (j + 1)
      rw [sq3] at hq1
      have hxx := mulB hx hx
      have hsn := sq_nn (nth3 U V Z j)
      have X0 := hide (p := -9223372036854775808 ≤ nth3 U V Z j) (by omega)
      have X1 := hide (p := nth3 U V Z j ≤ 9223372036854775807) (by omega)
      have XB := hide (small_big X0.out X1.out)
      have Y0 := hide (big_of (z := sq3 U V Z j) (by omega))
      have Y1 := hide (big_of (z := nth3 U V Z j * nth3 U V Z j) (by omega))
      have Y2 := hide (big_of (z := sq3 U V Z j + nth3 U V Z j * nth3 U V Z j) (by omega))
      have hs1 : sq3 U V Z (j + 1) = sq3 U V Z j + nth3 U V Z j * nth3 U V Z j := rfl
      have HS1 := hide hs1
      clear hx hq0 hq1 hxx hsn hk hb hs1
      generalize nth3 U V Z j = x at *
      generalize hsj : sq3 U V Z j = y at *
      have hsj := hide hsj
      go_wp2_with fail
      refine (of_any x X0.out X1.out _ (HS.out.below HW.out (Nat.le_refl _))).mono ?_
      rintro e v1 ⟨rfl, hv1⟩
      have K1 := hide (HW.out.trans (hv1.mono HW.out.size))
      have M1 := hide hv1
      clear hv1
      go_wp2_with fail
      refine (of_any x X0.out X1.out _ (HS.out.below K1.out (Nat.le_refl _))).mono ?_
      rintro e v2 ⟨rfl, hv2⟩
      have K2 := hide (K1.out.trans (hv2.mono K1.out.size))
      have M2 := hide (M1.out.trans (hv2.mono M1.out.size))
      clear hv2
      go_wp2_with fail
      refine (mul_any _ _ _ x x ⟨rfl, rfl, XB.out, XB.out⟩ (HS.out.below K2.out (Nat.le_refl _))).mono ?_
      rintro e v3 ⟨he, hv3⟩
      rw [RetLim, lim_ok Y1.out] at he
      subst he
      have K3 := hide (K2.out.trans (hv3.mono K2.out.size))
      have M3 := hide (M2.out.trans (hv3.mono M2.out.size))
      clear hv3
      go_wp2_with fail
      refine (add_any _ _ _ y (x * x) ⟨rfl, rfl, Y0.out, Y1.out⟩ (HS.out.below K3.out (Nat.le_refl _))).mono ?_
      rintro e v4 ⟨he, hv4⟩
      rw [RetLim, lim_ok Y2.out] at he
      subst he
      have M4 := hide (M3.out.trans (hv4.mono M3.out.size))
      clear hv4
      go_wp2_with fail
      go_roundg (gk - 1)
      case measure => have := HK.out; omega
      case rel =>
        exact ⟨j + 1, by go_num, by have := HK.out; omega, by rw [HS1.out], HB.out.trans (M4.out.mono HB.out.size)⟩
    · have hj3 : j = 3 := by omega
      subst hj3
      have hji : ¬ ((3 : Nat) : Int) < 3 := by omega
      rw [sq3_three]
      have c9_0 := (bcell hb _ _ (block_lt_of_cell c4_0)).trans c4_0
      have c9_1 := (bcell hb _ _ (block_lt_of_cell c4_1)).trans c4_1
      have c9_2 := (bcell hb _ _ (block_lt_of_cell c4_2)).trans c4_2
      have c9_3 := (bcell hb _ _ (block_lt_of_cell c4_3)).trans c4_3
      have c9_4 := (bcell hb _ _ (block_lt_of_cell c4_4)).trans c4_4
      have c9_5 := (bcell hb _ _ (block_lt_of_cell c4_5)).trans c4_5
      have c9_6 := (bcell hb _ _ (block_lt_of_cell c4_6)).trans c4_6
      have c9_7 := (bcell hb _ _ (block_lt_of_cell c4_7)).trans c4_7
      have c9_8 := (bcell hb _ _ (block_lt_of_cell c4_8)).trans c4_8
      have c9_9 := (bcell hb _ _ (block_lt_of_cell c4_9)).trans c4_9
      have c9_10 := (bcell hb _ _ (block_lt_of_cell c4_10)).trans c4_10
      have c9_11 := (bcell hb _ _ (block_lt_of_cell c4_11)).trans c4_11
      have c9_12 := (bcell hb _ _ (block_lt_of_cell c4_12)).trans c4_12
      have c9_13 := (bcell hb _ _ (block_lt_of_cell c4_13)).trans c4_13
      have c9_14 := (bcell hb _ _ (block_lt_of_cell c4_14)).trans c4_14
      have c9_15 := (bcell hb _ _ (block_lt_of_cell kA4_0)).trans kA4_0
      have c9_16 := (bcell hb _ _ (block_lt_of_cell kA4_1)).trans kA4_1
      have c9_17 := (bcell hb _ _ (block_lt_of_cell kA4_2)).trans kA4_2
      have hL9 : Below w0.heap.size w0 wr := hL4.trans (hb.mono q4)
      have D0 := hide (p := U * U + V * V + Z * Z ≠ 0) (by have := HP.out; omega)
      have D1 := HSB.out 3
      rw [sq3_three] at D1
      have D2 := hide (big_of (z := U * U + V * V + Z * Z) (by omega))
      obtain ⟨m0a, m0b⟩ := mulB (x := U) (y := px - ax) (M := 80000000000) (N := 200000) (HNU.out 0) (by omega)
      obtain ⟨m1a, m1b⟩ := mulB (x := V) (y := py - ay) (M := 80000000000) (N := 200000) (HNU.out 1) (by omega)
      obtain ⟨m2a, m2b⟩ := mulB (x := Z) (y := pz - az) (M := 80000000000) (N := 200000) (HNU.out 2) (by omega)
      have D3 := hide (p := (U * (px - ax) + V * (py - ay) + Z * (pz - az)).natAbs ≤ 100000000000000000) (by omega)
      clear D1 m0a m0b m1a m1b m2a m2b
      generalize hS : U * U + V * V + Z * Z = S at *
      have hS := hide hS
      go_upto_region 18 with (fail)
      have q9 : w0.heap.size ≤ wr.heap.size := hL9.size
      have SQ9 : ∀ w', Below wr.heap.size wr w' → Below wr.heap.size wr w' ∧ w'.cell? ⟨w.heap.size, 0, none⟩ = some (.int .i64 px) ∧ w'.cell? ⟨w.heap.size, 1, none⟩ = some (.int .i64 py) ∧ w'.cell? ⟨w.heap.size, 2, none⟩ = some (.int .i64 pz) ∧ w'.cell? ⟨w.heap.size + 1, 0, none⟩ = some (.int .i64 ax) ∧ w'.cell? ⟨w.heap.size + 1, 1, none⟩ = some (.int .i64 ay) ∧ w'.cell? ⟨w.heap.size + 1, 2, none⟩ = some (.int .i64 az) ∧ w'.cell? ⟨w.heap.size + 1 + 1, 0, none⟩ = some (.int .i64 bx) ∧ w'.cell? ⟨w.heap.size + 1 + 1, 1, none⟩ = some (.int .i64 by_) ∧ w'.cell? ⟨w.heap.size + 1 + 1, 2, none⟩ = some (.int .i64 bz) ∧ w'.cell? ⟨w.heap.size + 1 + 1 + 1, 0, none⟩ = some (.int .i64 cx) ∧ w'.cell? ⟨w.heap.size + 1 + 1 + 1, 1, none⟩ = some (.int .i64 cy) ∧ w'.cell? ⟨w.heap.size + 1 + 1 + 1, 2, none⟩ = some (.int .i64 cz) ∧ w'.cell? ⟨w2.heap.size, 0, none⟩ = some (.int .i64 (U)) ∧ w'.cell? ⟨w2.heap.size, 1, none⟩ = some (.int .i64 (V)) ∧ w'.cell? ⟨w2.heap.size, 2, none⟩ = some (.int .i64 (Z)) := fun w' h => ⟨h, (bcell h _ _ (block_lt_of_cell c9_0)).trans c9_0, (bcell h _ _ (block_lt_of_cell c9_1)).trans c9_1, (bcell h _ _ (block_lt_of_cell c9_2)).trans c9_2, (bcell h _ _ (block_lt_of_cell c9_3)).trans c9_3, (bcell h _ _ (block_lt_of_cell c9_4)).trans c9_4, (bcell h _ _ (block_lt_of_cell c9_5)).trans c9_5, (bcell h _ _ (block_lt_of_cell c9_6)).trans c9_6, (bcell h _ _ (block_lt_of_cell c9_7)).trans c9_7, (bcell h _ _ (block_lt_of_cell c9_8)).trans c9_8, (bcell h _ _ (block_lt_of_cell c9_9)).trans c9_9, (bcell h _ _ (block_lt_of_cell c9_10)).trans c9_10, (bcell h _ _ (block_lt_of_cell c9_11)).trans c9_11, (bcell h _ _ (block_lt_of_cell c9_12)).trans c9_12, (bcell h _ _ (block_lt_of_cell c9_13)).trans c9_13, (bcell h _ _ (block_lt_of_cell c9_14)).trans c9_14⟩
      go_region_held3 (fun w' => Below wr.heap.size wr w' ∧ w'.cell? ⟨w.heap.size, 0, none⟩ = some (.int .i64 px) ∧ w'.cell? ⟨w.heap.size, 1, none⟩ = some (.int .i64 py) ∧ w'.cell? ⟨w.heap.size, 2, none⟩ = some (.int .i64 pz) ∧ w'.cell? ⟨w.heap.size + 1, 0, none⟩ = some (.int .i64 ax) ∧ w'.cell? ⟨w.heap.size + 1, 1, none⟩ = some (.int .i64 ay) ∧ w'.cell? ⟨w.heap.size + 1, 2, none⟩ = some (.int .i64 az) ∧ w'.cell? ⟨w.heap.size + 1 + 1, 0, none⟩ = some (.int .i64 bx) ∧ w'.cell? ⟨w.heap.size + 1 + 1, 1, none⟩ = some (.int .i64 by_) ∧ w'.cell? ⟨w.heap.size + 1 + 1, 2, none⟩ = some (.int .i64 bz) ∧ w'.cell? ⟨w.heap.size + 1 + 1 + 1, 0, none⟩ = some (.int .i64 cx) ∧ w'.cell? ⟨w.heap.size + 1 + 1 + 1, 1, none⟩ = some (.int .i64 cy) ∧ w'.cell? ⟨w.heap.size + 1 + 1 + 1, 2, none⟩ = some (.int .i64 cz) ∧ w'.cell? ⟨w2.heap.size, 0, none⟩ = some (.int .i64 (U)) ∧ w'.cell? ⟨w2.heap.size, 1, none⟩ = some (.int .i64 (V)) ∧ w'.cell? ⟨w2.heap.size, 2, none⟩ = some (.int .i64 (Z))) (first | exact SQ9 _ (Below.refl _ _).drew | exact SQ9 _ (bel_next (by assumption) (by assumption) (Nat.le_refl _)))
        (first
          | (go_at_call 72; refine (reach_any _ ax ay az px py pz hax hay haz hpx hpy hpz).mono ?_; rintro e w9 ⟨rfl, hbW⟩)
          | (go_at_call 71; refine (bdot_any _ U V Z (px - ax) (py - ay) (pz - az) (HNU.out 0) (HNU.out 1) (HNU.out 2) (by omega) (by omega) (by omega)).mono ?_; rintro e w9 ⟨rfl, hbW⟩)
          | (go_at_call 57; refine (squared_any _ (U * (px - ax) + V * (py - ay) + Z * (pz - az)) _ S D3.out rfl D0.out D2.out (HS.out.below (HW.out.trans (Below.mono (And.left (by assumption)) HW.out.size)) (Nat.le_refl _))).mono ?_; rintro e w9 ⟨rfl, hbW⟩; rw [RR]))
      obtain ⟨hH10, c10_0, c10_1, c10_2, c10_3, c10_4, c10_5, c10_6, c10_7, c10_8, c10_9, c10_10, c10_11, c10_12, c10_13, c10_14⟩ : Below wr.heap.size wr w9 ∧ w9.cell? ⟨w.heap.size, 0, none⟩ = some (.int .i64 px) ∧ w9.cell? ⟨w.heap.size, 1, none⟩ = some (.int .i64 py) ∧ w9.cell? ⟨w.heap.size, 2, none⟩ = some (.int .i64 pz) ∧ w9.cell? ⟨w.heap.size + 1, 0, none⟩ = some (.int .i64 ax) ∧ w9.cell? ⟨w.heap.size + 1, 1, none⟩ = some (.int .i64 ay) ∧ w9.cell? ⟨w.heap.size + 1, 2, none⟩ = some (.int .i64 az) ∧ w9.cell? ⟨w.heap.size + 1 + 1, 0, none⟩ = some (.int .i64 bx) ∧ w9.cell? ⟨w.heap.size + 1 + 1, 1, none⟩ = some (.int .i64 by_) ∧ w9.cell? ⟨w.heap.size + 1 + 1, 2, none⟩ = some (.int .i64 bz) ∧ w9.cell? ⟨w.heap.size + 1 + 1 + 1, 0, none⟩ = some (.int .i64 cx) ∧ w9.cell? ⟨w.heap.size + 1 + 1 + 1, 1, none⟩ = some (.int .i64 cy) ∧ w9.cell? ⟨w.heap.size + 1 + 1 + 1, 2, none⟩ = some (.int .i64 cz) ∧ w9.cell? ⟨w2.heap.size, 0, none⟩ = some (.int .i64 (U)) ∧ w9.cell? ⟨w2.heap.size, 1, none⟩ = some (.int .i64 (V)) ∧ w9.cell? ⟨w2.heap.size, 2, none⟩ = some (.int .i64 (Z)) := by assumption
      have hL10 : Below w0.heap.size w0 w9 := hL9.trans (hH10.mono hL9.size)
      go_wp2_with fail
      go_ret2
      exact ⟨by rw [hS.out]; rfl, hb0.trans (hL10.mono hb0.size)⟩

set_option maxRecDepth 100000 in
set_option maxHeartbeats 2000000 in
theorem ToPlane_any (w : World) (px py pz ax ay az bx by_ bz cx cy cz : Int) (hs : Std w) :
    Calls Tryz.prog 23 #[.agg #[.int .i64 px, .int .i64 py, .int .i64 pz], .agg #[.int .i64 ax, .int .i64 ay, .int .i64 az], .agg #[.int .i64 bx, .int .i64 by_, .int .i64 bz], .agg #[.int .i64 cx, .int .i64 cy, .int .i64 cz]] w fun e w' => e = .returned (RR (planeR px py pz ax ay az bx by_ bz cx cy cz)) ∧ Below w.heap.size w w' := by
  by_cases hok : Co px ∧ Co py ∧ Co pz ∧ Co ax ∧ Co ay ∧ Co az ∧ Co bx ∧ Co by_ ∧ Co bz ∧ Co cx ∧ Co cy ∧ Co cz
  · obtain ⟨hpx, hpy, hpz, hax, hay, haz, hbx, hby_, hbz, hcx, hcy, hcz⟩ := id hok
    obtain ⟨m0a, m0b⟩ := mulB (x := (by_ - ay)) (y := (cz - az)) (M := 200000) (N := 200000) (by omega) (by omega)
    obtain ⟨m1a, m1b⟩ := mulB (x := (bz - az)) (y := (cy - ay)) (M := 200000) (N := 200000) (by omega) (by omega)
    obtain ⟨m2a, m2b⟩ := mulB (x := (bz - az)) (y := (cx - ax)) (M := 200000) (N := 200000) (by omega) (by omega)
    obtain ⟨m3a, m3b⟩ := mulB (x := (bx - ax)) (y := (cz - az)) (M := 200000) (N := 200000) (by omega) (by omega)
    obtain ⟨m4a, m4b⟩ := mulB (x := (bx - ax)) (y := (cy - ay)) (M := 200000) (N := 200000) (by omega) (by omega)
    obtain ⟨m5a, m5b⟩ := mulB (x := (by_ - ay)) (y := (cx - ax)) (M := 200000) (N := 200000) (by omega) (by omega)
    have HN1 : Nf ((by_ - ay) * (cz - az) - (bz - az) * (cy - ay)) := by constructor <;> omega
    have HN2 : Nf ((bz - az) * (cx - ax) - (bx - ax) * (cz - az)) := by constructor <;> omega
    have HN3 : Nf ((bx - ax) * (cy - ay) - (by_ - ay) * (cx - ax)) := by constructor <;> omega
    clear m0a m0b m1a m1b m2a m2b m3a m3b m4a m4b m5a m5b
    rw [planeR, if_pos hok]
    generalize hU : (by_ - ay) * (cz - az) - (bz - az) * (cy - ay) = U at *
    generalize hV : (bz - az) * (cx - ax) - (bx - ax) * (cz - az) = V at *
    generalize hZ : (bx - ax) * (cy - ay) - (by_ - ay) * (cx - ax) = Z at *
    have s1 := sq_nn U
    have s2 := sq_nn V
    have s3 := sq_nn Z
    by_cases e1 : U = 0
    · by_cases e2 : V = 0
      · by_cases e3 : Z = 0
        · rw [if_pos ⟨e1, e2, e3⟩]
          exact plane_zero w px py pz ax ay az bx by_ bz cx cy cz U V Z hs hok hU hV hZ (eq_true e1) (eq_true e2) (eq_true e3)
        · rw [if_neg (fun h => e3 h.2.2)]
          have := sq_pos e3
          exact plane_three w px py pz ax ay az bx by_ bz cx cy cz U V Z hs hok hU hV hZ HN1 HN2 HN3 (eq_true e1) (eq_true e2) (eq_false e3) (by omega)
      · rw [if_neg (fun h => e2 h.2.1)]
        have := sq_pos e2
        exact plane_two w px py pz ax ay az bx by_ bz cx cy cz U V Z hs hok hU hV hZ HN1 HN2 HN3 (eq_true e1) (eq_false e2) (by omega)
    · rw [if_neg (fun h => e1 h.1)]
      have := sq_pos e1
      exact plane_one w px py pz ax ay az bx by_ bz cx cy cz U V Z hs hok hU hV hZ HN1 HN2 HN3 (eq_false e1) (by omega)
  · have hchk : chkSps [(px, py, pz), (ax, ay, az), (bx, by_, bz), (cx, cy, cz)] = 2 := by rw [chkSps, if_neg]; intro h; exact hok (by simpa [okSps, and_assoc] using h)
    rw [planeR, if_neg hok]
    go_enter Tryz.func23, Tryz.ntmps23
    go_upto_region 1 with (fail)
    have hb0 : Below w.heap.size w ((((w.alloc (.cells #[.int .i64 px, .int .i64 py, .int .i64 pz] 33)).alloc (.cells #[.int .i64 ax, .int .i64 ay, .int .i64 az] 33)).alloc (.cells #[.int .i64 bx, .int .i64 by_, .int .i64 bz] 33)).alloc (.cells #[.int .i64 cx, .int .i64 cy, .int .i64 cz] 33)) := allocs_below w [(.cells #[.int .i64 px, .int .i64 py, .int .i64 pz] 33), (.cells #[.int .i64 ax, .int .i64 ay, .int .i64 az] 33), (.cells #[.int .i64 bx, .int .i64 by_, .int .i64 bz] 33), (.cells #[.int .i64 cx, .int .i64 cy, .int .i64 cz] 33)]
    have s0 : w.heap.size + 4 ≤ ((((w.alloc (.cells #[.int .i64 px, .int .i64 py, .int .i64 pz] 33)).alloc (.cells #[.int .i64 ax, .int .i64 ay, .int .i64 az] 33)).alloc (.cells #[.int .i64 bx, .int .i64 by_, .int .i64 bz] 33)).alloc (.cells #[.int .i64 cx, .int .i64 cy, .int .i64 cz] 33)).heap.size := Nat.le_of_eq (allocs_size w [(.cells #[.int .i64 px, .int .i64 py, .int .i64 pz] 33), (.cells #[.int .i64 ax, .int .i64 ay, .int .i64 az] 33), (.cells #[.int .i64 bx, .int .i64 by_, .int .i64 bz] 33), (.cells #[.int .i64 cx, .int .i64 cy, .int .i64 cz] 33)]).symm
    have kb0 : ((((w.alloc (.cells #[.int .i64 px, .int .i64 py, .int .i64 pz] 33)).alloc (.cells #[.int .i64 ax, .int .i64 ay, .int .i64 az] 33)).alloc (.cells #[.int .i64 bx, .int .i64 by_, .int .i64 bz] 33)).alloc (.cells #[.int .i64 cx, .int .i64 cy, .int .i64 cz] 33)).heap[w.heap.size + 0]? = some (.cells #[.int .i64 px, .int .i64 py, .int .i64 pz] 33) := allocs_at w [(.cells #[.int .i64 px, .int .i64 py, .int .i64 pz] 33), (.cells #[.int .i64 ax, .int .i64 ay, .int .i64 az] 33), (.cells #[.int .i64 bx, .int .i64 by_, .int .i64 bz] 33), (.cells #[.int .i64 cx, .int .i64 cy, .int .i64 cz] 33)] 0 rfl
    have kb1 : ((((w.alloc (.cells #[.int .i64 px, .int .i64 py, .int .i64 pz] 33)).alloc (.cells #[.int .i64 ax, .int .i64 ay, .int .i64 az] 33)).alloc (.cells #[.int .i64 bx, .int .i64 by_, .int .i64 bz] 33)).alloc (.cells #[.int .i64 cx, .int .i64 cy, .int .i64 cz] 33)).heap[w.heap.size + 1]? = some (.cells #[.int .i64 ax, .int .i64 ay, .int .i64 az] 33) := allocs_at w [(.cells #[.int .i64 px, .int .i64 py, .int .i64 pz] 33), (.cells #[.int .i64 ax, .int .i64 ay, .int .i64 az] 33), (.cells #[.int .i64 bx, .int .i64 by_, .int .i64 bz] 33), (.cells #[.int .i64 cx, .int .i64 cy, .int .i64 cz] 33)] 1 rfl
    have kb2 : ((((w.alloc (.cells #[.int .i64 px, .int .i64 py, .int .i64 pz] 33)).alloc (.cells #[.int .i64 ax, .int .i64 ay, .int .i64 az] 33)).alloc (.cells #[.int .i64 bx, .int .i64 by_, .int .i64 bz] 33)).alloc (.cells #[.int .i64 cx, .int .i64 cy, .int .i64 cz] 33)).heap[w.heap.size + 2]? = some (.cells #[.int .i64 bx, .int .i64 by_, .int .i64 bz] 33) := allocs_at w [(.cells #[.int .i64 px, .int .i64 py, .int .i64 pz] 33), (.cells #[.int .i64 ax, .int .i64 ay, .int .i64 az] 33), (.cells #[.int .i64 bx, .int .i64 by_, .int .i64 bz] 33), (.cells #[.int .i64 cx, .int .i64 cy, .int .i64 cz] 33)] 2 rfl
    have kb3 : ((((w.alloc (.cells #[.int .i64 px, .int .i64 py, .int .i64 pz] 33)).alloc (.cells #[.int .i64 ax, .int .i64 ay, .int .i64 az] 33)).alloc (.cells #[.int .i64 bx, .int .i64 by_, .int .i64 bz] 33)).alloc (.cells #[.int .i64 cx, .int .i64 cy, .int .i64 cz] 33)).heap[w.heap.size + 3]? = some (.cells #[.int .i64 cx, .int .i64 cy, .int .i64 cz] 33) := allocs_at w [(.cells #[.int .i64 px, .int .i64 py, .int .i64 pz] 33), (.cells #[.int .i64 ax, .int .i64 ay, .int .i64 az] 33), (.cells #[.int .i64 bx, .int .i64 by_, .int .i64 bz] 33), (.cells #[.int .i64 cx, .int .i64 cy, .int .i64 cz] 33)] 3 rfl
    generalize ((((w.alloc (.cells #[.int .i64 px, .int .i64 py, .int .i64 pz] 33)).alloc (.cells #[.int .i64 ax, .int .i64 ay, .int .i64 az] 33)).alloc (.cells #[.int .i64 bx, .int .i64 by_, .int .i64 bz] 33)).alloc (.cells #[.int .i64 cx, .int .i64 cy, .int .i64 cz] 33)) = w0 at *
    have k0_0 : w0.cell? ⟨w.heap.size, 0, none⟩ = some (.int .i64 px) := (Blk.cell kb0 0).trans rfl
    have k0_1 : w0.cell? ⟨w.heap.size, 1, none⟩ = some (.int .i64 py) := (Blk.cell kb0 1).trans rfl
    have k0_2 : w0.cell? ⟨w.heap.size, 2, none⟩ = some (.int .i64 pz) := (Blk.cell kb0 2).trans rfl
    have k1_0 : w0.cell? ⟨w.heap.size + 1, 0, none⟩ = some (.int .i64 ax) := (Blk.cell kb1 0).trans rfl
    have k1_1 : w0.cell? ⟨w.heap.size + 1, 1, none⟩ = some (.int .i64 ay) := (Blk.cell kb1 1).trans rfl
    have k1_2 : w0.cell? ⟨w.heap.size + 1, 2, none⟩ = some (.int .i64 az) := (Blk.cell kb1 2).trans rfl
    have k2_0 : w0.cell? ⟨w.heap.size + 1 + 1, 0, none⟩ = some (.int .i64 bx) := (Blk.cell kb2 0).trans rfl
    have k2_1 : w0.cell? ⟨w.heap.size + 1 + 1, 1, none⟩ = some (.int .i64 by_) := (Blk.cell kb2 1).trans rfl
    have k2_2 : w0.cell? ⟨w.heap.size + 1 + 1, 2, none⟩ = some (.int .i64 bz) := (Blk.cell kb2 2).trans rfl
    have k3_0 : w0.cell? ⟨w.heap.size + 1 + 1 + 1, 0, none⟩ = some (.int .i64 cx) := (Blk.cell kb3 0).trans rfl
    have k3_1 : w0.cell? ⟨w.heap.size + 1 + 1 + 1, 1, none⟩ = some (.int .i64 cy) := (Blk.cell kb3 1).trans rfl
    have k3_2 : w0.cell? ⟨w.heap.size + 1 + 1 + 1, 2, none⟩ = some (.int .i64 cz) := (Blk.cell kb3 2).trans rfl
    clear kb0 kb1 kb2 kb3
    have SK : ∀ w', Below w0.heap.size w0 w' → Below w0.heap.size w0 w' ∧ w'.cell? ⟨w.heap.size, 0, none⟩ = some (.int .i64 px) ∧ w'.cell? ⟨w.heap.size, 1, none⟩ = some (.int .i64 py) ∧ w'.cell? ⟨w.heap.size, 2, none⟩ = some (.int .i64 pz) ∧ w'.cell? ⟨w.heap.size + 1, 0, none⟩ = some (.int .i64 ax) ∧ w'.cell? ⟨w.heap.size + 1, 1, none⟩ = some (.int .i64 ay) ∧ w'.cell? ⟨w.heap.size + 1, 2, none⟩ = some (.int .i64 az) ∧ w'.cell? ⟨w.heap.size + 1 + 1, 0, none⟩ = some (.int .i64 bx) ∧ w'.cell? ⟨w.heap.size + 1 + 1, 1, none⟩ = some (.int .i64 by_) ∧ w'.cell? ⟨w.heap.size + 1 + 1, 2, none⟩ = some (.int .i64 bz) ∧ w'.cell? ⟨w.heap.size + 1 + 1 + 1, 0, none⟩ = some (.int .i64 cx) ∧ w'.cell? ⟨w.heap.size + 1 + 1 + 1, 1, none⟩ = some (.int .i64 cy) ∧ w'.cell? ⟨w.heap.size + 1 + 1 + 1, 2, none⟩ = some (.int .i64 cz) := fun w' h => ⟨h, (bcell h _ _ (by omega)).trans k0_0, (bcell h _ _ (by omega)).trans k0_1, (bcell h _ _ (by omega)).trans k0_2, (bcell h _ _ (by omega)).trans k1_0, (bcell h _ _ (by omega)).trans k1_1, (bcell h _ _ (by omega)).trans k1_2, (bcell h _ _ (by omega)).trans k2_0, (bcell h _ _ (by omega)).trans k2_1, (bcell h _ _ (by omega)).trans k2_2, (bcell h _ _ (by omega)).trans k3_0, (bcell h _ _ (by omega)).trans k3_1, (bcell h _ _ (by omega)).trans k3_2⟩
    go_wp2_with fail
    refine (alls_any _ _ [(px, py, pz), (ax, ay, az), (bx, by_, bz), (cx, cy, cz)] (Sps4 w0 (px, py, pz) (ax, ay, az) (bx, by_, bz) (cx, cy, cz) _ _) (by simp)).mono ?_
    rintro e w1 ⟨rfl, hb1⟩
    have hb1' := (allocs_below w0 [_]).trans (hb1.mono (by simp))
    rw [hchk]
    have hL1 : Below w0.heap.size w0 w1 := hb1'
    obtain ⟨-, c1_0, c1_1, c1_2, c1_3, c1_4, c1_5, c1_6, c1_7, c1_8, c1_9, c1_10, c1_11⟩ := SK _ hL1
    go_wp2_with fail
    go_ret2
    exact ⟨rfl, hb0.trans (hL1.mono hb0.size)⟩

end Go.Proofs.YtblfinpfcpglcaaGreatDoor
