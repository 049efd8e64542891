/- torsor: coordinates, form, Zero. torsor: the check of one point, given. -/
import Derived.Test.YtdkilkliccljeaaGreatDoorChks
import Derived.Test.YtdkilkliccljeaaGreatDoorTmap
import Derived.Test.YtdkilkliccljeaaGreatDoorTpl
namespace Go.Proofs.YtdkilkliccljeaaGreatDoor
open Go.RowKit MLab

set_option maxRecDepth 100000 in
theorem tcoord_any (w : World) (x y z : Int) : Calls Tryz.prog 45 #[.agg #[.int .i64 x, .int .i64 y, .int .i64 z]] w fun e w' => e = .returned (.agg #[.int .i64 x, .int .i64 y, .int .i64 z]) ∧ Below w.heap.size w w' := by
  go_enter Tryz.func45, Tryz.ntmps45
  go_wp2_with fail
  exact bodyPost_ret (v := .agg #[.int .i64 x, .int .i64 y, .int .i64 z]) (by simp [results, Tryz.results45, go_sem]) rfl ⟨rfl, allocs_below w [_, _]⟩

set_option maxRecDepth 100000 in
theorem tzero_any (w : World) : Calls Tryz.prog 16 #[] w fun e w' => e = .returned (.agg #[.string ⟨#[48]⟩, .string ⟨#[48]⟩, .string ⟨#[48]⟩, .string ⟨#[48]⟩, .string ⟨#[48]⟩, .string ⟨#[48]⟩]) ∧ Below w.heap.size w w' := by
  go_enter Tryz.func16, Tryz.ntmps16
  go_wp2_with fail
  refine (tmade_any _ ⟨#[48]⟩ ⟨#[48]⟩ ⟨#[48]⟩ ⟨#[48]⟩ ⟨#[48]⟩ ⟨#[48]⟩).mono ?_
  rintro e w1 ⟨rfl, hb1⟩
  have K0 := hide (Blk.new w 25 six0)
  have HB1 := hide ((allocs_below w [_]).trans (hb1.mono (allocs_below w [_]).size))
  have rhz := Blk.below K0.out hb1 (Blk.lt K0.out)
  have rz0 : w1.cell? ⟨w.heap.size, 0, none⟩ = some (.string ⟨#[]⟩) := (Blk.cell rhz 0).trans rfl
  have rf0 := Blk.frozen rhz 0
  have rz1 : w1.cell? ⟨w.heap.size, 1, none⟩ = some (.string ⟨#[]⟩) := (Blk.cell rhz 1).trans rfl
  have rf1 := Blk.frozen rhz 1
  have rz2 : w1.cell? ⟨w.heap.size, 2, none⟩ = some (.string ⟨#[]⟩) := (Blk.cell rhz 2).trans rfl
  have rf2 := Blk.frozen rhz 2
  have rz3 : w1.cell? ⟨w.heap.size, 3, none⟩ = some (.string ⟨#[]⟩) := (Blk.cell rhz 3).trans rfl
  have rf3 := Blk.frozen rhz 3
  have rz4 : w1.cell? ⟨w.heap.size, 4, none⟩ = some (.string ⟨#[]⟩) := (Blk.cell rhz 4).trans rfl
  have rf4 := Blk.frozen rhz 4
  have rz5 : w1.cell? ⟨w.heap.size, 5, none⟩ = some (.string ⟨#[]⟩) := (Blk.cell rhz 5).trans rfl
  have rf5 := Blk.frozen rhz 5
  clear rhz hb1 K0
  go_wp2_with fail
  exact bodyPost_ret (v := .agg #[.string ⟨#[48]⟩, .string ⟨#[48]⟩, .string ⟨#[48]⟩, .string ⟨#[48]⟩, .string ⟨#[48]⟩, .string ⟨#[48]⟩]) (by simp [results, Tryz.results16, go_sem, rz0, rz1, rz2, rz3, rz4, rz5]) rfl ⟨rfl, ((((((HB1.out.setCell (p := ⟨w.heap.size, 0, none⟩) (Nat.le_refl _) _).setCell (p := ⟨w.heap.size, 1, none⟩) (Nat.le_refl _) _).setCell (p := ⟨w.heap.size, 2, none⟩) (Nat.le_refl _) _).setCell (p := ⟨w.heap.size, 3, none⟩) (Nat.le_refl _) _).setCell (p := ⟨w.heap.size, 4, none⟩) (Nat.le_refl _) _).setCell (p := ⟨w.heap.size, 5, none⟩) (Nat.le_refl _) _)⟩

set_option maxRecDepth 100000 in
set_option maxHeartbeats 2000000 in
theorem tform0 (w : World) (x y z : Int) (hx : Cb x) (hy : Cb y) (hz : Cb z) : Calls Tryz.prog 47 #[.int .i64 0, .agg #[.int .i64 x, .int .i64 y, .int .i64 z]] w fun e w' => e = .returned (.agg #[.int .i64 (frm 0 x y z 0), .int .i64 (frm 0 x y z 1), .int .i64 (frm 0 x y z 2), .int .i64 (frm 0 x y z 3), .int .i64 (frm 0 x y z 4), .int .i64 (frm 0 x y z 5)]) ∧ Below w.heap.size w w' := by
  have x1 : -1000000 < x ∧ x < 1000000 := by unfold Cb at hx; omega
  have y1 : -1000000 < y ∧ y < 1000000 := by unfold Cb at hy; omega
  have z1 : -1000000 < z ∧ z < 1000000 := by unfold Cb at hz; omega
  have hb0 := hide (allocs_below w [.cells #[.int .i64 x, .int .i64 y, .int .i64 z] 27, .cells #[.int .i64 0, .int .i64 0, .int .i64 0, .int .i64 0, .int .i64 0, .int .i64 0] 85])
  have K0 := hide (show Blk (allocs w [.cells #[.int .i64 x, .int .i64 y, .int .i64 z] 27, .cells #[.int .i64 0, .int .i64 0, .int .i64 0, .int .i64 0, .int .i64 0, .int .i64 0] 85]) (w.heap.size + 1) 85 #[.int .i64 0, .int .i64 0, .int .i64 0, .int .i64 0, .int .i64 0, .int .i64 0] from allocs_at w [.cells #[.int .i64 x, .int .i64 y, .int .i64 z] 27, .cells #[.int .i64 0, .int .i64 0, .int .i64 0, .int .i64 0, .int .i64 0, .int .i64 0] 85] 1 rfl)
  clear hx hy hz
  go_enter Tryz.func47, Tryz.ntmps47
  go_wp2_with fail
  refine (tcoord_any _ x y z).mono ?_
  rintro e w1 ⟨rfl, hb1⟩
  have HB1 := hide (hb0.out.trans (Below.mono hb1 hb0.out.size))
  have hz := Blk.below K0.out hb1 (Blk.lt K0.out)
  have HZ := hide hz
  clear hz hb1 K0
  go_upto_region 7 with (fail)
  have rhz := (HZ.out.alloc (.cells #[.int .i64 x, .int .i64 y, .int .i64 z] 56)).alloc (.cells #[.int .i64 1, .int .i64 0, .int .i64 0, .int .i64 0, .int .i64 z, .int .i64 (-y)] 85)
  have rz0 : ((w1.alloc (.cells #[.int .i64 x, .int .i64 y, .int .i64 z] 56)).alloc (.cells #[.int .i64 1, .int .i64 0, .int .i64 0, .int .i64 0, .int .i64 z, .int .i64 (-y)] 85)).cell? ⟨w.heap.size + 1, 0, none⟩ = some (.int .i64 0) := (Blk.cell rhz 0).trans rfl
  have rf0 : ((w1.alloc (.cells #[.int .i64 x, .int .i64 y, .int .i64 z] 56)).alloc (.cells #[.int .i64 1, .int .i64 0, .int .i64 0, .int .i64 0, .int .i64 z, .int .i64 (-y)] 85)).frozen? ⟨w.heap.size + 1, 0, none⟩ = false := Blk.frozen rhz 0
  have rz1 : ((w1.alloc (.cells #[.int .i64 x, .int .i64 y, .int .i64 z] 56)).alloc (.cells #[.int .i64 1, .int .i64 0, .int .i64 0, .int .i64 0, .int .i64 z, .int .i64 (-y)] 85)).cell? ⟨w.heap.size + 1, 1, none⟩ = some (.int .i64 0) := (Blk.cell rhz 1).trans rfl
  have rf1 : ((w1.alloc (.cells #[.int .i64 x, .int .i64 y, .int .i64 z] 56)).alloc (.cells #[.int .i64 1, .int .i64 0, .int .i64 0, .int .i64 0, .int .i64 z, .int .i64 (-y)] 85)).frozen? ⟨w.heap.size + 1, 1, none⟩ = false := Blk.frozen rhz 1
  have rz2 : ((w1.alloc (.cells #[.int .i64 x, .int .i64 y, .int .i64 z] 56)).alloc (.cells #[.int .i64 1, .int .i64 0, .int .i64 0, .int .i64 0, .int .i64 z, .int .i64 (-y)] 85)).cell? ⟨w.heap.size + 1, 2, none⟩ = some (.int .i64 0) := (Blk.cell rhz 2).trans rfl
  have rf2 : ((w1.alloc (.cells #[.int .i64 x, .int .i64 y, .int .i64 z] 56)).alloc (.cells #[.int .i64 1, .int .i64 0, .int .i64 0, .int .i64 0, .int .i64 z, .int .i64 (-y)] 85)).frozen? ⟨w.heap.size + 1, 2, none⟩ = false := Blk.frozen rhz 2
  have rz3 : ((w1.alloc (.cells #[.int .i64 x, .int .i64 y, .int .i64 z] 56)).alloc (.cells #[.int .i64 1, .int .i64 0, .int .i64 0, .int .i64 0, .int .i64 z, .int .i64 (-y)] 85)).cell? ⟨w.heap.size + 1, 3, none⟩ = some (.int .i64 0) := (Blk.cell rhz 3).trans rfl
  have rf3 : ((w1.alloc (.cells #[.int .i64 x, .int .i64 y, .int .i64 z] 56)).alloc (.cells #[.int .i64 1, .int .i64 0, .int .i64 0, .int .i64 0, .int .i64 z, .int .i64 (-y)] 85)).frozen? ⟨w.heap.size + 1, 3, none⟩ = false := Blk.frozen rhz 3
  have rz4 : ((w1.alloc (.cells #[.int .i64 x, .int .i64 y, .int .i64 z] 56)).alloc (.cells #[.int .i64 1, .int .i64 0, .int .i64 0, .int .i64 0, .int .i64 z, .int .i64 (-y)] 85)).cell? ⟨w.heap.size + 1, 4, none⟩ = some (.int .i64 0) := (Blk.cell rhz 4).trans rfl
  have rf4 : ((w1.alloc (.cells #[.int .i64 x, .int .i64 y, .int .i64 z] 56)).alloc (.cells #[.int .i64 1, .int .i64 0, .int .i64 0, .int .i64 0, .int .i64 z, .int .i64 (-y)] 85)).frozen? ⟨w.heap.size + 1, 4, none⟩ = false := Blk.frozen rhz 4
  have rz5 : ((w1.alloc (.cells #[.int .i64 x, .int .i64 y, .int .i64 z] 56)).alloc (.cells #[.int .i64 1, .int .i64 0, .int .i64 0, .int .i64 0, .int .i64 z, .int .i64 (-y)] 85)).cell? ⟨w.heap.size + 1, 5, none⟩ = some (.int .i64 0) := (Blk.cell rhz 5).trans rfl
  have rf5 : ((w1.alloc (.cells #[.int .i64 x, .int .i64 y, .int .i64 z] 56)).alloc (.cells #[.int .i64 1, .int .i64 0, .int .i64 0, .int .i64 0, .int .i64 z, .int .i64 (-y)] 85)).frozen? ⟨w.heap.size + 1, 5, none⟩ = false := Blk.frozen rhz 5
  have HB2 := hide ((HB1.out.alloc HB1.out.size (.cells #[.int .i64 x, .int .i64 y, .int .i64 z] 56)).alloc (by have := HB1.out.size; simp; omega) (.cells #[.int .i64 1, .int .i64 0, .int .i64 0, .int .i64 0, .int .i64 z, .int .i64 (-y)] 85))
  clear rhz
  go_wp2_with fail
  exact bodyPost_ret (v := .agg #[.int .i64 (frm 0 x y z 0), .int .i64 (frm 0 x y z 1), .int .i64 (frm 0 x y z 2), .int .i64 (frm 0 x y z 3), .int .i64 (frm 0 x y z 4), .int .i64 (frm 0 x y z 5)]) (by simp [results, Tryz.results47, go_sem, frm, rz0, rz1, rz2, rz3, rz4, rz5]) rfl ⟨rfl, ((((((HB2.out.setCell (p := ⟨w.heap.size + 1, 0, none⟩) (Nat.le_add_right _ _) _).setCell (p := ⟨w.heap.size + 1, 1, none⟩) (Nat.le_add_right _ _) _).setCell (p := ⟨w.heap.size + 1, 2, none⟩) (Nat.le_add_right _ _) _).setCell (p := ⟨w.heap.size + 1, 3, none⟩) (Nat.le_add_right _ _) _).setCell (p := ⟨w.heap.size + 1, 4, none⟩) (Nat.le_add_right _ _) _).setCell (p := ⟨w.heap.size + 1, 5, none⟩) (Nat.le_add_right _ _) _)⟩

set_option maxRecDepth 100000 in
set_option maxHeartbeats 2000000 in
theorem tform1 (w : World) (x y z : Int) (hx : Cb x) (hy : Cb y) (hz : Cb z) : Calls Tryz.prog 47 #[.int .i64 1, .agg #[.int .i64 x, .int .i64 y, .int .i64 z]] w fun e w' => e = .returned (.agg #[.int .i64 (frm 1 x y z 0), .int .i64 (frm 1 x y z 1), .int .i64 (frm 1 x y z 2), .int .i64 (frm 1 x y z 3), .int .i64 (frm 1 x y z 4), .int .i64 (frm 1 x y z 5)]) ∧ Below w.heap.size w w' := by
  have x1 : -1000000 < x ∧ x < 1000000 := by unfold Cb at hx; omega
  have y1 : -1000000 < y ∧ y < 1000000 := by unfold Cb at hy; omega
  have z1 : -1000000 < z ∧ z < 1000000 := by unfold Cb at hz; omega
  have hb0 := hide (allocs_below w [.cells #[.int .i64 x, .int .i64 y, .int .i64 z] 27, .cells #[.int .i64 0, .int .i64 0, .int .i64 0, .int .i64 0, .int .i64 0, .int .i64 0] 85])
  have K0 := hide (show Blk (allocs w [.cells #[.int .i64 x, .int .i64 y, .int .i64 z] 27, .cells #[.int .i64 0, .int .i64 0, .int .i64 0, .int .i64 0, .int .i64 0, .int .i64 0] 85]) (w.heap.size + 1) 85 #[.int .i64 0, .int .i64 0, .int .i64 0, .int .i64 0, .int .i64 0, .int .i64 0] from allocs_at w [.cells #[.int .i64 x, .int .i64 y, .int .i64 z] 27, .cells #[.int .i64 0, .int .i64 0, .int .i64 0, .int .i64 0, .int .i64 0, .int .i64 0] 85] 1 rfl)
  clear hx hy hz
  go_enter Tryz.func47, Tryz.ntmps47
  go_wp2_with fail
  refine (tcoord_any _ x y z).mono ?_
  rintro e w1 ⟨rfl, hb1⟩
  have HB1 := hide (hb0.out.trans (Below.mono hb1 hb0.out.size))
  have hz := Blk.below K0.out hb1 (Blk.lt K0.out)
  have HZ := hide hz
  clear hz hb1 K0
  go_upto_region 7 with (fail)
  have rhz := (HZ.out.alloc (.cells #[.int .i64 x, .int .i64 y, .int .i64 z] 56)).alloc (.cells #[.int .i64 0, .int .i64 1, .int .i64 0, .int .i64 (-z), .int .i64 0, .int .i64 x] 85)
  have rz0 : ((w1.alloc (.cells #[.int .i64 x, .int .i64 y, .int .i64 z] 56)).alloc (.cells #[.int .i64 0, .int .i64 1, .int .i64 0, .int .i64 (-z), .int .i64 0, .int .i64 x] 85)).cell? ⟨w.heap.size + 1, 0, none⟩ = some (.int .i64 0) := (Blk.cell rhz 0).trans rfl
  have rf0 : ((w1.alloc (.cells #[.int .i64 x, .int .i64 y, .int .i64 z] 56)).alloc (.cells #[.int .i64 0, .int .i64 1, .int .i64 0, .int .i64 (-z), .int .i64 0, .int .i64 x] 85)).frozen? ⟨w.heap.size + 1, 0, none⟩ = false := Blk.frozen rhz 0
  have rz1 : ((w1.alloc (.cells #[.int .i64 x, .int .i64 y, .int .i64 z] 56)).alloc (.cells #[.int .i64 0, .int .i64 1, .int .i64 0, .int .i64 (-z), .int .i64 0, .int .i64 x] 85)).cell? ⟨w.heap.size + 1, 1, none⟩ = some (.int .i64 0) := (Blk.cell rhz 1).trans rfl
  have rf1 : ((w1.alloc (.cells #[.int .i64 x, .int .i64 y, .int .i64 z] 56)).alloc (.cells #[.int .i64 0, .int .i64 1, .int .i64 0, .int .i64 (-z), .int .i64 0, .int .i64 x] 85)).frozen? ⟨w.heap.size + 1, 1, none⟩ = false := Blk.frozen rhz 1
  have rz2 : ((w1.alloc (.cells #[.int .i64 x, .int .i64 y, .int .i64 z] 56)).alloc (.cells #[.int .i64 0, .int .i64 1, .int .i64 0, .int .i64 (-z), .int .i64 0, .int .i64 x] 85)).cell? ⟨w.heap.size + 1, 2, none⟩ = some (.int .i64 0) := (Blk.cell rhz 2).trans rfl
  have rf2 : ((w1.alloc (.cells #[.int .i64 x, .int .i64 y, .int .i64 z] 56)).alloc (.cells #[.int .i64 0, .int .i64 1, .int .i64 0, .int .i64 (-z), .int .i64 0, .int .i64 x] 85)).frozen? ⟨w.heap.size + 1, 2, none⟩ = false := Blk.frozen rhz 2
  have rz3 : ((w1.alloc (.cells #[.int .i64 x, .int .i64 y, .int .i64 z] 56)).alloc (.cells #[.int .i64 0, .int .i64 1, .int .i64 0, .int .i64 (-z), .int .i64 0, .int .i64 x] 85)).cell? ⟨w.heap.size + 1, 3, none⟩ = some (.int .i64 0) := (Blk.cell rhz 3).trans rfl
  have rf3 : ((w1.alloc (.cells #[.int .i64 x, .int .i64 y, .int .i64 z] 56)).alloc (.cells #[.int .i64 0, .int .i64 1, .int .i64 0, .int .i64 (-z), .int .i64 0, .int .i64 x] 85)).frozen? ⟨w.heap.size + 1, 3, none⟩ = false := Blk.frozen rhz 3
  have rz4 : ((w1.alloc (.cells #[.int .i64 x, .int .i64 y, .int .i64 z] 56)).alloc (.cells #[.int .i64 0, .int .i64 1, .int .i64 0, .int .i64 (-z), .int .i64 0, .int .i64 x] 85)).cell? ⟨w.heap.size + 1, 4, none⟩ = some (.int .i64 0) := (Blk.cell rhz 4).trans rfl
  have rf4 : ((w1.alloc (.cells #[.int .i64 x, .int .i64 y, .int .i64 z] 56)).alloc (.cells #[.int .i64 0, .int .i64 1, .int .i64 0, .int .i64 (-z), .int .i64 0, .int .i64 x] 85)).frozen? ⟨w.heap.size + 1, 4, none⟩ = false := Blk.frozen rhz 4
  have rz5 : ((w1.alloc (.cells #[.int .i64 x, .int .i64 y, .int .i64 z] 56)).alloc (.cells #[.int .i64 0, .int .i64 1, .int .i64 0, .int .i64 (-z), .int .i64 0, .int .i64 x] 85)).cell? ⟨w.heap.size + 1, 5, none⟩ = some (.int .i64 0) := (Blk.cell rhz 5).trans rfl
  have rf5 : ((w1.alloc (.cells #[.int .i64 x, .int .i64 y, .int .i64 z] 56)).alloc (.cells #[.int .i64 0, .int .i64 1, .int .i64 0, .int .i64 (-z), .int .i64 0, .int .i64 x] 85)).frozen? ⟨w.heap.size + 1, 5, none⟩ = false := Blk.frozen rhz 5
  have HB2 := hide ((HB1.out.alloc HB1.out.size (.cells #[.int .i64 x, .int .i64 y, .int .i64 z] 56)).alloc (by have := HB1.out.size; simp; omega) (.cells #[.int .i64 0, .int .i64 1, .int .i64 0, .int .i64 (-z), .int .i64 0, .int .i64 x] 85))
  clear rhz
  go_wp2_with fail
  exact bodyPost_ret (v := .agg #[.int .i64 (frm 1 x y z 0), .int .i64 (frm 1 x y z 1), .int .i64 (frm 1 x y z 2), .int .i64 (frm 1 x y z 3), .int .i64 (frm 1 x y z 4), .int .i64 (frm 1 x y z 5)]) (by simp [results, Tryz.results47, go_sem, frm, rz0, rz1, rz2, rz3, rz4, rz5]) rfl ⟨rfl, ((((((HB2.out.setCell (p := ⟨w.heap.size + 1, 0, none⟩) (Nat.le_add_right _ _) _).setCell (p := ⟨w.heap.size + 1, 1, none⟩) (Nat.le_add_right _ _) _).setCell (p := ⟨w.heap.size + 1, 2, none⟩) (Nat.le_add_right _ _) _).setCell (p := ⟨w.heap.size + 1, 3, none⟩) (Nat.le_add_right _ _) _).setCell (p := ⟨w.heap.size + 1, 4, none⟩) (Nat.le_add_right _ _) _).setCell (p := ⟨w.heap.size + 1, 5, none⟩) (Nat.le_add_right _ _) _)⟩

set_option maxRecDepth 100000 in
set_option maxHeartbeats 2000000 in
theorem tform2 (w : World) (x y z : Int) (hx : Cb x) (hy : Cb y) (hz : Cb z) : Calls Tryz.prog 47 #[.int .i64 2, .agg #[.int .i64 x, .int .i64 y, .int .i64 z]] w fun e w' => e = .returned (.agg #[.int .i64 (frm 2 x y z 0), .int .i64 (frm 2 x y z 1), .int .i64 (frm 2 x y z 2), .int .i64 (frm 2 x y z 3), .int .i64 (frm 2 x y z 4), .int .i64 (frm 2 x y z 5)]) ∧ Below w.heap.size w w' := by
  have x1 : -1000000 < x ∧ x < 1000000 := by unfold Cb at hx; omega
  have y1 : -1000000 < y ∧ y < 1000000 := by unfold Cb at hy; omega
  have z1 : -1000000 < z ∧ z < 1000000 := by unfold Cb at hz; omega
  have hb0 := hide (allocs_below w [.cells #[.int .i64 x, .int .i64 y, .int .i64 z] 27, .cells #[.int .i64 0, .int .i64 0, .int .i64 0, .int .i64 0, .int .i64 0, .int .i64 0] 85])
  have K0 := hide (show Blk (allocs w [.cells #[.int .i64 x, .int .i64 y, .int .i64 z] 27, .cells #[.int .i64 0, .int .i64 0, .int .i64 0, .int .i64 0, .int .i64 0, .int .i64 0] 85]) (w.heap.size + 1) 85 #[.int .i64 0, .int .i64 0, .int .i64 0, .int .i64 0, .int .i64 0, .int .i64 0] from allocs_at w [.cells #[.int .i64 x, .int .i64 y, .int .i64 z] 27, .cells #[.int .i64 0, .int .i64 0, .int .i64 0, .int .i64 0, .int .i64 0, .int .i64 0] 85] 1 rfl)
  clear hx hy hz
  go_enter Tryz.func47, Tryz.ntmps47
  go_wp2_with fail
  refine (tcoord_any _ x y z).mono ?_
  rintro e w1 ⟨rfl, hb1⟩
  have HB1 := hide (hb0.out.trans (Below.mono hb1 hb0.out.size))
  have hz := Blk.below K0.out hb1 (Blk.lt K0.out)
  have HZ := hide hz
  clear hz hb1 K0
  go_upto_region 7 with (fail)
  have rhz := (HZ.out.alloc (.cells #[.int .i64 x, .int .i64 y, .int .i64 z] 56)).alloc (.cells #[.int .i64 0, .int .i64 0, .int .i64 1, .int .i64 y, .int .i64 (-x), .int .i64 0] 85)
  have rz0 : ((w1.alloc (.cells #[.int .i64 x, .int .i64 y, .int .i64 z] 56)).alloc (.cells #[.int .i64 0, .int .i64 0, .int .i64 1, .int .i64 y, .int .i64 (-x), .int .i64 0] 85)).cell? ⟨w.heap.size + 1, 0, none⟩ = some (.int .i64 0) := (Blk.cell rhz 0).trans rfl
  have rf0 : ((w1.alloc (.cells #[.int .i64 x, .int .i64 y, .int .i64 z] 56)).alloc (.cells #[.int .i64 0, .int .i64 0, .int .i64 1, .int .i64 y, .int .i64 (-x), .int .i64 0] 85)).frozen? ⟨w.heap.size + 1, 0, none⟩ = false := Blk.frozen rhz 0
  have rz1 : ((w1.alloc (.cells #[.int .i64 x, .int .i64 y, .int .i64 z] 56)).alloc (.cells #[.int .i64 0, .int .i64 0, .int .i64 1, .int .i64 y, .int .i64 (-x), .int .i64 0] 85)).cell? ⟨w.heap.size + 1, 1, none⟩ = some (.int .i64 0) := (Blk.cell rhz 1).trans rfl
  have rf1 : ((w1.alloc (.cells #[.int .i64 x, .int .i64 y, .int .i64 z] 56)).alloc (.cells #[.int .i64 0, .int .i64 0, .int .i64 1, .int .i64 y, .int .i64 (-x), .int .i64 0] 85)).frozen? ⟨w.heap.size + 1, 1, none⟩ = false := Blk.frozen rhz 1
  have rz2 : ((w1.alloc (.cells #[.int .i64 x, .int .i64 y, .int .i64 z] 56)).alloc (.cells #[.int .i64 0, .int .i64 0, .int .i64 1, .int .i64 y, .int .i64 (-x), .int .i64 0] 85)).cell? ⟨w.heap.size + 1, 2, none⟩ = some (.int .i64 0) := (Blk.cell rhz 2).trans rfl
  have rf2 : ((w1.alloc (.cells #[.int .i64 x, .int .i64 y, .int .i64 z] 56)).alloc (.cells #[.int .i64 0, .int .i64 0, .int .i64 1, .int .i64 y, .int .i64 (-x), .int .i64 0] 85)).frozen? ⟨w.heap.size + 1, 2, none⟩ = false := Blk.frozen rhz 2
  have rz3 : ((w1.alloc (.cells #[.int .i64 x, .int .i64 y, .int .i64 z] 56)).alloc (.cells #[.int .i64 0, .int .i64 0, .int .i64 1, .int .i64 y, .int .i64 (-x), .int .i64 0] 85)).cell? ⟨w.heap.size + 1, 3, none⟩ = some (.int .i64 0) := (Blk.cell rhz 3).trans rfl
  have rf3 : ((w1.alloc (.cells #[.int .i64 x, .int .i64 y, .int .i64 z] 56)).alloc (.cells #[.int .i64 0, .int .i64 0, .int .i64 1, .int .i64 y, .int .i64 (-x), .int .i64 0] 85)).frozen? ⟨w.heap.size + 1, 3, none⟩ = false := Blk.frozen rhz 3
  have rz4 : ((w1.alloc (.cells #[.int .i64 x, .int .i64 y, .int .i64 z] 56)).alloc (.cells #[.int .i64 0, .int .i64 0, .int .i64 1, .int .i64 y, .int .i64 (-x), .int .i64 0] 85)).cell? ⟨w.heap.size + 1, 4, none⟩ = some (.int .i64 0) := (Blk.cell rhz 4).trans rfl
  have rf4 : ((w1.alloc (.cells #[.int .i64 x, .int .i64 y, .int .i64 z] 56)).alloc (.cells #[.int .i64 0, .int .i64 0, .int .i64 1, .int .i64 y, .int .i64 (-x), .int .i64 0] 85)).frozen? ⟨w.heap.size + 1, 4, none⟩ = false := Blk.frozen rhz 4
  have rz5 : ((w1.alloc (.cells #[.int .i64 x, .int .i64 y, .int .i64 z] 56)).alloc (.cells #[.int .i64 0, .int .i64 0, .int .i64 1, .int .i64 y, .int .i64 (-x), .int .i64 0] 85)).cell? ⟨w.heap.size + 1, 5, none⟩ = some (.int .i64 0) := (Blk.cell rhz 5).trans rfl
  have rf5 : ((w1.alloc (.cells #[.int .i64 x, .int .i64 y, .int .i64 z] 56)).alloc (.cells #[.int .i64 0, .int .i64 0, .int .i64 1, .int .i64 y, .int .i64 (-x), .int .i64 0] 85)).frozen? ⟨w.heap.size + 1, 5, none⟩ = false := Blk.frozen rhz 5
  have HB2 := hide ((HB1.out.alloc HB1.out.size (.cells #[.int .i64 x, .int .i64 y, .int .i64 z] 56)).alloc (by have := HB1.out.size; simp; omega) (.cells #[.int .i64 0, .int .i64 0, .int .i64 1, .int .i64 y, .int .i64 (-x), .int .i64 0] 85))
  clear rhz
  go_wp2_with fail
  exact bodyPost_ret (v := .agg #[.int .i64 (frm 2 x y z 0), .int .i64 (frm 2 x y z 1), .int .i64 (frm 2 x y z 2), .int .i64 (frm 2 x y z 3), .int .i64 (frm 2 x y z 4), .int .i64 (frm 2 x y z 5)]) (by simp [results, Tryz.results47, go_sem, frm, rz0, rz1, rz2, rz3, rz4, rz5]) rfl ⟨rfl, ((((((HB2.out.setCell (p := ⟨w.heap.size + 1, 0, none⟩) (Nat.le_add_right _ _) _).setCell (p := ⟨w.heap.size + 1, 1, none⟩) (Nat.le_add_right _ _) _).setCell (p := ⟨w.heap.size + 1, 2, none⟩) (Nat.le_add_right _ _) _).setCell (p := ⟨w.heap.size + 1, 3, none⟩) (Nat.le_add_right _ _) _).setCell (p := ⟨w.heap.size + 1, 4, none⟩) (Nat.le_add_right _ _) _).setCell (p := ⟨w.heap.size + 1, 5, none⟩) (Nat.le_add_right _ _) _)⟩
end Go.Proofs.YtdkilkliccljeaaGreatDoor

namespace Go.Proofs.YtdkilkliccljeaaGreatDoor
open Go.RowKit MLab

theorem Co.cb {x : Int} (h : Co x) : Cb x := by unfold Cb; have := h.1; have := h.2; omega
theorem chk_one (x y z : Int) : chkSpsN [(x, y, z)] = if Co x ∧ Co y ∧ Co z then 0 else 2 := by
  rw [chkSpsN, if_neg (by simp), chkSps]
  simp [okSps]
set_option maxRecDepth 100000 in
theorem one_spot (w : World) (g : Nat) (hg : g = w.heap.size) (x y z : Int) (t : TypeId) (c : Nat) :
    Calls Tryz.prog 44 #[.slice (some ⟨g, 0, none⟩) 1 c] (w.alloc (.cells #[.int .i64 x, .int .i64 y, .int .i64 z] t)) fun e w' => e = .returned (.int .i64 (if Co x ∧ Co y ∧ Co z then 0 else 2)) ∧ Below w.heap.size w w' := by
  subst hg
  have h := CheckSpots_any _ _ [(x, y, z)] (Sps.new w [(x, y, z)] t #[.int .i64 x, .int .i64 y, .int .i64 z] (fun i p hi => match i, hi with | 0, hi => by cases hi; exact ⟨rfl, rfl, rfl⟩ | j + 1, hi => by simp at hi) c) (by simp)
  rw [chk_one] at h
  exact h.mono fun e w' ⟨h1, h2⟩ => ⟨h1, (allocs_below w [_]).trans (h2.mono (allocs_below w [_]).size)⟩

def gvn (k x y z : Int) : Int := if k < 0 ∨ 3 ≤ k then 1 else if Co x ∧ Co y ∧ Co z then 0 else 2
set_option maxRecDepth 100000 in
set_option maxHeartbeats 2000000 in
theorem given_any (w : World) (k x y z : Int) :
    Calls Tryz.prog 56 #[.int .i64 k, .agg #[.int .i64 x, .int .i64 y, .int .i64 z]] w fun e w' => e = .returned (.int .i64 (gvn k x y z)) ∧ Below w.heap.size w w' := by
  have hb0 := hide (allocs_below w [.cells #[.int .i64 x, .int .i64 y, .int .i64 z] 27])
  by_cases h1 : k < 0
  · have HG := hide (show gvn k x y z = 1 by rw [gvn, if_pos (.inl h1)])
    go_enter Tryz.func56, Tryz.ntmps56
    go_wp2_with fail
    rw [HG.out]
    go_ret
    exact ⟨rfl, hb0.out⟩
  · by_cases h2 : 3 ≤ k
    · have HG := hide (show gvn k x y z = 1 by rw [gvn, if_pos (.inr h2)])
      go_enter Tryz.func56, Tryz.ntmps56
      go_wp2_with fail
      rw [HG.out]
      go_ret
      exact ⟨rfl, hb0.out⟩
    · have HG := hide (show gvn k x y z = if Co x ∧ Co y ∧ Co z then 0 else 2 by rw [gvn, if_neg (by omega)])
      go_enter Tryz.func56, Tryz.ntmps56
      go_wp2_with fail
      refine (one_spot _ _ (by simp) x y z _ 1).mono ?_
      rintro e w1 ⟨rfl, hb1⟩
      rw [← HG.out]
      have HB1 := hide (hb0.out.trans (hb1.mono hb0.out.size))
      clear hb1
      go_wp2_with fail
      go_ret
      exact ⟨rfl, HB1.out⟩
end Go.Proofs.YtdkilkliccljeaaGreatDoor
