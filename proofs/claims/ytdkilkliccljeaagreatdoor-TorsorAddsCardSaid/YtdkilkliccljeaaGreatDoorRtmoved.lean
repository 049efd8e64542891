/- metrolabref40: Moved, Gone, Zero, Apply. -/
import Derived.Test.YtdkilkliccljeaaGreatDoorRtrow
import Derived.Test.YtdkilkliccljeaaGreatDoorTabout
namespace Go.Proofs.YtdkilkliccljeaaGreatDoor
open Go.RowKit MLab

theorem rtnums_six (w : World) (q : Nat → Rat) :
    Calls Tryz.prog 43 #[.agg (TV q)] w fun e w' => (∃ v, e = .returned v ∧ Six (fun i => ⟨(RT (q i)).toArray⟩) v w') ∧ Below w.heap.size w w' := by
  refine (rtnums_eq w _ _ _ _ _ _).mono ?_
  rintro e w1 ⟨W, hW, rfl, rfl⟩
  refine ⟨⟨_, rfl, _, _, rfl, fun p hp => ?_⟩, hW.alloc hW.size _⟩
  rw [Blk.cell (Blk.new W _ _) p]
  match p, hp with
  | 0, _ => rfl
  | 1, _ => rfl
  | 2, _ => rfl
  | 3, _ => rfl
  | 4, _ => rfl
  | 5, _ => rfl

set_option maxRecDepth 100000 in
set_option maxHeartbeats 8000000 in
theorem rtmoved_any (w : World) (k : Nat) (hk : k < 3) (x y z : Int) (q : Nat → Rat) {m : Nat} (hm : m ≤ 160) (hq : ∀ i, i < 6 → Sz m m (q i)) (hw : Co x ∧ Co y ∧ Co z) :
    Calls Tryz.prog 94 #[.agg (TV q), .agg #[.int .i64 x, .int .i64 y, .int .i64 z], .int .i64 (k : Int)] w fun e w' => e = .returned (.string ⟨(RT (mvd k x y z q)).toArray⟩) ∧ Below w.heap.size w w' := by
  have hb0 := allocs_below w [.cells (TV q) 25, .cells #[.int .i64 x, .int .i64 y, .int .i64 z] 27]
  have hk0 : Blk (allocs w [.cells (TV q) 25, .cells #[.int .i64 x, .int .i64 y, .int .i64 z] 27]) (w.heap.size + 0) 25 (TV q) := allocs_at w [.cells (TV q) 25, .cells #[.int .i64 x, .int .i64 y, .int .i64 z] 27] 0 rfl
  have hk1 : Blk (allocs w [.cells (TV q) 25, .cells #[.int .i64 x, .int .i64 y, .int .i64 z] 27]) (w.heap.size + 1) 27 #[.int .i64 x, .int .i64 y, .int .i64 z] := allocs_at w [.cells (TV q) 25, .cells #[.int .i64 x, .int .i64 y, .int .i64 z] 27] 1 rfl
  unfold allocs at hb0 hk0 hk1
  simp only [List.foldl_cons, List.foldl_nil] at hb0 hk0 hk1
  have HC := hide hw
  have HQ := hide hq
  have MC := hide (fun W => rtcoo_any W k hk x y z)
  have MR := hide (fun W => rtrow_any W k hk x y z hw.1.cb hw.2.1.cb hw.2.2.cb)
  have HCC := hide (coo_cb k hw.1.cb hw.2.1.cb hw.2.2.cb)
  have MW : Hid (∀ W, Calls Tryz.prog 25 #[.int .i64 (coo k x y z)] W fun e w' => e = .returned (.string ⟨(RT ((coo k x y z : Int) : Rat)).toArray⟩) ∧ Below W.heap.size W w') := hide (fun W => r2whole_any _ (by have := HCC.out; unfold Cb at this; omega) (by have := HCC.out; unfold Cb at this; omega) W)
  have MD := hide (fun W va vb ha hb => rdot_any W va vb (frm k x y z) q ha hb hm (fun i _ => frm_cb k hw.1.cb hw.2.1.cb hw.2.2.cb i) hq)
  have MP := hide (fun W => rqplus_any W ⟨(RT ((coo k x y z : Int) : Rat)).toArray⟩ ⟨(RT (psum (frm k x y z) q 6)).toArray⟩ _ _ rfl rfl (m := 6 * 160 + 12) (by omega) (HCC.out.sz.mono (by omega) (by omega)) ((psum_six (fun i _ => frm_cb k hw.1.cb hw.2.1.cb hw.2.2.cb i) hq 6 (Nat.le_refl _)).mono (by omega) (by omega)))
  clear hw hq
  go_enter Tryz.func94, Tryz.ntmps94
  go_upto_region 1 with (fail)
  generalize ((w.alloc (.cells (TV q) 25)).alloc (.cells #[.int .i64 x, .int .i64 y, .int .i64 z] 27)) = w0 at *
  have HB0 := hide hb0
  rw [Nat.add_zero] at hk0
  have t0 : w0.cell? ⟨w.heap.size, 0, none⟩ = some (.string ⟨(RT (q 0)).toArray⟩) := (Blk.cell hk0 0).trans rfl
  have t1 : w0.cell? ⟨w.heap.size, 1, none⟩ = some (.string ⟨(RT (q 1)).toArray⟩) := (Blk.cell hk0 1).trans rfl
  have t2 : w0.cell? ⟨w.heap.size, 2, none⟩ = some (.string ⟨(RT (q 2)).toArray⟩) := (Blk.cell hk0 2).trans rfl
  have t3 : w0.cell? ⟨w.heap.size, 3, none⟩ = some (.string ⟨(RT (q 3)).toArray⟩) := (Blk.cell hk0 3).trans rfl
  have t4 : w0.cell? ⟨w.heap.size, 4, none⟩ = some (.string ⟨(RT (q 4)).toArray⟩) := (Blk.cell hk0 4).trans rfl
  have t5 : w0.cell? ⟨w.heap.size, 5, none⟩ = some (.string ⟨(RT (q 5)).toArray⟩) := (Blk.cell hk0 5).trans rfl
  have p0 : w0.cell? ⟨w.heap.size + 1, 0, none⟩ = some (.int .i64 x) := (Blk.cell hk1 0).trans rfl
  have p1 : w0.cell? ⟨w.heap.size + 1, 1, none⟩ = some (.int .i64 y) := (Blk.cell hk1 1).trans rfl
  have p2 : w0.cell? ⟨w.heap.size + 1, 2, none⟩ = some (.int .i64 z) := (Blk.cell hk1 2).trans rfl
  clear hb0 hk0 hk1
  have SK : ∀ w', Below w0.heap.size w0 w' → (fun w' => Below w0.heap.size w0 w' ∧ w'.cell? ⟨w.heap.size, 0, none⟩ = some (.string ⟨(RT (q 0)).toArray⟩) ∧ w'.cell? ⟨w.heap.size, 1, none⟩ = some (.string ⟨(RT (q 1)).toArray⟩) ∧ w'.cell? ⟨w.heap.size, 2, none⟩ = some (.string ⟨(RT (q 2)).toArray⟩) ∧ w'.cell? ⟨w.heap.size, 3, none⟩ = some (.string ⟨(RT (q 3)).toArray⟩) ∧ w'.cell? ⟨w.heap.size, 4, none⟩ = some (.string ⟨(RT (q 4)).toArray⟩) ∧ w'.cell? ⟨w.heap.size, 5, none⟩ = some (.string ⟨(RT (q 5)).toArray⟩) ∧ w'.cell? ⟨w.heap.size + 1, 0, none⟩ = some (.int .i64 x) ∧ w'.cell? ⟨w.heap.size + 1, 1, none⟩ = some (.int .i64 y) ∧ w'.cell? ⟨w.heap.size + 1, 2, none⟩ = some (.int .i64 z)) w' := fun w' h => ⟨h, (bcell h _ _ (block_lt_of_cell t0)).trans t0, (bcell h _ _ (block_lt_of_cell t1)).trans t1, (bcell h _ _ (block_lt_of_cell t2)).trans t2, (bcell h _ _ (block_lt_of_cell t3)).trans t3, (bcell h _ _ (block_lt_of_cell t4)).trans t4, (bcell h _ _ (block_lt_of_cell t5)).trans t5, (bcell h _ _ (block_lt_of_cell p0)).trans p0, (bcell h _ _ (block_lt_of_cell p1)).trans p1, (bcell h _ _ (block_lt_of_cell p2)).trans p2⟩
  go_region_held3 (fun w' => Below w0.heap.size w0 w' ∧ w'.cell? ⟨w.heap.size, 0, none⟩ = some (.string ⟨(RT (q 0)).toArray⟩) ∧ w'.cell? ⟨w.heap.size, 1, none⟩ = some (.string ⟨(RT (q 1)).toArray⟩) ∧ w'.cell? ⟨w.heap.size, 2, none⟩ = some (.string ⟨(RT (q 2)).toArray⟩) ∧ w'.cell? ⟨w.heap.size, 3, none⟩ = some (.string ⟨(RT (q 3)).toArray⟩) ∧ w'.cell? ⟨w.heap.size, 4, none⟩ = some (.string ⟨(RT (q 4)).toArray⟩) ∧ w'.cell? ⟨w.heap.size, 5, none⟩ = some (.string ⟨(RT (q 5)).toArray⟩) ∧ w'.cell? ⟨w.heap.size + 1, 0, none⟩ = some (.int .i64 x) ∧ w'.cell? ⟨w.heap.size + 1, 1, none⟩ = some (.int .i64 y) ∧ w'.cell? ⟨w.heap.size + 1, 2, none⟩ = some (.int .i64 z)) (first | exact SK _ (Below.refl _ _).drew | exact SK _ (Below.refl _ _) | exact SK _ (bel_next (by assumption) (by assumption) (Nat.le_refl _)))
    (first
      | (go_at_call 100; refine (MC.out _).mono ?_; rintro e wx ⟨rfl, hbW⟩)
      | (go_at_call 25; refine (MW.out _).mono ?_; rintro e wx ⟨rfl, hbW⟩)
      | (go_at_call 59; refine (MR.out _).mono ?_; rintro e wx ⟨⟨v, rfl, hsix⟩, hbW⟩)
      | (go_at_call 43; refine (rtnums_six _ q).mono ?_; rintro e wx ⟨⟨v2, rfl, hsix2⟩, hbW⟩; replace hsix := Six.below hsix hbW)
      | (go_at_call 138; refine (MD.out _ _ _ hsix hsix2).mono ?_; rintro e wx ⟨rfl, hbW⟩)
      | (go_at_call 28; refine (MP.out _).mono ?_; rintro e wx ⟨rfl, hbW⟩))
  obtain ⟨hbx, _⟩ : _ ∧ _ := by assumption
  have HX := hide (HB0.out.trans (Below.mono hbx HB0.out.size))
  clear hbx SK
  go_wp2_with fail
  go_ret
  exact ⟨rfl, HX.out⟩
theorem rtmoved0 (w : World) (x y z : Int) (q : Nat → Rat) {m : Nat} (hm : m ≤ 160) (hq : ∀ i, i < 6 → Sz m m (q i)) (hw : Co x ∧ Co y ∧ Co z) :
    Calls Tryz.prog 94 #[.agg (TV q), .agg #[.int .i64 x, .int .i64 y, .int .i64 z], .int .i64 0] w fun e w' => e = .returned (.string ⟨(RT (mvd 0 x y z q)).toArray⟩) ∧ Below w.heap.size w w' := rtmoved_any w 0 (by omega) x y z q hm hq hw
theorem rtmoved1 (w : World) (x y z : Int) (q : Nat → Rat) {m : Nat} (hm : m ≤ 160) (hq : ∀ i, i < 6 → Sz m m (q i)) (hw : Co x ∧ Co y ∧ Co z) :
    Calls Tryz.prog 94 #[.agg (TV q), .agg #[.int .i64 x, .int .i64 y, .int .i64 z], .int .i64 1] w fun e w' => e = .returned (.string ⟨(RT (mvd 1 x y z q)).toArray⟩) ∧ Below w.heap.size w w' := rtmoved_any w 1 (by omega) x y z q hm hq hw
theorem rtmoved2 (w : World) (x y z : Int) (q : Nat → Rat) {m : Nat} (hm : m ≤ 160) (hq : ∀ i, i < 6 → Sz m m (q i)) (hw : Co x ∧ Co y ∧ Co z) :
    Calls Tryz.prog 94 #[.agg (TV q), .agg #[.int .i64 x, .int .i64 y, .int .i64 z], .int .i64 2] w fun e w' => e = .returned (.string ⟨(RT (mvd 2 x y z q)).toArray⟩) ∧ Below w.heap.size w w' := rtmoved_any w 2 (by omega) x y z q hm hq hw

set_option maxRecDepth 100000 in
set_option maxHeartbeats 8000000 in
theorem rtgone_any (w : World) (x y z : Int) (q : Nat → Rat) {m : Nat} (hm : m ≤ 160) (hq : ∀ i, i < 6 → Sz m m (q i)) (hw : Co x ∧ Co y ∧ Co z) :
    Calls Tryz.prog 51 #[.agg (TV q), .agg #[.int .i64 x, .int .i64 y, .int .i64 z]] w fun e w' => e = .returned (.agg #[.string ⟨(RT (mvd 0 x y z q)).toArray⟩, .string ⟨(RT (mvd 1 x y z q)).toArray⟩, .string ⟨(RT (mvd 2 x y z q)).toArray⟩]) ∧ Below w.heap.size w w' := by
  have hb0 := allocs_below w [.cells (TV q) 25, .cells #[.int .i64 x, .int .i64 y, .int .i64 z] 27, .cells #[.string ⟨#[]⟩, .string ⟨#[]⟩, .string ⟨#[]⟩] 23]
  have hk0 : Blk (allocs w [.cells (TV q) 25, .cells #[.int .i64 x, .int .i64 y, .int .i64 z] 27, .cells #[.string ⟨#[]⟩, .string ⟨#[]⟩, .string ⟨#[]⟩] 23]) (w.heap.size + 0) 25 (TV q) := allocs_at w [.cells (TV q) 25, .cells #[.int .i64 x, .int .i64 y, .int .i64 z] 27, .cells #[.string ⟨#[]⟩, .string ⟨#[]⟩, .string ⟨#[]⟩] 23] 0 rfl
  have hk1 : Blk (allocs w [.cells (TV q) 25, .cells #[.int .i64 x, .int .i64 y, .int .i64 z] 27, .cells #[.string ⟨#[]⟩, .string ⟨#[]⟩, .string ⟨#[]⟩] 23]) (w.heap.size + 1) 27 #[.int .i64 x, .int .i64 y, .int .i64 z] := allocs_at w [.cells (TV q) 25, .cells #[.int .i64 x, .int .i64 y, .int .i64 z] 27, .cells #[.string ⟨#[]⟩, .string ⟨#[]⟩, .string ⟨#[]⟩] 23] 1 rfl
  have hk2 : Blk (allocs w [.cells (TV q) 25, .cells #[.int .i64 x, .int .i64 y, .int .i64 z] 27, .cells #[.string ⟨#[]⟩, .string ⟨#[]⟩, .string ⟨#[]⟩] 23]) (w.heap.size + 2) 23 #[.string ⟨#[]⟩, .string ⟨#[]⟩, .string ⟨#[]⟩] := allocs_at w [.cells (TV q) 25, .cells #[.int .i64 x, .int .i64 y, .int .i64 z] 27, .cells #[.string ⟨#[]⟩, .string ⟨#[]⟩, .string ⟨#[]⟩] 23] 2 rfl
  unfold allocs at hb0 hk0 hk1 hk2
  simp only [List.foldl_cons, List.foldl_nil] at hb0 hk0 hk1 hk2
  have M0 := hide (fun W => rtmoved0 W x y z q hm hq hw)
  have M1 := hide (fun W => rtmoved1 W x y z q hm hq hw)
  have M2 := hide (fun W => rtmoved2 W x y z q hm hq hw)
  clear hw hq
  go_enter Tryz.func51, Tryz.ntmps51
  go_upto_region 1 with (fail)
  generalize (((w.alloc (.cells (TV q) 25)).alloc (.cells #[.int .i64 x, .int .i64 y, .int .i64 z] 27)).alloc (.cells #[.string ⟨#[]⟩, .string ⟨#[]⟩, .string ⟨#[]⟩] 23)) = w0 at *
  have HB0 := hide hb0
  rw [Nat.add_zero] at hk0
  have t0 : w0.cell? ⟨w.heap.size, 0, none⟩ = some (.string ⟨(RT (q 0)).toArray⟩) := (Blk.cell hk0 0).trans rfl
  have t1 : w0.cell? ⟨w.heap.size, 1, none⟩ = some (.string ⟨(RT (q 1)).toArray⟩) := (Blk.cell hk0 1).trans rfl
  have t2 : w0.cell? ⟨w.heap.size, 2, none⟩ = some (.string ⟨(RT (q 2)).toArray⟩) := (Blk.cell hk0 2).trans rfl
  have t3 : w0.cell? ⟨w.heap.size, 3, none⟩ = some (.string ⟨(RT (q 3)).toArray⟩) := (Blk.cell hk0 3).trans rfl
  have t4 : w0.cell? ⟨w.heap.size, 4, none⟩ = some (.string ⟨(RT (q 4)).toArray⟩) := (Blk.cell hk0 4).trans rfl
  have t5 : w0.cell? ⟨w.heap.size, 5, none⟩ = some (.string ⟨(RT (q 5)).toArray⟩) := (Blk.cell hk0 5).trans rfl
  have p0 : w0.cell? ⟨w.heap.size + 1, 0, none⟩ = some (.int .i64 x) := (Blk.cell hk1 0).trans rfl
  have p1 : w0.cell? ⟨w.heap.size + 1, 1, none⟩ = some (.int .i64 y) := (Blk.cell hk1 1).trans rfl
  have p2 : w0.cell? ⟨w.heap.size + 1, 2, none⟩ = some (.int .i64 z) := (Blk.cell hk1 2).trans rfl
  have rhz := hk2
  have rz0 : w0.cell? ⟨w.heap.size + 2, 0, none⟩ = some (.string ⟨#[]⟩) := (Blk.cell rhz 0).trans rfl
  have rf0 : w0.frozen? ⟨w.heap.size + 2, 0, none⟩ = false := Blk.frozen rhz 0
  have rz1 : w0.cell? ⟨w.heap.size + 2, 1, none⟩ = some (.string ⟨#[]⟩) := (Blk.cell rhz 1).trans rfl
  have rf1 : w0.frozen? ⟨w.heap.size + 2, 1, none⟩ = false := Blk.frozen rhz 1
  have rz2 : w0.cell? ⟨w.heap.size + 2, 2, none⟩ = some (.string ⟨#[]⟩) := (Blk.cell rhz 2).trans rfl
  have rf2 : w0.frozen? ⟨w.heap.size + 2, 2, none⟩ = false := Blk.frozen rhz 2
  have KR := hide hk2
  clear hb0 hk0 hk1 hk2 rhz
  have SK : ∀ w', Below (w.heap.size + 2) w0 w' → (fun w' => Below (w.heap.size + 2) w0 w' ∧ w'.cell? ⟨w.heap.size, 0, none⟩ = some (.string ⟨(RT (q 0)).toArray⟩) ∧ w'.cell? ⟨w.heap.size, 1, none⟩ = some (.string ⟨(RT (q 1)).toArray⟩) ∧ w'.cell? ⟨w.heap.size, 2, none⟩ = some (.string ⟨(RT (q 2)).toArray⟩) ∧ w'.cell? ⟨w.heap.size, 3, none⟩ = some (.string ⟨(RT (q 3)).toArray⟩) ∧ w'.cell? ⟨w.heap.size, 4, none⟩ = some (.string ⟨(RT (q 4)).toArray⟩) ∧ w'.cell? ⟨w.heap.size, 5, none⟩ = some (.string ⟨(RT (q 5)).toArray⟩) ∧ w'.cell? ⟨w.heap.size + 1, 0, none⟩ = some (.int .i64 x) ∧ w'.cell? ⟨w.heap.size + 1, 1, none⟩ = some (.int .i64 y) ∧ w'.cell? ⟨w.heap.size + 1, 2, none⟩ = some (.int .i64 z)) w' := fun w' h => ⟨h, (bcell h _ _ (by omega)).trans t0, (bcell h _ _ (by omega)).trans t1, (bcell h _ _ (by omega)).trans t2, (bcell h _ _ (by omega)).trans t3, (bcell h _ _ (by omega)).trans t4, (bcell h _ _ (by omega)).trans t5, (bcell h _ _ (by omega)).trans p0, (bcell h _ _ (by omega)).trans p1, (bcell h _ _ (by omega)).trans p2⟩
  have hl0 : w.heap.size + 2 ≤ w0.heap.size := Nat.le_of_lt (Blk.lt KR.out)
  go_region_held3 (fun w' => Below (w.heap.size + 2) w0 w' ∧ w'.cell? ⟨w.heap.size, 0, none⟩ = some (.string ⟨(RT (q 0)).toArray⟩) ∧ w'.cell? ⟨w.heap.size, 1, none⟩ = some (.string ⟨(RT (q 1)).toArray⟩) ∧ w'.cell? ⟨w.heap.size, 2, none⟩ = some (.string ⟨(RT (q 2)).toArray⟩) ∧ w'.cell? ⟨w.heap.size, 3, none⟩ = some (.string ⟨(RT (q 3)).toArray⟩) ∧ w'.cell? ⟨w.heap.size, 4, none⟩ = some (.string ⟨(RT (q 4)).toArray⟩) ∧ w'.cell? ⟨w.heap.size, 5, none⟩ = some (.string ⟨(RT (q 5)).toArray⟩) ∧ w'.cell? ⟨w.heap.size + 1, 0, none⟩ = some (.int .i64 x) ∧ w'.cell? ⟨w.heap.size + 1, 1, none⟩ = some (.int .i64 y) ∧ w'.cell? ⟨w.heap.size + 1, 2, none⟩ = some (.int .i64 z)) (first | exact SK _ (Below.refl _ _).drew | exact SK _ (Below.refl _ _) | exact SK _ ((by assumption : Below (w.heap.size + 2) w0 _)) | exact SK _ ((((by assumption : Below (w.heap.size + 2) w0 _).setCell (Nat.le_refl _) _).setCell (Nat.le_refl _) _).setCell (Nat.le_refl _) _))
    (first
      | (go_at_call 94; (with_reducible refine (M0.out _).mono ?_); rintro e wx ⟨rfl, hbW⟩; have hl1 := hbW.size; have hd0 : Below w0.heap.size w0 wx := (Below.refl _ _).drew.trans hbW; have hd := hd0.mono hl0)
      | (go_at_call 94; (with_reducible refine (M1.out _).mono ?_); rintro e wx ⟨rfl, hbW⟩; have hd1 : Below w0.heap.size w0 wx := hd0.trans (hbW.mono hd0.size); have hd := hd1.mono hl0)
      | (go_at_call 94; (with_reducible refine (M2.out _).mono ?_); rintro e wx ⟨rfl, hbW⟩; have hd2 : Below w0.heap.size w0 wx := hd1.trans (hbW.mono hd1.size); have hd := hd2.mono hl0; have hq0 := Blk.below KR.out hd2 (Blk.lt KR.out); have c0 : wx.cell? ⟨w.heap.size + 2, 0, none⟩ = some (.string ⟨#[]⟩) := (Blk.cell hq0 0).trans rfl; have c1 : wx.cell? ⟨w.heap.size + 2, 1, none⟩ = some (.string ⟨#[]⟩) := (Blk.cell hq0 1).trans rfl; have c2 : wx.cell? ⟨w.heap.size + 2, 2, none⟩ = some (.string ⟨#[]⟩) := (Blk.cell hq0 2).trans rfl; have f0 := Blk.frozen hq0 0; have f1 := Blk.frozen hq0 1; have f2 := Blk.frozen hq0 2))
  obtain ⟨hbx, _⟩ : Below (w.heap.size + 2) w0 _ ∧ _ := by assumption
  have HX := hide (HB0.out.trans (Below.mono hbx (by omega)))
  clear hbx
  go_wp2_with fail
  exact bodyPost_ret (v := .agg #[.string ⟨(RT (mvd 0 x y z q)).toArray⟩, .string ⟨(RT (mvd 1 x y z q)).toArray⟩, .string ⟨(RT (mvd 2 x y z q)).toArray⟩]) (by simp [results, Tryz.results51, go_sem, c0, c1, c2]) rfl ⟨rfl, HX.out⟩

set_option maxRecDepth 100000 in
set_option maxHeartbeats 2000000 in
theorem rtzero_any (w : World) : Calls Tryz.prog 17 #[] w fun e w' => e = .returned (.agg #[.string ⟨#[48]⟩, .string ⟨#[48]⟩, .string ⟨#[48]⟩, .string ⟨#[48]⟩, .string ⟨#[48]⟩, .string ⟨#[48]⟩]) ∧ Below w.heap.size w w' := by
  go_enter Tryz.func17, Tryz.ntmps17
  go_upto_region 1 with (fail)
  have hk0 := Blk.new w 25 six0
  have hn := Blk.new (w.alloc (.cells six0 25)) 22 #[.string ⟨#[48]⟩, .string ⟨#[48]⟩, .string ⟨#[48]⟩, .string ⟨#[48]⟩, .string ⟨#[48]⟩, .string ⟨#[48]⟩]
  have hb1 : Below w.heap.size w (w.alloc (.cells six0 25)) := allocs_below w [_]
  have hb2 := hb1.alloc hb1.size (.cells #[.string ⟨#[48]⟩, .string ⟨#[48]⟩, .string ⟨#[48]⟩, .string ⟨#[48]⟩, .string ⟨#[48]⟩, .string ⟨#[48]⟩] 22)
  have hz := hk0.alloc (.cells #[.string ⟨#[48]⟩, .string ⟨#[48]⟩, .string ⟨#[48]⟩, .string ⟨#[48]⟩, .string ⟨#[48]⟩, .string ⟨#[48]⟩] 22)
  have e0 : (w.alloc (.cells six0 25)).heap.size = w.heap.size + 1 := by simp
  rw [e0] at hn
  clear hk0 hb1 e0
  have n0 : ((w.alloc (.cells six0 25)).alloc (.cells #[.string ⟨#[48]⟩, .string ⟨#[48]⟩, .string ⟨#[48]⟩, .string ⟨#[48]⟩, .string ⟨#[48]⟩, .string ⟨#[48]⟩] 22)).cell? ⟨w.heap.size + 1, 0, none⟩ = some (.string ⟨#[48]⟩) := (Blk.cell hn 0).trans rfl
  have n1 : ((w.alloc (.cells six0 25)).alloc (.cells #[.string ⟨#[48]⟩, .string ⟨#[48]⟩, .string ⟨#[48]⟩, .string ⟨#[48]⟩, .string ⟨#[48]⟩, .string ⟨#[48]⟩] 22)).cell? ⟨w.heap.size + 1, 1, none⟩ = some (.string ⟨#[48]⟩) := (Blk.cell hn 1).trans rfl
  have n2 : ((w.alloc (.cells six0 25)).alloc (.cells #[.string ⟨#[48]⟩, .string ⟨#[48]⟩, .string ⟨#[48]⟩, .string ⟨#[48]⟩, .string ⟨#[48]⟩, .string ⟨#[48]⟩] 22)).cell? ⟨w.heap.size + 1, 2, none⟩ = some (.string ⟨#[48]⟩) := (Blk.cell hn 2).trans rfl
  have n3 : ((w.alloc (.cells six0 25)).alloc (.cells #[.string ⟨#[48]⟩, .string ⟨#[48]⟩, .string ⟨#[48]⟩, .string ⟨#[48]⟩, .string ⟨#[48]⟩, .string ⟨#[48]⟩] 22)).cell? ⟨w.heap.size + 1, 3, none⟩ = some (.string ⟨#[48]⟩) := (Blk.cell hn 3).trans rfl
  have n4 : ((w.alloc (.cells six0 25)).alloc (.cells #[.string ⟨#[48]⟩, .string ⟨#[48]⟩, .string ⟨#[48]⟩, .string ⟨#[48]⟩, .string ⟨#[48]⟩, .string ⟨#[48]⟩] 22)).cell? ⟨w.heap.size + 1, 4, none⟩ = some (.string ⟨#[48]⟩) := (Blk.cell hn 4).trans rfl
  have n5 : ((w.alloc (.cells six0 25)).alloc (.cells #[.string ⟨#[48]⟩, .string ⟨#[48]⟩, .string ⟨#[48]⟩, .string ⟨#[48]⟩, .string ⟨#[48]⟩, .string ⟨#[48]⟩] 22)).cell? ⟨w.heap.size + 1, 5, none⟩ = some (.string ⟨#[48]⟩) := (Blk.cell hn 5).trans rfl
  have HZ := hide hz
  have HB2 := hide hb2
  clear hn hz hb2
  go_wp2_with fail
  refine (rtmade_any _ (w.heap.size + 1) 6 _ _ _ _ _ _ n0 n1 n2 n3 n4 n5).mono ?_
  rintro e w2 ⟨rfl, hb3⟩
  have rhz := Blk.below HZ.out hb3 (Blk.lt HZ.out)
  have rz0 : w2.cell? ⟨w.heap.size, 0, none⟩ = some (.string ⟨#[]⟩) := (Blk.cell rhz 0).trans rfl
  have rf0 : w2.frozen? ⟨w.heap.size, 0, none⟩ = false := Blk.frozen rhz 0
  have rz1 : w2.cell? ⟨w.heap.size, 1, none⟩ = some (.string ⟨#[]⟩) := (Blk.cell rhz 1).trans rfl
  have rf1 : w2.frozen? ⟨w.heap.size, 1, none⟩ = false := Blk.frozen rhz 1
  have rz2 : w2.cell? ⟨w.heap.size, 2, none⟩ = some (.string ⟨#[]⟩) := (Blk.cell rhz 2).trans rfl
  have rf2 : w2.frozen? ⟨w.heap.size, 2, none⟩ = false := Blk.frozen rhz 2
  have rz3 : w2.cell? ⟨w.heap.size, 3, none⟩ = some (.string ⟨#[]⟩) := (Blk.cell rhz 3).trans rfl
  have rf3 : w2.frozen? ⟨w.heap.size, 3, none⟩ = false := Blk.frozen rhz 3
  have rz4 : w2.cell? ⟨w.heap.size, 4, none⟩ = some (.string ⟨#[]⟩) := (Blk.cell rhz 4).trans rfl
  have rf4 : w2.frozen? ⟨w.heap.size, 4, none⟩ = false := Blk.frozen rhz 4
  have rz5 : w2.cell? ⟨w.heap.size, 5, none⟩ = some (.string ⟨#[]⟩) := (Blk.cell rhz 5).trans rfl
  have rf5 : w2.frozen? ⟨w.heap.size, 5, none⟩ = false := Blk.frozen rhz 5
  have HB3 := hide (HB2.out.trans (hb3.mono HB2.out.size))
  clear rhz hb3
  go_wp2_with fail
  exact bodyPost_ret (v := .agg #[.string ⟨#[48]⟩, .string ⟨#[48]⟩, .string ⟨#[48]⟩, .string ⟨#[48]⟩, .string ⟨#[48]⟩, .string ⟨#[48]⟩]) (by simp [results, Tryz.results17, go_sem, rz0, rz1, rz2, rz3, rz4, rz5]) rfl ⟨rfl, ((((((HB3.out.setCell (p := ⟨w.heap.size, 0, none⟩) (Nat.le_refl _) _).setCell (p := ⟨w.heap.size, 1, none⟩) (Nat.le_refl _) _).setCell (p := ⟨w.heap.size, 2, none⟩) (Nat.le_refl _) _).setCell (p := ⟨w.heap.size, 3, none⟩) (Nat.le_refl _) _).setCell (p := ⟨w.heap.size, 4, none⟩) (Nat.le_refl _) _).setCell (p := ⟨w.heap.size, 5, none⟩) (Nat.le_refl _) _)⟩

set_option maxRecDepth 100000 in
set_option maxHeartbeats 4000000 in
theorem rtapply_bad (w : World) (s0 s1 s2 s3 s4 s5 : ByteArray) (x y z : Int) (c : Int) (hc : chkRs [s0.data.toList, s1.data.toList, s2.data.toList, s3.data.toList, s4.data.toList, s5.data.toList] = c) (h0 : c ≠ 0) (hsz : ∀ l ∈ [s0.data.toList, s1.data.toList, s2.data.toList, s3.data.toList, s4.data.toList, s5.data.toList], l.length ≤ 200000) :
    Calls Tryz.prog 13 #[.agg #[.string s0, .string s1, .string s2, .string s3, .string s4, .string s5], .agg #[.int .i64 x, .int .i64 y, .int .i64 z]] w fun e w' => e = .returned (.tuple #[.agg #[.string ⟨#[]⟩, .string ⟨#[]⟩, .string ⟨#[]⟩], .int .i64 c]) ∧ Below w.heap.size w w' := by
  have hb0 := hide (allocs_below w [.cells #[.string s0, .string s1, .string s2, .string s3, .string s4, .string s5] 25, .cells #[.int .i64 x, .int .i64 y, .int .i64 z] 27, .cells #[.string ⟨#[]⟩, .string ⟨#[]⟩, .string ⟨#[]⟩] 23])
  have K0 := hide (show Blk (allocs w [.cells #[.string s0, .string s1, .string s2, .string s3, .string s4, .string s5] 25, .cells #[.int .i64 x, .int .i64 y, .int .i64 z] 27, .cells #[.string ⟨#[]⟩, .string ⟨#[]⟩, .string ⟨#[]⟩] 23]) (w.heap.size + 0) 25 #[.string s0, .string s1, .string s2, .string s3, .string s4, .string s5] from allocs_at w [.cells #[.string s0, .string s1, .string s2, .string s3, .string s4, .string s5] 25, .cells #[.int .i64 x, .int .i64 y, .int .i64 z] 27, .cells #[.string ⟨#[]⟩, .string ⟨#[]⟩, .string ⟨#[]⟩] 23] 0 rfl)
  have K1 := hide (show Blk (allocs w [.cells #[.string s0, .string s1, .string s2, .string s3, .string s4, .string s5] 25, .cells #[.int .i64 x, .int .i64 y, .int .i64 z] 27, .cells #[.string ⟨#[]⟩, .string ⟨#[]⟩, .string ⟨#[]⟩] 23]) (w.heap.size + 1) 27 #[.int .i64 x, .int .i64 y, .int .i64 z] from allocs_at w [.cells #[.string s0, .string s1, .string s2, .string s3, .string s4, .string s5] 25, .cells #[.int .i64 x, .int .i64 y, .int .i64 z] 27, .cells #[.string ⟨#[]⟩, .string ⟨#[]⟩, .string ⟨#[]⟩] 23] 1 rfl)
  have K2 := hide (show Blk (allocs w [.cells #[.string s0, .string s1, .string s2, .string s3, .string s4, .string s5] 25, .cells #[.int .i64 x, .int .i64 y, .int .i64 z] 27, .cells #[.string ⟨#[]⟩, .string ⟨#[]⟩, .string ⟨#[]⟩] 23]) (w.heap.size + 2) 23 #[.string ⟨#[]⟩, .string ⟨#[]⟩, .string ⟨#[]⟩] from allocs_at w [.cells #[.string s0, .string s1, .string s2, .string s3, .string s4, .string s5] 25, .cells #[.int .i64 x, .int .i64 y, .int .i64 z] 27, .cells #[.string ⟨#[]⟩, .string ⟨#[]⟩, .string ⟨#[]⟩] 23] 2 rfl)
  have HSZ := hide hsz
  have HC := hide hc
  clear hsz hc
  go_enter Tryz.func13, Tryz.ntmps13
  go_wp2_with fail
  refine (rtCheck_any _ s0 s1 s2 s3 s4 s5 HSZ.out).mono ?_
  rw [HC.out]
  rintro e w1 ⟨rfl, hb1⟩
  have HB1 := hide (hb0.out.trans (Below.mono hb1 hb0.out.size))
  have rhz := Blk.below K2.out hb1 (Blk.lt K2.out)
  have rz0 : w1.cell? ⟨w.heap.size + 2, 0, none⟩ = some (.string ⟨#[]⟩) := (Blk.cell rhz 0).trans rfl
  have rf0 := Blk.frozen rhz 0
  have rz1 : w1.cell? ⟨w.heap.size + 2, 1, none⟩ = some (.string ⟨#[]⟩) := (Blk.cell rhz 1).trans rfl
  have rf1 := Blk.frozen rhz 1
  have rz2 : w1.cell? ⟨w.heap.size + 2, 2, none⟩ = some (.string ⟨#[]⟩) := (Blk.cell rhz 2).trans rfl
  have rf2 := Blk.frozen rhz 2
  clear rhz hb1 K0 K1 K2
  go_wp2_with fail
  exact bodyPost_ret (v := .tuple #[.agg #[.string ⟨#[]⟩, .string ⟨#[]⟩, .string ⟨#[]⟩], .int .i64 c]) (by simp [results, Tryz.results13, go_sem, rz0, rz1, rz2]) rfl ⟨rfl, (((HB1.out.setCell (p := ⟨w.heap.size + 2, 0, none⟩) (Nat.le_add_right _ _) _).setCell (p := ⟨w.heap.size + 2, 1, none⟩) (Nat.le_add_right _ _) _).setCell (p := ⟨w.heap.size + 2, 2, none⟩) (Nat.le_add_right _ _) _)⟩

set_option maxRecDepth 100000 in
set_option maxHeartbeats 4000000 in
theorem rtapply_spot (w : World) (s0 s1 s2 s3 s4 s5 : ByteArray) (x y z : Int) (hc : chkRs [s0.data.toList, s1.data.toList, s2.data.toList, s3.data.toList, s4.data.toList, s5.data.toList] = 0) (hw : ¬ (Co x ∧ Co y ∧ Co z)) (hsz : ∀ l ∈ [s0.data.toList, s1.data.toList, s2.data.toList, s3.data.toList, s4.data.toList, s5.data.toList], l.length ≤ 200000) :
    Calls Tryz.prog 13 #[.agg #[.string s0, .string s1, .string s2, .string s3, .string s4, .string s5], .agg #[.int .i64 x, .int .i64 y, .int .i64 z]] w fun e w' => e = .returned (.tuple #[.agg #[.string ⟨#[]⟩, .string ⟨#[]⟩, .string ⟨#[]⟩], .int .i64 2]) ∧ Below w.heap.size w w' := by
  have hb0 := hide (allocs_below w [.cells #[.string s0, .string s1, .string s2, .string s3, .string s4, .string s5] 25, .cells #[.int .i64 x, .int .i64 y, .int .i64 z] 27, .cells #[.string ⟨#[]⟩, .string ⟨#[]⟩, .string ⟨#[]⟩] 23])
  have K0 := hide (show Blk (allocs w [.cells #[.string s0, .string s1, .string s2, .string s3, .string s4, .string s5] 25, .cells #[.int .i64 x, .int .i64 y, .int .i64 z] 27, .cells #[.string ⟨#[]⟩, .string ⟨#[]⟩, .string ⟨#[]⟩] 23]) (w.heap.size + 0) 25 #[.string s0, .string s1, .string s2, .string s3, .string s4, .string s5] from allocs_at w [.cells #[.string s0, .string s1, .string s2, .string s3, .string s4, .string s5] 25, .cells #[.int .i64 x, .int .i64 y, .int .i64 z] 27, .cells #[.string ⟨#[]⟩, .string ⟨#[]⟩, .string ⟨#[]⟩] 23] 0 rfl)
  have K1 := hide (show Blk (allocs w [.cells #[.string s0, .string s1, .string s2, .string s3, .string s4, .string s5] 25, .cells #[.int .i64 x, .int .i64 y, .int .i64 z] 27, .cells #[.string ⟨#[]⟩, .string ⟨#[]⟩, .string ⟨#[]⟩] 23]) (w.heap.size + 1) 27 #[.int .i64 x, .int .i64 y, .int .i64 z] from allocs_at w [.cells #[.string s0, .string s1, .string s2, .string s3, .string s4, .string s5] 25, .cells #[.int .i64 x, .int .i64 y, .int .i64 z] 27, .cells #[.string ⟨#[]⟩, .string ⟨#[]⟩, .string ⟨#[]⟩] 23] 1 rfl)
  have K2 := hide (show Blk (allocs w [.cells #[.string s0, .string s1, .string s2, .string s3, .string s4, .string s5] 25, .cells #[.int .i64 x, .int .i64 y, .int .i64 z] 27, .cells #[.string ⟨#[]⟩, .string ⟨#[]⟩, .string ⟨#[]⟩] 23]) (w.heap.size + 2) 23 #[.string ⟨#[]⟩, .string ⟨#[]⟩, .string ⟨#[]⟩] from allocs_at w [.cells #[.string s0, .string s1, .string s2, .string s3, .string s4, .string s5] 25, .cells #[.int .i64 x, .int .i64 y, .int .i64 z] 27, .cells #[.string ⟨#[]⟩, .string ⟨#[]⟩, .string ⟨#[]⟩] 23] 2 rfl)
  have HSZ := hide hsz
  have HC := hide hc
  have HD := hide (decide_eq_false hw)
  clear hsz hc hw
  go_enter Tryz.func13, Tryz.ntmps13
  go_wp2_with fail
  refine (rtCheck_any _ s0 s1 s2 s3 s4 s5 HSZ.out).mono ?_
  rw [HC.out]
  rintro e w1 ⟨rfl, hb1⟩
  have HB1 := hide (hb0.out.trans (Below.mono hb1 hb0.out.size))
  have phz := Blk.below K1.out hb1 (Blk.lt K1.out)
  have pz0 : w1.cell? ⟨w.heap.size + 1, 0, none⟩ = some (.int .i64 x) := (Blk.cell phz 0).trans rfl
  have pz1 : w1.cell? ⟨w.heap.size + 1, 1, none⟩ = some (.int .i64 y) := (Blk.cell phz 1).trans rfl
  have pz2 : w1.cell? ⟨w.heap.size + 1, 2, none⟩ = some (.int .i64 z) := (Blk.cell phz 2).trans rfl
  have HL1 := hide hb1
  clear phz hb1
  go_wp2_with fail
  refine (rrights_any _ x y z).mono ?_
  rw [HD.out]
  rintro e w2 ⟨rfl, hb2⟩
  have HL2 := hide (HL1.out.trans (Below.mono hb2 HL1.out.size))
  have HB2 := hide (HB1.out.trans (Below.mono hb2 HB1.out.size))
  clear hb2 pz0 pz1 pz2
  have rhz := Blk.below K2.out HL2.out (Blk.lt K2.out)
  have rz0 : w2.cell? ⟨w.heap.size + 2, 0, none⟩ = some (.string ⟨#[]⟩) := (Blk.cell rhz 0).trans rfl
  have rf0 := Blk.frozen rhz 0
  have rz1 : w2.cell? ⟨w.heap.size + 2, 1, none⟩ = some (.string ⟨#[]⟩) := (Blk.cell rhz 1).trans rfl
  have rf1 := Blk.frozen rhz 1
  have rz2 : w2.cell? ⟨w.heap.size + 2, 2, none⟩ = some (.string ⟨#[]⟩) := (Blk.cell rhz 2).trans rfl
  have rf2 := Blk.frozen rhz 2
  clear rhz K0 K1 K2
  go_wp2_with fail
  exact bodyPost_ret (v := .tuple #[.agg #[.string ⟨#[]⟩, .string ⟨#[]⟩, .string ⟨#[]⟩], .int .i64 2]) (by simp [results, Tryz.results13, go_sem, rz0, rz1, rz2]) rfl ⟨rfl, (((HB2.out.setCell (p := ⟨w.heap.size + 2, 0, none⟩) (Nat.le_add_right _ _) _).setCell (p := ⟨w.heap.size + 2, 1, none⟩) (Nat.le_add_right _ _) _).setCell (p := ⟨w.heap.size + 2, 2, none⟩) (Nat.le_add_right _ _) _)⟩

/-- What a right torsor that is not great has. -/
theorem tv_sizes {q : Nat → Rat} {m : Nat} (hm : m ≤ 160) (hq : ∀ i, i < 6 → Sz m m (q i)) : (∀ l ∈ [RT (q 0), RT (q 1), RT (q 2), RT (q 3), RT (q 4), RT (q 5)], l.length ≤ 200000) ∧ chkRs [RT (q 0), RT (q 1), RT (q 2), RT (q 3), RT (q 4), RT (q 5)] = 0 := by
  have hfit : ∀ i, i < 6 → Fit (q i) := fun i hi => (hq i hi).fit (by omega) (by omega)
  constructor
  · intro l hl
    simp only [List.mem_cons, List.not_mem_nil, or_false] at hl
    rcases hl with rfl | rfl | rfl | rfl | rfl | rfl
    · have := RT_len (hfit 0 (by omega)); omega
    · have := RT_len (hfit 1 (by omega)); omega
    · have := RT_len (hfit 2 (by omega)); omega
    · have := RT_len (hfit 3 (by omega)); omega
    · have := RT_len (hfit 4 (by omega)); omega
    · have := RT_len (hfit 5 (by omega)); omega
  · exact chkRs_fit (L := [q 0, q 1, q 2, q 3, q 4, q 5]) (by
      intro x hx
      simp only [List.mem_cons, List.not_mem_nil, or_false] at hx
      rcases hx with rfl | rfl | rfl | rfl | rfl | rfl
      · exact hfit 0 (by omega)
      · exact hfit 1 (by omega)
      · exact hfit 2 (by omega)
      · exact hfit 3 (by omega)
      · exact hfit 4 (by omega)
      · exact hfit 5 (by omega))

set_option maxRecDepth 100000 in
set_option maxHeartbeats 4000000 in
theorem rtapply_ok (w : World) (x y z : Int) (q : Nat → Rat) {m : Nat} (hm : m ≤ 160) (hq : ∀ i, i < 6 → Sz m m (q i)) (hw : Co x ∧ Co y ∧ Co z) :
    Calls Tryz.prog 13 #[.agg (TV q), .agg #[.int .i64 x, .int .i64 y, .int .i64 z]] w fun e w' => e = .returned (.tuple #[.agg #[.string ⟨(RT (mvd 0 x y z q)).toArray⟩, .string ⟨(RT (mvd 1 x y z q)).toArray⟩, .string ⟨(RT (mvd 2 x y z q)).toArray⟩], .int .i64 0]) ∧ Below w.heap.size w w' := by
  have hb0 := hide (allocs_below w [.cells (TV q) 25, .cells #[.int .i64 x, .int .i64 y, .int .i64 z] 27, .cells #[.string ⟨#[]⟩, .string ⟨#[]⟩, .string ⟨#[]⟩] 23])
  have K0 := hide (show Blk (allocs w [.cells (TV q) 25, .cells #[.int .i64 x, .int .i64 y, .int .i64 z] 27, .cells #[.string ⟨#[]⟩, .string ⟨#[]⟩, .string ⟨#[]⟩] 23]) (w.heap.size + 0) 25 (TV q) from allocs_at w [.cells (TV q) 25, .cells #[.int .i64 x, .int .i64 y, .int .i64 z] 27, .cells #[.string ⟨#[]⟩, .string ⟨#[]⟩, .string ⟨#[]⟩] 23] 0 rfl)
  have K1 := hide (show Blk (allocs w [.cells (TV q) 25, .cells #[.int .i64 x, .int .i64 y, .int .i64 z] 27, .cells #[.string ⟨#[]⟩, .string ⟨#[]⟩, .string ⟨#[]⟩] 23]) (w.heap.size + 1) 27 #[.int .i64 x, .int .i64 y, .int .i64 z] from allocs_at w [.cells (TV q) 25, .cells #[.int .i64 x, .int .i64 y, .int .i64 z] 27, .cells #[.string ⟨#[]⟩, .string ⟨#[]⟩, .string ⟨#[]⟩] 23] 1 rfl)
  have K2 := hide (show Blk (allocs w [.cells (TV q) 25, .cells #[.int .i64 x, .int .i64 y, .int .i64 z] 27, .cells #[.string ⟨#[]⟩, .string ⟨#[]⟩, .string ⟨#[]⟩] 23]) (w.heap.size + 2) 23 #[.string ⟨#[]⟩, .string ⟨#[]⟩, .string ⟨#[]⟩] from allocs_at w [.cells (TV q) 25, .cells #[.int .i64 x, .int .i64 y, .int .i64 z] 27, .cells #[.string ⟨#[]⟩, .string ⟨#[]⟩, .string ⟨#[]⟩] 23] 2 rfl)
  have HSZ := hide (tv_sizes hm hq).1
  have HC := hide (tv_sizes hm hq).2
  have HD := hide (decide_eq_true hw)
  have HG := hide (fun W => rtgone_any W x y z q hm hq hw)
  clear hw hq
  go_enter Tryz.func13, Tryz.ntmps13
  go_wp2_with fail
  refine (rtCheck_any _ ⟨(RT (q 0)).toArray⟩ ⟨(RT (q 1)).toArray⟩ ⟨(RT (q 2)).toArray⟩ ⟨(RT (q 3)).toArray⟩ ⟨(RT (q 4)).toArray⟩ ⟨(RT (q 5)).toArray⟩ HSZ.out).mono ?_
  rw [HC.out]
  rintro e w1 ⟨rfl, hb1⟩
  have HB1 := hide (hb0.out.trans (Below.mono hb1 hb0.out.size))
  have phz := Blk.below K1.out hb1 (Blk.lt K1.out)
  have pz0 : w1.cell? ⟨w.heap.size + 1, 0, none⟩ = some (.int .i64 x) := (Blk.cell phz 0).trans rfl
  have pz1 : w1.cell? ⟨w.heap.size + 1, 1, none⟩ = some (.int .i64 y) := (Blk.cell phz 1).trans rfl
  have pz2 : w1.cell? ⟨w.heap.size + 1, 2, none⟩ = some (.int .i64 z) := (Blk.cell phz 2).trans rfl
  have HL1 := hide hb1
  clear phz hb1
  go_wp2_with fail
  refine (rrights_any _ x y z).mono ?_
  rw [HD.out]
  rintro e w2 ⟨rfl, hb2⟩
  have HL2 := hide (HL1.out.trans (Below.mono hb2 HL1.out.size))
  have HB2 := hide (HB1.out.trans (Below.mono hb2 HB1.out.size))
  clear hb2 pz0 pz1 pz2
  have hA0 := Blk.below K0.out HL2.out (Blk.lt K0.out)
  have hA1 := Blk.below K1.out HL2.out (Blk.lt K1.out)
  have t0 : w2.cell? ⟨w.heap.size + 0, 0, none⟩ = some (.string ⟨(RT (q 0)).toArray⟩) := (Blk.cell hA0 0).trans rfl
  have t1 : w2.cell? ⟨w.heap.size + 0, 1, none⟩ = some (.string ⟨(RT (q 1)).toArray⟩) := (Blk.cell hA0 1).trans rfl
  have t2 : w2.cell? ⟨w.heap.size + 0, 2, none⟩ = some (.string ⟨(RT (q 2)).toArray⟩) := (Blk.cell hA0 2).trans rfl
  have t3 : w2.cell? ⟨w.heap.size + 0, 3, none⟩ = some (.string ⟨(RT (q 3)).toArray⟩) := (Blk.cell hA0 3).trans rfl
  have t4 : w2.cell? ⟨w.heap.size + 0, 4, none⟩ = some (.string ⟨(RT (q 4)).toArray⟩) := (Blk.cell hA0 4).trans rfl
  have t5 : w2.cell? ⟨w.heap.size + 0, 5, none⟩ = some (.string ⟨(RT (q 5)).toArray⟩) := (Blk.cell hA0 5).trans rfl
  have p0 : w2.cell? ⟨w.heap.size + 1, 0, none⟩ = some (.int .i64 x) := (Blk.cell hA1 0).trans rfl
  have p1 : w2.cell? ⟨w.heap.size + 1, 1, none⟩ = some (.int .i64 y) := (Blk.cell hA1 1).trans rfl
  have p2 : w2.cell? ⟨w.heap.size + 1, 2, none⟩ = some (.int .i64 z) := (Blk.cell hA1 2).trans rfl
  rw [Nat.add_zero] at t0 t1 t2 t3 t4 t5
  clear hA0 hA1
  go_wp2_with fail
  refine (HG.out _).mono ?_
  rintro e w3 ⟨rfl, hb3⟩
  have HL3 := hide (HL2.out.trans (Below.mono hb3 HL2.out.size))
  have HB3 := hide (HB2.out.trans (Below.mono hb3 HB2.out.size))
  clear hb3 t0 t1 t2 t3 t4 t5 p0 p1 p2
  have rhz := Blk.below K2.out HL3.out (Blk.lt K2.out)
  have rz0 : w3.cell? ⟨w.heap.size + 2, 0, none⟩ = some (.string ⟨#[]⟩) := (Blk.cell rhz 0).trans rfl
  have rf0 := Blk.frozen rhz 0
  have rz1 : w3.cell? ⟨w.heap.size + 2, 1, none⟩ = some (.string ⟨#[]⟩) := (Blk.cell rhz 1).trans rfl
  have rf1 := Blk.frozen rhz 1
  have rz2 : w3.cell? ⟨w.heap.size + 2, 2, none⟩ = some (.string ⟨#[]⟩) := (Blk.cell rhz 2).trans rfl
  have rf2 := Blk.frozen rhz 2
  clear rhz K0 K1 K2
  go_wp2_with fail
  exact bodyPost_ret (v := .tuple #[.agg #[.string ⟨(RT (mvd 0 x y z q)).toArray⟩, .string ⟨(RT (mvd 1 x y z q)).toArray⟩, .string ⟨(RT (mvd 2 x y z q)).toArray⟩], .int .i64 0]) (by simp [results, Tryz.results13, go_sem, rz0, rz1, rz2]) rfl ⟨rfl, (((HB3.out.setCell (p := ⟨w.heap.size + 2, 0, none⟩) (Nat.le_add_right _ _) _).setCell (p := ⟨w.heap.size + 2, 1, none⟩) (Nat.le_add_right _ _) _).setCell (p := ⟨w.heap.size + 2, 2, none⟩) (Nat.le_add_right _ _) _)⟩
end Go.Proofs.YtdkilkliccljeaaGreatDoor
