/- metrolabref40: Row, Coordinate; metrolabref04.Dot. -/
import Derived.Test.YtdkilkliccljeaaGreatDoorRtmade
import Derived.Test.YtdkilkliccljeaaGreatDoorRarith
import Derived.Test.YtdkilkliccljeaaGreatDoorTformp
namespace Go.Proofs.YtdkilkliccljeaaGreatDoor
open Go.RowKit MLab

theorem RT_oneT : RT 1 = [49] := by rw [RT, if_pos (by rfl)]; exact T_one
theorem ft_zero : (⟨(RT ((0 : Int) : Rat)).toArray⟩ : ByteArray) = ⟨#[48]⟩ := by show (⟨(RT 0).toArray⟩ : ByteArray) = _; rw [RT_zeroT]
theorem ft_one : (⟨(RT ((1 : Int) : Rat)).toArray⟩ : ByteArray) = ⟨#[49]⟩ := by show (⟨(RT 1).toArray⟩ : ByteArray) = _; rw [RT_oneT]
theorem ft_neg (y : Int) : (⟨(RT ((-y : Int) : Rat)).toArray⟩ : ByteArray) = ⟨(RT (-(y : Rat))).toArray⟩ := by rw [Rat.intCast_neg]

set_option maxRecDepth 100000 in
set_option maxHeartbeats 4000000 in
theorem rtrow0 (w : World) (x y z : Int) (hx : Cb x) (hy : Cb y) (hz : Cb z) : Calls Tryz.prog 59 #[.int .i64 0, .agg #[.int .i64 x, .int .i64 y, .int .i64 z]] w fun e w' => (∃ v, e = .returned v ∧ Six (frmT 0 x y z) v w') ∧ Below w.heap.size w w' := by
  have x1 : -1000000 < x ∧ x < 1000000 := by unfold Cb at hx; omega
  have y1 : -1000000 < y ∧ y < 1000000 := by unfold Cb at hy; omega
  have z1 : -1000000 < z ∧ z < 1000000 := by unfold Cb at hz; omega
  have HC := hide hy
  have hb0 := allocs_below w [.cells #[.int .i64 x, .int .i64 y, .int .i64 z] 27]
  have hk0 : Blk (allocs w [.cells #[.int .i64 x, .int .i64 y, .int .i64 z] 27]) w.heap.size 27 #[.int .i64 x, .int .i64 y, .int .i64 z] := allocs_at w [.cells #[.int .i64 x, .int .i64 y, .int .i64 z] 27] 0 rfl
  unfold allocs at hb0 hk0
  simp only [List.foldl_cons, List.foldl_nil] at hb0 hk0
  clear hx hy hz
  go_enter Tryz.func59, Tryz.ntmps59
  go_upto_region 1 with (fail)
  generalize (w.alloc (.cells #[.int .i64 x, .int .i64 y, .int .i64 z] 27)) = w0 at *
  have HB0 := hide hb0
  have p0 : w0.cell? ⟨w.heap.size, 0, none⟩ = some (.int .i64 x) := (Blk.cell hk0 0).trans rfl
  have p1 : w0.cell? ⟨w.heap.size, 1, none⟩ = some (.int .i64 y) := (Blk.cell hk0 1).trans rfl
  have p2 : w0.cell? ⟨w.heap.size, 2, none⟩ = some (.int .i64 z) := (Blk.cell hk0 2).trans rfl
  clear hb0 hk0
  have SK : ∀ w', Below w0.heap.size w0 w' → (fun w' => Below w0.heap.size w0 w' ∧ w'.cell? ⟨w.heap.size, 0, none⟩ = some (.int .i64 x) ∧ w'.cell? ⟨w.heap.size, 1, none⟩ = some (.int .i64 y) ∧ w'.cell? ⟨w.heap.size, 2, none⟩ = some (.int .i64 z)) w' := fun w' h => ⟨h, (bcell h _ _ (block_lt_of_cell p0)).trans p0, (bcell h _ _ (block_lt_of_cell p1)).trans p1, (bcell h _ _ (block_lt_of_cell p2)).trans p2⟩
  go_region_held3 (fun w' => Below w0.heap.size w0 w' ∧ w'.cell? ⟨w.heap.size, 0, none⟩ = some (.int .i64 x) ∧ w'.cell? ⟨w.heap.size, 1, none⟩ = some (.int .i64 y) ∧ w'.cell? ⟨w.heap.size, 2, none⟩ = some (.int .i64 z)) (first | exact SK _ (Below.refl _ _).drew | exact SK _ (Below.refl _ _) | exact SK _ (bel_next (by assumption) (by assumption) (Nat.le_refl _)))
    (first | (go_at_call 25; refine (r2whole_any _ (by omega) (by omega) _).mono ?_; rintro e wx ⟨rfl, hbW⟩))
  obtain ⟨hbx, _⟩ : _ ∧ _ := by assumption
  have HX := hide (HB0.out.trans (Below.mono hbx HB0.out.size))
  clear hbx SK p0 p1 p2
  go_wp2_with fail
  refine (rqturned_any _ _ (y : Rat) rfl (m := 6) (by omega) (HC.out.sz.mono (by omega) (by omega))).mono ?_
  rintro e w2 ⟨rfl, hb2⟩
  have HX2 := hide (HX.out.trans (hb2.mono HX.out.size))
  clear hb2
  go_wp2_with fail
  go_ret
  have HN := hide (Blk.new w2 22 #[.string ⟨#[49]⟩, .string ⟨#[48]⟩, .string ⟨#[48]⟩, .string ⟨#[48]⟩, .string ⟨(RT ((z : Rat))).toArray⟩, .string ⟨(RT (-(y : Rat))).toArray⟩])
  refine ⟨⟨_, rfl, _, _, rfl, fun p hp => ?_⟩, HX2.out.alloc HX2.out.size _⟩
  match p, hp with
    | 0, _ => exact (Blk.cell HN.out 0).trans (congrArg (fun b => some (Value.string b)) ft_one.symm)
    | 1, _ => exact (Blk.cell HN.out 1).trans (congrArg (fun b => some (Value.string b)) ft_zero.symm)
    | 2, _ => exact (Blk.cell HN.out 2).trans (congrArg (fun b => some (Value.string b)) ft_zero.symm)
    | 3, _ => exact (Blk.cell HN.out 3).trans (congrArg (fun b => some (Value.string b)) ft_zero.symm)
    | 4, _ => exact (Blk.cell HN.out 4).trans (rfl)
    | 5, _ => exact (Blk.cell HN.out 5).trans (congrArg (fun b => some (Value.string b)) (ft_neg y).symm)

set_option maxRecDepth 100000 in
set_option maxHeartbeats 4000000 in
theorem rtrow1 (w : World) (x y z : Int) (hx : Cb x) (hy : Cb y) (hz : Cb z) : Calls Tryz.prog 59 #[.int .i64 1, .agg #[.int .i64 x, .int .i64 y, .int .i64 z]] w fun e w' => (∃ v, e = .returned v ∧ Six (frmT 1 x y z) v w') ∧ Below w.heap.size w w' := by
  have x1 : -1000000 < x ∧ x < 1000000 := by unfold Cb at hx; omega
  have y1 : -1000000 < y ∧ y < 1000000 := by unfold Cb at hy; omega
  have z1 : -1000000 < z ∧ z < 1000000 := by unfold Cb at hz; omega
  have HC := hide hz
  have hb0 := allocs_below w [.cells #[.int .i64 x, .int .i64 y, .int .i64 z] 27]
  have hk0 : Blk (allocs w [.cells #[.int .i64 x, .int .i64 y, .int .i64 z] 27]) w.heap.size 27 #[.int .i64 x, .int .i64 y, .int .i64 z] := allocs_at w [.cells #[.int .i64 x, .int .i64 y, .int .i64 z] 27] 0 rfl
  unfold allocs at hb0 hk0
  simp only [List.foldl_cons, List.foldl_nil] at hb0 hk0
  clear hx hy hz
  go_enter Tryz.func59, Tryz.ntmps59
  go_upto_region 1 with (fail)
  generalize (w.alloc (.cells #[.int .i64 x, .int .i64 y, .int .i64 z] 27)) = w0 at *
  have HB0 := hide hb0
  have p0 : w0.cell? ⟨w.heap.size, 0, none⟩ = some (.int .i64 x) := (Blk.cell hk0 0).trans rfl
  have p1 : w0.cell? ⟨w.heap.size, 1, none⟩ = some (.int .i64 y) := (Blk.cell hk0 1).trans rfl
  have p2 : w0.cell? ⟨w.heap.size, 2, none⟩ = some (.int .i64 z) := (Blk.cell hk0 2).trans rfl
  clear hb0 hk0
  have SK : ∀ w', Below w0.heap.size w0 w' → (fun w' => Below w0.heap.size w0 w' ∧ w'.cell? ⟨w.heap.size, 0, none⟩ = some (.int .i64 x) ∧ w'.cell? ⟨w.heap.size, 1, none⟩ = some (.int .i64 y) ∧ w'.cell? ⟨w.heap.size, 2, none⟩ = some (.int .i64 z)) w' := fun w' h => ⟨h, (bcell h _ _ (block_lt_of_cell p0)).trans p0, (bcell h _ _ (block_lt_of_cell p1)).trans p1, (bcell h _ _ (block_lt_of_cell p2)).trans p2⟩
  go_region_held3 (fun w' => Below w0.heap.size w0 w' ∧ w'.cell? ⟨w.heap.size, 0, none⟩ = some (.int .i64 x) ∧ w'.cell? ⟨w.heap.size, 1, none⟩ = some (.int .i64 y) ∧ w'.cell? ⟨w.heap.size, 2, none⟩ = some (.int .i64 z)) (first | exact SK _ (Below.refl _ _).drew | exact SK _ (Below.refl _ _) | exact SK _ (bel_next (by assumption) (by assumption) (Nat.le_refl _)))
    (first | (go_at_call 25; refine (r2whole_any _ (by omega) (by omega) _).mono ?_; rintro e wx ⟨rfl, hbW⟩))
  obtain ⟨hbx, _⟩ : _ ∧ _ := by assumption
  have HX := hide (HB0.out.trans (Below.mono hbx HB0.out.size))
  clear hbx SK p0 p1 p2
  go_wp2_with fail
  refine (rqturned_any _ _ (z : Rat) rfl (m := 6) (by omega) (HC.out.sz.mono (by omega) (by omega))).mono ?_
  rintro e w2 ⟨rfl, hb2⟩
  have HX2 := hide (HX.out.trans (hb2.mono HX.out.size))
  clear hb2
  go_wp2_with fail
  go_ret
  have HN := hide (Blk.new w2 22 #[.string ⟨#[48]⟩, .string ⟨#[49]⟩, .string ⟨#[48]⟩, .string ⟨(RT (-(z : Rat))).toArray⟩, .string ⟨#[48]⟩, .string ⟨(RT ((x : Rat))).toArray⟩])
  refine ⟨⟨_, rfl, _, _, rfl, fun p hp => ?_⟩, HX2.out.alloc HX2.out.size _⟩
  match p, hp with
    | 0, _ => exact (Blk.cell HN.out 0).trans (congrArg (fun b => some (Value.string b)) ft_zero.symm)
    | 1, _ => exact (Blk.cell HN.out 1).trans (congrArg (fun b => some (Value.string b)) ft_one.symm)
    | 2, _ => exact (Blk.cell HN.out 2).trans (congrArg (fun b => some (Value.string b)) ft_zero.symm)
    | 3, _ => exact (Blk.cell HN.out 3).trans (congrArg (fun b => some (Value.string b)) (ft_neg z).symm)
    | 4, _ => exact (Blk.cell HN.out 4).trans (congrArg (fun b => some (Value.string b)) ft_zero.symm)
    | 5, _ => exact (Blk.cell HN.out 5).trans (rfl)

set_option maxRecDepth 100000 in
set_option maxHeartbeats 4000000 in
theorem rtrow2 (w : World) (x y z : Int) (hx : Cb x) (hy : Cb y) (hz : Cb z) : Calls Tryz.prog 59 #[.int .i64 2, .agg #[.int .i64 x, .int .i64 y, .int .i64 z]] w fun e w' => (∃ v, e = .returned v ∧ Six (frmT 2 x y z) v w') ∧ Below w.heap.size w w' := by
  have x1 : -1000000 < x ∧ x < 1000000 := by unfold Cb at hx; omega
  have y1 : -1000000 < y ∧ y < 1000000 := by unfold Cb at hy; omega
  have z1 : -1000000 < z ∧ z < 1000000 := by unfold Cb at hz; omega
  have HC := hide hx
  have hb0 := allocs_below w [.cells #[.int .i64 x, .int .i64 y, .int .i64 z] 27]
  have hk0 : Blk (allocs w [.cells #[.int .i64 x, .int .i64 y, .int .i64 z] 27]) w.heap.size 27 #[.int .i64 x, .int .i64 y, .int .i64 z] := allocs_at w [.cells #[.int .i64 x, .int .i64 y, .int .i64 z] 27] 0 rfl
  unfold allocs at hb0 hk0
  simp only [List.foldl_cons, List.foldl_nil] at hb0 hk0
  clear hx hy hz
  go_enter Tryz.func59, Tryz.ntmps59
  go_upto_region 1 with (fail)
  generalize (w.alloc (.cells #[.int .i64 x, .int .i64 y, .int .i64 z] 27)) = w0 at *
  have HB0 := hide hb0
  have p0 : w0.cell? ⟨w.heap.size, 0, none⟩ = some (.int .i64 x) := (Blk.cell hk0 0).trans rfl
  have p1 : w0.cell? ⟨w.heap.size, 1, none⟩ = some (.int .i64 y) := (Blk.cell hk0 1).trans rfl
  have p2 : w0.cell? ⟨w.heap.size, 2, none⟩ = some (.int .i64 z) := (Blk.cell hk0 2).trans rfl
  clear hb0 hk0
  have SK : ∀ w', Below w0.heap.size w0 w' → (fun w' => Below w0.heap.size w0 w' ∧ w'.cell? ⟨w.heap.size, 0, none⟩ = some (.int .i64 x) ∧ w'.cell? ⟨w.heap.size, 1, none⟩ = some (.int .i64 y) ∧ w'.cell? ⟨w.heap.size, 2, none⟩ = some (.int .i64 z)) w' := fun w' h => ⟨h, (bcell h _ _ (block_lt_of_cell p0)).trans p0, (bcell h _ _ (block_lt_of_cell p1)).trans p1, (bcell h _ _ (block_lt_of_cell p2)).trans p2⟩
  go_region_held3 (fun w' => Below w0.heap.size w0 w' ∧ w'.cell? ⟨w.heap.size, 0, none⟩ = some (.int .i64 x) ∧ w'.cell? ⟨w.heap.size, 1, none⟩ = some (.int .i64 y) ∧ w'.cell? ⟨w.heap.size, 2, none⟩ = some (.int .i64 z)) (first | exact SK _ (Below.refl _ _).drew | exact SK _ (Below.refl _ _) | exact SK _ (bel_next (by assumption) (by assumption) (Nat.le_refl _)))
    (first | (go_at_call 25; refine (r2whole_any _ (by omega) (by omega) _).mono ?_; rintro e wx ⟨rfl, hbW⟩))
  obtain ⟨hbx, _⟩ : _ ∧ _ := by assumption
  have HX := hide (HB0.out.trans (Below.mono hbx HB0.out.size))
  clear hbx SK p0 p1 p2
  go_wp2_with fail
  refine (rqturned_any _ _ (x : Rat) rfl (m := 6) (by omega) (HC.out.sz.mono (by omega) (by omega))).mono ?_
  rintro e w2 ⟨rfl, hb2⟩
  have HX2 := hide (HX.out.trans (hb2.mono HX.out.size))
  clear hb2
  go_wp2_with fail
  go_ret
  have HN := hide (Blk.new w2 22 #[.string ⟨#[48]⟩, .string ⟨#[48]⟩, .string ⟨#[49]⟩, .string ⟨(RT ((y : Rat))).toArray⟩, .string ⟨(RT (-(x : Rat))).toArray⟩, .string ⟨#[48]⟩])
  refine ⟨⟨_, rfl, _, _, rfl, fun p hp => ?_⟩, HX2.out.alloc HX2.out.size _⟩
  match p, hp with
    | 0, _ => exact (Blk.cell HN.out 0).trans (congrArg (fun b => some (Value.string b)) ft_zero.symm)
    | 1, _ => exact (Blk.cell HN.out 1).trans (congrArg (fun b => some (Value.string b)) ft_zero.symm)
    | 2, _ => exact (Blk.cell HN.out 2).trans (congrArg (fun b => some (Value.string b)) ft_one.symm)
    | 3, _ => exact (Blk.cell HN.out 3).trans (rfl)
    | 4, _ => exact (Blk.cell HN.out 4).trans (congrArg (fun b => some (Value.string b)) (ft_neg x).symm)
    | 5, _ => exact (Blk.cell HN.out 5).trans (congrArg (fun b => some (Value.string b)) ft_zero.symm)

theorem rtrow_any (w : World) (k : Nat) (hk : k < 3) (x y z : Int) (hx : Cb x) (hy : Cb y) (hz : Cb z) : Calls Tryz.prog 59 #[.int .i64 (k : Int), .agg #[.int .i64 x, .int .i64 y, .int .i64 z]] w fun e w' => (∃ v, e = .returned v ∧ Six (frmT k x y z) v w') ∧ Below w.heap.size w w' := by
  match k, hk with
  | 0, _ => exact rtrow0 w x y z hx hy hz
  | 1, _ => exact rtrow1 w x y z hx hy hz
  | 2, _ => exact rtrow2 w x y z hx hy hz

set_option maxRecDepth 100000 in
theorem rtcoo_any (w : World) (k : Nat) (hk : k < 3) (x y z : Int) : Calls Tryz.prog 100 #[.int .i64 (k : Int), .agg #[.int .i64 x, .int .i64 y, .int .i64 z]] w fun e w' => e = .returned (.int .i64 (coo k x y z)) ∧ Below w.heap.size w w' := by
  have hci : (#[.int .i64 x, .int .i64 y, .int .i64 z] : Array Value)[k]? = some (.int .i64 (coo k x y z)) := by
    match k, hk with
    | 0, _ => rfl
    | 1, _ => rfl
    | 2, _ => rfl
  have hidx := fun w => idx_int Tryz.underlying56 hk hci w
  clear hci
  go_enter Tryz.func100, Tryz.ntmps100
  go_wp2_with fail
  go_ret
  exact ⟨rfl, allocs_below w [_]⟩

set_option maxRecDepth 100000 in
set_option maxHeartbeats 4000000 in
/-- The sum of the products of six numbers. -/
theorem rdot_any (w : World) (va vb : Value) (c : Nat → Int) (q : Nat → Rat) (ha : Six (fun i => ⟨(RT (c i : Rat)).toArray⟩) va w) (hb : Six (fun i => ⟨(RT (q i)).toArray⟩) vb w) {m : Nat} (hm : m ≤ 160) (hc : ∀ i, i < 6 → Cb (c i)) (hq : ∀ i, i < 6 → Sz m m (q i)) :
    Calls Tryz.prog 138 #[va, vb] w fun e w' => e = .returned (.string ⟨(RT (psum c q 6)).toArray⟩) ∧ Below w.heap.size w w' := by
  obtain ⟨ga, ca, rfl, hca⟩ := ha
  obtain ⟨gb, cb, rfl, hcb⟩ := hb
  have HCA := hide hca
  have HCB := hide hcb
  have HC := hide hc
  have HQ := hide hq
  have Z0 := hide (show (⟨(RT (psum c q 0)).toArray⟩ : ByteArray) = ⟨#[48]⟩ from ft_zero)
  clear hca hcb hc hq
  go_enter Tryz.func138, Tryz.ntmps138
  go_wp2_with fail
  go_loopg [5, 6] 6 (fun n sv iv wr => ∃ j : Nat, iv = .int .i64 (j : Int) ∧ n + j = 6 ∧ sv = .string ⟨(RT (psum c q j)).toArray⟩ ∧ Below w.heap.size w wr)
  case atStart => exact ⟨0, rfl, rfl, by rw [Z0.out], Below.refl _ _⟩
  case round =>
    obtain ⟨j, rfl, hn, rfl, hb⟩ := hrel
    have HN := hide hn
    have HB := hide hb
    have hile : j ≤ 6 := by omega
    clear hn hb
    by_cases hlt : j < 6
    · have hii : (j : Int) < 6 := by omega
      have hi0 : (0 : Int) ≤ (j : Int) := by omega
      have p0 : wr.cell? ⟨ga, j, none⟩ = some (.string ⟨(RT (c j : Rat)).toArray⟩) := (HB.out.cell (p := ⟨ga, j, none⟩) (block_lt_of_cell (HCA.out j hlt))).trans (HCA.out j hlt)
      have p1 : wr.cell? ⟨gb, j, none⟩ = some (.string ⟨(RT (q j)).toArray⟩) := (HB.out.cell (p := ⟨gb, j, none⟩) (block_lt_of_cell (HCB.out j hlt))).trans (HCB.out j hlt)
      have M1 := hide (fun W => rqtimes_any W ⟨(RT (c j : Rat)).toArray⟩ ⟨(RT (q j)).toArray⟩ (c j : Rat) (q j) rfl rfl (m := 160) (by omega) ((HC.out j hlt).sz.mono (by omega) (by omega)) ((HQ.out j hlt).mono (by omega) (by omega)))
      have M2 := hide (fun W => rqplus_any W ⟨(RT (psum c q j)).toArray⟩ ⟨(RT ((c j : Rat) * q j)).toArray⟩ (psum c q j) ((c j : Rat) * q j) rfl rfl (m := 6 * 160 + 12) (by omega) ((psum_six HC.out HQ.out j hile).mono (by omega) (by omega)) ((psum_term (c := c) (q := q) (HC.out j hlt) (HQ.out j hlt)).mono (by omega) (by omega)))
      have SK : ∀ w', Below wr.heap.size wr w' → Below wr.heap.size wr w' ∧ w'.cell? ⟨ga, j, none⟩ = some (.string ⟨(RT (c j : Rat)).toArray⟩) ∧ w'.cell? ⟨gb, j, none⟩ = some (.string ⟨(RT (q j)).toArray⟩) := fun w' h => ⟨h, (bcell h _ _ (block_lt_of_cell p0)).trans p0, (bcell h _ _ (block_lt_of_cell p1)).trans p1⟩
      go_upto_region 5 with (fail)
      go_region_held3 (fun w' => Below wr.heap.size wr w' ∧ w'.cell? ⟨ga, j, none⟩ = some (.string ⟨(RT (c j : Rat)).toArray⟩) ∧ w'.cell? ⟨gb, j, none⟩ = some (.string ⟨(RT (q j)).toArray⟩)) (first | exact SK _ (Below.refl _ _).drew | exact SK _ (Below.refl _ _) | exact SK _ (bel_next (by assumption) (by assumption) (Nat.le_refl _)))
        (first
          | (go_at_call 29; refine (M1.out _).mono ?_; rintro e wx ⟨rfl, hbW⟩)
          | (go_at_call 28; refine (M2.out _).mono ?_; rintro e wx ⟨rfl, hbW⟩))
      obtain ⟨hbx, _⟩ : _ ∧ _ := by assumption
      have HX := hide (HB.out.trans (Below.mono hbx HB.out.size))
      clear hbx SK p0 p1
      go_wp2_with fail
      go_roundg (gk - 1)
      case measure => have := HN.out; omega
      case rel => exact ⟨j + 1, by go_num, by have := HN.out; omega, rfl, HX.out⟩
    · have hii : ¬ (j : Int) < 6 := by omega
      have hj6 : j = 6 := by omega
      subst hj6
      go_wp2_with fail
      go_ret
      exact ⟨rfl, HB.out⟩
end Go.Proofs.YtdkilkliccljeaaGreatDoor
