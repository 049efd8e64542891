/- PlanCurves: Curve and Worst of the program and of the reference. -/
import Derived.Test.YtaccdkbofhlbkaaGreatDoorPlaccs
import Derived.Test.YtaccdkbofhlbkaaGreatDoorPlfall
namespace Go.Proofs.YtaccdkbofhlbkaaGreatDoor
open Go.RowKit Go.Shelf MLab

set_option maxRecDepth 100000 in
set_option maxHeartbeats 2000000 in
theorem rfCurve_bad (w : World) (N C lot : Int) (h : ckI N C lot ≠ 0) :
    Calls Tryz.prog 39 #[.agg #[.int .i64 N, .int .i64 C], .int .i64 lot] w fun e w' => e = .returned (.tuple #[.slice none 0 0, .int .i64 (ckI N C lot)]) ∧ Below w.heap.size w w' := by
  by_cases h0 : ¬ ((1 ≤ N ∧ N ≤ 256 ∧ 0 ≤ C ∧ C ≤ N) ∧ N ≤ lot ∧ lot ≤ 4096)
  · have HC := hide (fun W => rfsz_any W N C lot)
    rw [ckL_two.2 h0] at HC
    have hr : ckI N C lot = 2 := by unfold ckI; rw [ckL_two.2 h0]; simp
    rw [hr]
    clear hr h0 h
    have HB := allocs_below w [.cells #[.int .i64 N, .int .i64 C] 23]
    have K_p : Blk (allocs w [.cells #[.int .i64 N, .int .i64 C] 23]) (w.heap.size + 0) 23 #[.int .i64 N, .int .i64 C] := allocs_at w [.cells #[.int .i64 N, .int .i64 C] 23] 0 rfl
    unfold allocs at HB K_p
    simp only [List.foldl_cons, List.foldl_nil] at HB K_p
    rw [Nat.add_zero] at K_p
    go_enter Tryz.func39, Tryz.ntmps39
    go_upto_region 1 with (fail)
    generalize (w.alloc (.cells #[.int .i64 N, .int .i64 C] 23)) = w0 at *
    replace K_p := hide K_p
    replace HB := hide HB
    have p0 := (Blk.cell K_p.out 0).trans (rfl : _ = some (Value.int .i64 N))
    have p1 := (Blk.cell K_p.out 1).trans (rfl : _ = some (Value.int .i64 C))
    go_wp2_with fail
    refine (HC.out _).mono ?_
    rintro e w1 ⟨rfl, hb⟩
    clear p0 p1
    replace K_p := hide (Blk.below K_p.out hb (Blk.lt K_p.out))
    replace HB := hide (HB.out.trans (hb.mono HB.out.size))
    clear hb
    go_wp2_with fail
    go_ret2
    exact ⟨rfl, HB.out⟩
  · by_cases h1 : 256 < lot
    · have HC := hide (fun W => rfsz_any W N C lot)
      rw [ckL_zero.2 (Classical.not_not.1 h0)] at HC
      have hr : ckI N C lot = 5 := by unfold ckI; rw [ckL_zero.2 (Classical.not_not.1 h0)]; simp; omega
      rw [hr]
      clear hr h0 h
      have HB := allocs_below w [.cells #[.int .i64 N, .int .i64 C] 23]
      have K_p : Blk (allocs w [.cells #[.int .i64 N, .int .i64 C] 23]) (w.heap.size + 0) 23 #[.int .i64 N, .int .i64 C] := allocs_at w [.cells #[.int .i64 N, .int .i64 C] 23] 0 rfl
      unfold allocs at HB K_p
      simp only [List.foldl_cons, List.foldl_nil] at HB K_p
      rw [Nat.add_zero] at K_p
      go_enter Tryz.func39, Tryz.ntmps39
      go_upto_region 1 with (fail)
      generalize (w.alloc (.cells #[.int .i64 N, .int .i64 C] 23)) = w0 at *
      replace K_p := hide K_p
      replace HB := hide HB
      have p0 := (Blk.cell K_p.out 0).trans (rfl : _ = some (Value.int .i64 N))
      have p1 := (Blk.cell K_p.out 1).trans (rfl : _ = some (Value.int .i64 C))
      go_wp2_with fail
      refine (HC.out _).mono ?_
      rintro e w1 ⟨rfl, hb⟩
      clear p0 p1
      replace K_p := hide (Blk.below K_p.out hb (Blk.lt K_p.out))
      replace HB := hide (HB.out.trans (hb.mono HB.out.size))
      clear hb
      go_wp2_with fail
      go_ret2
      exact ⟨rfl, HB.out⟩
    · exact absurd (show ckI N C lot = 0 by unfold ckI; rw [ckL_zero.2 (Classical.not_not.1 h0)]; simp; omega) h

set_option maxRecDepth 100000 in
set_option maxHeartbeats 2000000 in
theorem rfWorst_bad (w : World) (N C lot : Int) (h : ckI N C lot ≠ 0) :
    Calls Tryz.prog 40 #[.agg #[.int .i64 N, .int .i64 C], .int .i64 lot] w fun e w' => e = .returned (.tuple #[.int .i64 0, .string ⟨#[]⟩, .int .i64 (ckI N C lot)]) ∧ Below w.heap.size w w' := by
  by_cases h0 : ¬ ((1 ≤ N ∧ N ≤ 256 ∧ 0 ≤ C ∧ C ≤ N) ∧ N ≤ lot ∧ lot ≤ 4096)
  · have HC := hide (fun W => rfsz_any W N C lot)
    rw [ckL_two.2 h0] at HC
    have hr : ckI N C lot = 2 := by unfold ckI; rw [ckL_two.2 h0]; simp
    rw [hr]
    clear hr h0 h
    have HB := allocs_below w [.cells #[.int .i64 N, .int .i64 C] 23]
    have K_p : Blk (allocs w [.cells #[.int .i64 N, .int .i64 C] 23]) (w.heap.size + 0) 23 #[.int .i64 N, .int .i64 C] := allocs_at w [.cells #[.int .i64 N, .int .i64 C] 23] 0 rfl
    unfold allocs at HB K_p
    simp only [List.foldl_cons, List.foldl_nil] at HB K_p
    rw [Nat.add_zero] at K_p
    go_enter Tryz.func40, Tryz.ntmps40
    go_upto_region 1 with (fail)
    generalize (w.alloc (.cells #[.int .i64 N, .int .i64 C] 23)) = w0 at *
    replace K_p := hide K_p
    replace HB := hide HB
    have p0 := (Blk.cell K_p.out 0).trans (rfl : _ = some (Value.int .i64 N))
    have p1 := (Blk.cell K_p.out 1).trans (rfl : _ = some (Value.int .i64 C))
    go_wp2_with fail
    refine (HC.out _).mono ?_
    rintro e w1 ⟨rfl, hb⟩
    clear p0 p1
    replace K_p := hide (Blk.below K_p.out hb (Blk.lt K_p.out))
    replace HB := hide (HB.out.trans (hb.mono HB.out.size))
    clear hb
    go_wp2_with fail
    go_ret3
    exact ⟨rfl, HB.out⟩
  · by_cases h1 : 256 < lot
    · have HC := hide (fun W => rfsz_any W N C lot)
      rw [ckL_zero.2 (Classical.not_not.1 h0)] at HC
      have hr : ckI N C lot = 5 := by unfold ckI; rw [ckL_zero.2 (Classical.not_not.1 h0)]; simp; omega
      rw [hr]
      clear hr h0 h
      have HB := allocs_below w [.cells #[.int .i64 N, .int .i64 C] 23]
      have K_p : Blk (allocs w [.cells #[.int .i64 N, .int .i64 C] 23]) (w.heap.size + 0) 23 #[.int .i64 N, .int .i64 C] := allocs_at w [.cells #[.int .i64 N, .int .i64 C] 23] 0 rfl
      unfold allocs at HB K_p
      simp only [List.foldl_cons, List.foldl_nil] at HB K_p
      rw [Nat.add_zero] at K_p
      go_enter Tryz.func40, Tryz.ntmps40
      go_upto_region 1 with (fail)
      generalize (w.alloc (.cells #[.int .i64 N, .int .i64 C] 23)) = w0 at *
      replace K_p := hide K_p
      replace HB := hide HB
      have p0 := (Blk.cell K_p.out 0).trans (rfl : _ = some (Value.int .i64 N))
      have p1 := (Blk.cell K_p.out 1).trans (rfl : _ = some (Value.int .i64 C))
      go_wp2_with fail
      refine (HC.out _).mono ?_
      rintro e w1 ⟨rfl, hb⟩
      clear p0 p1
      replace K_p := hide (Blk.below K_p.out hb (Blk.lt K_p.out))
      replace HB := hide (HB.out.trans (hb.mono HB.out.size))
      clear hb
      go_wp2_with fail
      go_ret3
      exact ⟨rfl, HB.out⟩
    · exact absurd (show ckI N C lot = 0 by unfold ckI; rw [ckL_zero.2 (Classical.not_not.1 h0)]; simp; omega) h

set_option maxRecDepth 100000 in
set_option maxHeartbeats 8000000 in
theorem rfCurve_any (w : World) (N C lot : Nat) (h1N : 1 ≤ N) (hC : C ≤ N) (hNl : N ≤ lot) (h9 : lot ≤ 9) :
    Calls Tryz.prog 39 #[.agg #[.int .i64 (N : Int), .int .i64 (C : Int)], .int .i64 (lot : Int)] w fun e w' => ∃ v, e = .returned (.tuple #[v, .int .i64 0]) ∧ Strs w' v (((List.range (lot + 1)).map (dC N C lot)).map RT) ∧ Below w.heap.size w w' := by
  obtain ⟨LL, hLL⟩ : ∃ L, ((List.range (lot + 1)).map (dC N C lot)).map RT = L := ⟨_, rfl⟩
  rw [hLL]
  have HLL := hide hLL
  clear hLL
  have HL := hide (fun (k : Nat) (hk : k ≤ lot) W => chance_any W N C lot k h9 hNl hC hk)
  obtain ⟨s0, hi, hz0, hz1, hz2⟩ := info_parts info_rat
  have h256 : ¬ 256 < (lot : Int) := by omega
  have HC := hide (fun W => rfsz_any W (N : Int) (C : Int) (lot : Int))
  rw [ckL_zero.2 (by omega)] at HC
  have HB := allocs_below w [.cells #[.int .i64 (N : Int), .int .i64 (C : Int)] 23]
  have K_p : Blk (allocs w [.cells #[.int .i64 (N : Int), .int .i64 (C : Int)] 23]) (w.heap.size + 0) 23 #[.int .i64 (N : Int), .int .i64 (C : Int)] := allocs_at w [.cells #[.int .i64 (N : Int), .int .i64 (C : Int)] 23] 0 rfl
  unfold allocs at HB K_p
  simp only [List.foldl_cons, List.foldl_nil] at HB K_p
  rw [Nat.add_zero] at K_p
  go_enter Tryz.func39, Tryz.ntmps39
  go_upto_region 1 with (fail)
  generalize (w.alloc (.cells #[.int .i64 (N : Int), .int .i64 (C : Int)] 23)) = w0 at *
  replace K_p := hide K_p
  replace HB := hide HB
  have p0 := (Blk.cell K_p.out 0).trans (rfl : _ = some (Value.int .i64 (N : Int)))
  have p1 := (Blk.cell K_p.out 1).trans (rfl : _ = some (Value.int .i64 (C : Int)))
  go_wp2_with fail
  refine (HC.out _).mono ?_
  rintro e w1 ⟨rfl, hb⟩
  clear p0 p1
  replace K_p := hide (Blk.below K_p.out hb (Blk.lt K_p.out))
  replace HB := hide (HB.out.trans (hb.mono HB.out.size))
  clear hb
  go_wp2_with fail
  have KP1 := K_p
  have HB1 := HB
  go_loopg [7, 8] (lot + 1) (fun z ov iv wr => ∃ k : Nat, iv = .int .i64 (k : Int) ∧ z + k = lot + 1 ∧ wr.ownsRow w1.heap.size 26 1 ov k (rcl ((List.range k).map (dC N C lot))) ∧ Below w1.heap.size w1 wr)
  case atStart => exact ⟨0, rfl, by omega, World.ownsRow_nil _ _ _ _, Below.refl _ _⟩
  case round =>
    obtain ⟨k, rfl, hq, hown, hb⟩ := hrel
    have HQ := hide hq
    have HOWN := hide hown
    have HBL := hide hb
    have hkl : k ≤ lot + 1 := by omega
    replace K_p := hide (Blk.below KP1.out hb (Blk.lt KP1.out))
    replace HB := hide (HB1.out.trans (hb.mono HB1.out.size))
    have hws : w1.heap.size ≤ wr.heap.size := hb.size
    clear hq hown hb
    by_cases hlt : k ≤ lot
    · skip
      have hki : (k : Int) ≤ (lot : Int) := by omega
      have HF := hide (HL.out k hlt)
      rw [show accQ k (lot - k) N C = dC N C lot k from rfl] at HF
      have HSN : Hid (rcl ((List.range k).map (dC N C lot)) ++ [.string ⟨(RT (dC N C lot k)).toArray⟩] = rcl ((List.range (k + 1)).map (dC N C lot))) := hide (by rw [rcl_snoc, List.range_succ, List.map_append]; rfl)
      obtain ⟨q, hq⟩ : ∃ q, dC N C lot k = q := ⟨_, rfl⟩
      rw [hq] at HF HSN
      clear hq
      have p0 := (Blk.cell K_p.out 0).trans (rfl : _ = some (Value.int .i64 (N : Int)))
      have p1 := (Blk.cell K_p.out 1).trans (rfl : _ = some (Value.int .i64 (C : Int)))
      go_wp2_with fail
      refine (HF.out _).mono ?_
      rintro e w2 ⟨rfl, hb⟩
      have hown := owns_below HOWN.out hb
      replace HBL := hide (HBL.out.trans (hb.mono hws))
      have hws2 : w1.heap.size ≤ w2.heap.size := Nat.le_trans hws hb.size
      clear p0 p1
      replace K_p := hide (Blk.below K_p.out hb (Blk.lt K_p.out))
      replace HB := hide (HB.out.trans (hb.mono HB.out.size))
      clear hb
      go_wp2_with (at_builtin; refine wpList_append_own _ rfl _ _ 55 rfl w1.heap.size 26 s0 (.string ⟨#[]⟩) 1 16 Tryz.underlying55 hi hz0 hz1 hz2 rfl (by decide) _ _ _ rfl (hown.alloc _) ⟨w2.heap.size, 0, none⟩ 1 1 [.string ⟨(RT q).toArray⟩] rfl rfl ?gd1 ?gd2 ?gd3 ?gd4 ?gd5 ?_)
      try (case gd1 => (intro j u hj; match j, hj with | 0, hj => (simp at hj; subst hj; simp [Addr.add])))
      try (case gd2 => first | (intro u hu; simp at hu; subst hu; rfl) | rfl | simp [Value.oneCell'])
      try (case gd3 => first | (unfold maxLen; omega) | (simp [maxLen]))
      try (case gd4 => omega)
      try (case gd5 => first | (simp; omega) | omega | simp)
      intro v4 w4 ho4 hg4 _
      rw [HSN.out] at ho4
      have hb4 : Below w1.heap.size w2 w4 := ((Below.refl w1.heap.size w2).alloc hws2 _).grown hg4 (by simp; omega) (fun k e => (hown.lt k e).1)
      have HO4 := hide ho4
      have HB4 := hide (HBL.out.trans hb4)
      clear ho4 hg4 hb4 hown
      go_wp2_with fail
      go_roundg (gk - 1)
      case measure => have := HQ.out; omega
      case rel => exact ⟨k + 1, by go_num, by have := HQ.out; omega, HO4.out, HB4.out⟩
    · have hki : ¬ (k : Int) ≤ (lot : Int) := by omega
      obtain rfl : k = lot + 1 := by omega
      go_wp2_with fail
      go_ret2
      refine ⟨_, rfl, ?_, HB.out⟩
      rw [← HLL.out]
      exact strs_of_row (L := (List.range (lot + 1)).map (dC N C lot)) HOWN.out (by simp)

/-- The reference's greatest number and its place. -/
def rwF (D : Nat → Rat) : Nat → Rat × Nat
  | 0 => (0, 0)
  | k + 1 => if (rwF D k).1 < D k then (D k, k) else rwF D k
theorem rwF_eq {D : Nat → Rat} (h : D 0 = 0) : ∀ k, rwF D (k + 1) = wstF D k
  | 0 => by
    show (if (0 : Rat) < D 0 then (D 0, 0) else (0, 0)) = (D 0, 0)
    rw [h, if_neg (by grind)]
  | k + 1 => by
    show (if (rwF D (k + 1)).1 < D (k + 1) then (D (k + 1), k + 1) else rwF D (k + 1)) = _
    rw [rwF_eq h k]; rfl
theorem rwF_sz {D : Nat → Rat} {m : Nat} (h : ∀ j, Sz m m (D j)) : ∀ k, Sz m m (rwF D k).1
  | 0 => ⟨Nat.pow_pos (by omega), Nat.one_le_pow _ _ (by omega)⟩
  | k + 1 => by
    unfold rwF
    split
    · exact h k
    · exact rwF_sz h k

set_option maxRecDepth 100000 in
set_option maxHeartbeats 8000000 in
theorem rfWorst_any (w : World) (N C lot : Nat) (h1N : 1 ≤ N) (hC : C ≤ N) (hNl : N ≤ lot) (h9 : lot ≤ 9) :
    Calls Tryz.prog 40 #[.agg #[.int .i64 (N : Int), .int .i64 (C : Int)], .int .i64 (lot : Int)] w fun e w' => e = .returned (.tuple #[.int .i64 (((wstF (dW N C lot) lot).2 : Nat) : Int), .string ⟨(RT (wstF (dW N C lot) lot).1).toArray⟩, .int .i64 0]) ∧ Below w.heap.size w w' := by
  have HL := hide (fun (k : Nat) (hk : k ≤ lot) W => left_any W N C lot k h9 hNl hC hk (by omega))
  have hDz := dW_sz h1N hC hNl (show lot ≤ 64 by omega)
  have HRZ := hide (rwF_sz hDz)
  have HDZ := hide hDz
  have hfin := rwF_eq (D := dW N C lot) (show dW N C lot 0 = 0 from outQ_zero _ _ _) lot
  have HDQ : Hid (∀ k, k ≤ lot → outQ k (lot - k) N C = dW N C lot k) := hide (fun k hk => by unfold dW; rw [Nat.min_eq_left hk])
  have HDS : Hid (∀ k, rwF (dW N C lot) (k + 1) = if (rwF (dW N C lot) k).1 < dW N C lot k then (dW N C lot k, k) else rwF (dW N C lot) k) := hide (fun k => rfl)
  obtain ⟨D, hD⟩ : ∃ D, dW N C lot = D := ⟨_, rfl⟩
  rw [hD] at HRZ HDZ hfin HDQ HDS ⊢
  rw [← hfin]
  have h256 : ¬ 256 < (lot : Int) := by omega
  clear hDz hD hfin
  have HC := hide (fun W => rfsz_any W (N : Int) (C : Int) (lot : Int))
  rw [ckL_zero.2 (by omega)] at HC
  have HB := allocs_below w [.cells #[.int .i64 (N : Int), .int .i64 (C : Int)] 23]
  have K_p : Blk (allocs w [.cells #[.int .i64 (N : Int), .int .i64 (C : Int)] 23]) (w.heap.size + 0) 23 #[.int .i64 (N : Int), .int .i64 (C : Int)] := allocs_at w [.cells #[.int .i64 (N : Int), .int .i64 (C : Int)] 23] 0 rfl
  unfold allocs at HB K_p
  simp only [List.foldl_cons, List.foldl_nil] at HB K_p
  rw [Nat.add_zero] at K_p
  go_enter Tryz.func40, Tryz.ntmps40
  go_upto_region 1 with (fail)
  generalize (w.alloc (.cells #[.int .i64 (N : Int), .int .i64 (C : Int)] 23)) = w0 at *
  replace K_p := hide K_p
  replace HB := hide HB
  have p0 := (Blk.cell K_p.out 0).trans (rfl : _ = some (Value.int .i64 (N : Int)))
  have p1 := (Blk.cell K_p.out 1).trans (rfl : _ = some (Value.int .i64 (C : Int)))
  go_wp2_with fail
  refine (HC.out _).mono ?_
  rintro e w1 ⟨rfl, hb⟩
  clear p0 p1
  replace K_p := hide (Blk.below K_p.out hb (Blk.lt K_p.out))
  replace HB := hide (HB.out.trans (hb.mono HB.out.size))
  clear hb
  go_wp2_with fail
  have KP1 := K_p
  have HB1 := HB
  go_loopg [8, 9, 10] (lot + 1) (fun z av sv iv wr => ∃ k : Nat, iv = .int .i64 (k : Int) ∧ z + k = lot + 1 ∧ av = .int .i64 (((rwF D k).2 : Nat) : Int) ∧ sv = .string ⟨(RT (rwF D k).1).toArray⟩ ∧ Below w1.heap.size w1 wr)
  case atStart => exact ⟨0, rfl, by omega, rfl, by rw [show (rwF D 0).1 = 0 from rfl, RT_zero], Below.refl _ _⟩
  case round =>
    obtain ⟨k, rfl, hq, rfl, rfl, hb⟩ := hrel
    have HQ := hide hq
    have HBL := hide hb
    have hkl : k ≤ lot + 1 := by omega
    replace K_p := hide (Blk.below KP1.out hb (Blk.lt KP1.out))
    replace HB := hide (HB1.out.trans (hb.mono HB1.out.size))
    have hws : w1.heap.size ≤ wr.heap.size := hb.size
    have hrz := HRZ.out k
    have hst := HDS.out k
    obtain ⟨st, hstn⟩ : ∃ s, rwF D k = s := ⟨_, rfl⟩
    rw [hstn] at hrz hst ⊢
    have HSTN := hide hstn
    have HST := hide hst
    clear hq hb hst hstn
    by_cases hlt : k ≤ lot
    · skip
      have hki : (k : Int) ≤ (lot : Int) := by omega
      have HF := hide (HL.out k hlt)
      rw [HDQ.out k hlt] at HF
      have HO := hide (fun W => rqorder_any W ⟨(RT (D k)).toArray⟩ ⟨(RT st.1).toArray⟩ (D k) st.1 rfl rfl (m := 23) (by omega) (HDZ.out k) hrz)
      have hss := sgn_pos (p := D k) (q := st.1)
      unfold sgn at hss
      obtain ⟨sg, hsg⟩ : ∃ s, ((D k).num * (st.1.den : Int) - st.1.num * ((D k).den : Int)).sign = s := ⟨_, rfl⟩
      rw [hsg] at HO hss
      obtain ⟨q, hq⟩ : ∃ q, D k = q := ⟨_, rfl⟩
      rw [hq] at HF HO hss HST
      clear hq hsg hrz
      have p0 := (Blk.cell K_p.out 0).trans (rfl : _ = some (Value.int .i64 (N : Int)))
      have p1 := (Blk.cell K_p.out 1).trans (rfl : _ = some (Value.int .i64 (C : Int)))
      go_wp2_with fail
      refine (HF.out _).mono ?_
      rintro e w2 ⟨rfl, hb⟩
      replace HBL := hide (HBL.out.trans (hb.mono hws))
      clear p0 p1
      replace K_p := hide (Blk.below K_p.out hb (Blk.lt K_p.out))
      replace HB := hide (HB.out.trans (hb.mono HB.out.size))
      clear hb
      have hws2 : w1.heap.size ≤ w2.heap.size := HBL.out.size
      go_wp2_with fail
      refine (HO.out _).mono ?_
      rintro e w3 ⟨rfl, hb⟩
      replace HBL := hide (HBL.out.trans (hb.mono hws2))
      replace K_p := hide (Blk.below K_p.out hb (Blk.lt K_p.out))
      replace HB := hide (HB.out.trans (hb.mono HB.out.size))
      clear hb
      by_cases hdb : st.1 < q
      · skip
        have hs0 : 0 < sg := hss.2 hdb
        have HDB := hide hdb
        clear hss hdb
        go_wp2_with fail
        go_roundg (gk - 1)
        case measure => have := HQ.out; omega
        case rel => exact ⟨k + 1, by go_num, by have := HQ.out; omega, by rw [HST.out, if_pos HDB.out], by rw [HST.out, if_pos HDB.out], HBL.out⟩
      · skip
        have hs0 : ¬ 0 < sg := fun h => hdb (hss.1 h)
        have HDB := hide hdb
        clear hss hdb
        go_wp2_with fail
        go_roundg (gk - 1)
        case measure => have := HQ.out; omega
        case rel => exact ⟨k + 1, by go_num, by have := HQ.out; omega, by rw [HST.out, if_neg HDB.out], by rw [HST.out, if_neg HDB.out], HBL.out⟩
    · have hki : ¬ (k : Int) ≤ (lot : Int) := by omega
      obtain rfl : k = lot + 1 := by omega
      go_wp2_with fail
      go_ret3
      exact ⟨by rw [HSTN.out]; rfl, HB.out⟩

set_option maxRecDepth 100000 in
set_option maxHeartbeats 2000000 in
theorem rsameR_any (w : World) (u v : Value) (L : List Rat) (hL : L.length ≤ 1000000000) (hu : Strs w u (L.map RT)) (hv : Strs w v (L.map RT)) :
    Calls Tryz.prog 41 #[u, v] w fun e w' => e = .returned (.bool true) ∧ Below w.heap.size w w' := by
  obtain ⟨A, c, rfl, hc⟩ := strs_get hu
  obtain ⟨A2, c2, rfl, hc2⟩ := strs_get hv
  have HC := hide hc
  have HC2 := hide hc2
  clear hc hc2 hu hv
  go_enter Tryz.func41, Tryz.ntmps41
  go_wp2_with fail
  go_loopg [5] L.length (fun z iv wr => ∃ j : Nat, iv = .int .i64 (j : Int) ∧ z + j = L.length ∧ Below w.heap.size w wr)
  case atStart => exact ⟨0, rfl, rfl, Below.refl _ _⟩
  case round =>
    obtain ⟨j, rfl, hq, hb⟩ := hrel
    have hj : j ≤ L.length := by omega
    have HQ := hide hq
    have HB := hide hb
    clear hq hb
    by_cases hlt : j < L.length
    · have hji : (j : Int) < (L.length : Int) := by omega
      have hj0 : (0 : Int) ≤ (j : Int) := by omega
      obtain ⟨g, o1, hA, hcell⟩ := HC.out (by omega)
      obtain ⟨g2, o2, hA2, hcell2⟩ := HC2.out (by omega)
      subst hA hA2
      obtain ⟨x, hx⟩ : ∃ x, L[j]? = some x := ⟨_, List.getElem?_eq_getElem hlt⟩
      have a := hcell j x hx
      have b := hcell2 j x hx
      have a2 := (bcell HB.out _ _ (block_lt_of_cell a)).trans a
      have b2 := (bcell HB.out _ _ (block_lt_of_cell b)).trans b
      clear a b hcell hcell2 HC HC2 hx
      go_upto_region 6 with (fail)
      go_region
      go_wp2_with fail
      go_roundg (gk - 1)
      case measure => have := HQ.out; omega
      case rel => exact ⟨j + 1, by go_num, by have := HQ.out; omega, HB.out.drew⟩
    · have hji : ¬ (j : Int) < (L.length : Int) := by omega
      go_wp2_with fail
      go_ret
      exact ⟨rfl, HB.out⟩

set_option maxRecDepth 100000 in
set_option maxHeartbeats 2000000 in
theorem curs_wrong (w : World) (N C lot : Int) (h : fewB N C lot = false) (hl : lot ≤ 256) (hs : Std w) :
    Calls Tryz.prog 10 #[.agg #[.int .i64 N, .int .i64 C], .int .i64 lot] w fun e w' => e = .returned (.bool true) ∧ Below w.heap.size w w' := by
  have HS := hide hs
  have HR := hide (fun W => few54_any W N C lot)
  rw [h] at HR
  have HA := hide (fun W (hS : Std W) => awake54_any W hS)
  clear hs h
  have HB := allocs_below w [.cells #[.int .i64 N, .int .i64 C] 23]
  have K_p : Blk (allocs w [.cells #[.int .i64 N, .int .i64 C] 23]) (w.heap.size + 0) 23 #[.int .i64 N, .int .i64 C] := allocs_at w [.cells #[.int .i64 N, .int .i64 C] 23] 0 rfl
  unfold allocs at HB K_p
  simp only [List.foldl_cons, List.foldl_nil] at HB K_p
  rw [Nat.add_zero] at K_p
  go_enter Tryz.func10, Tryz.ntmps10
  go_upto_region 1 with (fail)
  generalize (w.alloc (.cells #[.int .i64 N, .int .i64 C] 23)) = w0 at *
  replace K_p := hide K_p
  replace HB := hide HB
  have p0 := (Blk.cell K_p.out 0).trans (rfl : _ = some (Value.int .i64 N))
  have p1 := (Blk.cell K_p.out 1).trans (rfl : _ = some (Value.int .i64 C))
  go_wp2_with fail
  refine (HR.out _).mono ?_
  rintro e w1 ⟨rfl, hb⟩
  clear p0 p1
  replace K_p := hide (Blk.below K_p.out hb (Blk.lt K_p.out))
  replace HB := hide (HB.out.trans (hb.mono HB.out.size))
  clear hb
  go_wp2_with fail
  refine (HA.out _ (HS.out.below HB.out (Nat.le_refl _))).mono ?_
  rintro e w2 ⟨rfl, hb⟩
  replace K_p := hide (Blk.below K_p.out hb (Blk.lt K_p.out))
  replace HB := hide (HB.out.trans (hb.mono HB.out.size))
  clear hb
  go_wp2_with fail
  go_ret
  exact ⟨rfl, HB.out⟩

set_option maxRecDepth 100000 in
set_option maxHeartbeats 8000000 in
theorem curs_main (w : World) (N C lot : Int) (h : ¬ (fewB N C lot = false ∧ lot ≤ 256)) (L : List Rat) (hL : L.length ≤ 1000000000) (e1 a2 e2 : Int) (s2 : ByteArray) (g1 : (∀ W, Std W → Calls Tryz.prog 30 #[.agg #[.int .i64 N, .int .i64 C], .int .i64 lot] W fun e w' => ∃ v, e = .returned (.tuple #[v, .int .i64 e1]) ∧ Strs w' v (L.map RT) ∧ Below W.heap.size W w')) (g2 : (∀ W, Std W → Calls Tryz.prog 39 #[.agg #[.int .i64 N, .int .i64 C], .int .i64 lot] W fun e w' => ∃ v, e = .returned (.tuple #[v, .int .i64 e1]) ∧ Strs w' v (L.map RT) ∧ Below W.heap.size W w')) (g3 : (∀ W, Std W → Calls Tryz.prog 38 #[.agg #[.int .i64 N, .int .i64 C], .int .i64 lot] W fun e w' => e = .returned (.tuple #[.int .i64 a2, .string s2, .int .i64 e2]) ∧ Below W.heap.size W w')) (g4 : (∀ W, Std W → Calls Tryz.prog 40 #[.agg #[.int .i64 N, .int .i64 C], .int .i64 lot] W fun e w' => e = .returned (.tuple #[.int .i64 a2, .string s2, .int .i64 e2]) ∧ Below W.heap.size W w')) (hs : Std w) :
    Calls Tryz.prog 10 #[.agg #[.int .i64 N, .int .i64 C], .int .i64 lot] w fun e w' => e = .returned (.bool true) ∧ Below w.heap.size w w' := by
  rcases hF : fewB N C lot with _ | _
  · have hl : ¬ lot ≤ 256 := fun hl => h ⟨hF, hl⟩
    clear h
    have HR := hide (fun W => few54_any W N C lot)
    have HA := hide (fun W (hS : Std W) => awake54_any W hS)
    have HSE := hide (fun W => sent_any W N C)
    have HS := hide hs
    have H1 := hide g1
    have H2 := hide g2
    have H3 := hide g3
    have H4 := hide g4
    clear hs g1 g2 g3 g4
    rw [hF] at HR
    clear hF
    have HB := allocs_below w [.cells #[.int .i64 N, .int .i64 C] 23]
    have K_p : Blk (allocs w [.cells #[.int .i64 N, .int .i64 C] 23]) (w.heap.size + 0) 23 #[.int .i64 N, .int .i64 C] := allocs_at w [.cells #[.int .i64 N, .int .i64 C] 23] 0 rfl
    unfold allocs at HB K_p
    simp only [List.foldl_cons, List.foldl_nil] at HB K_p
    rw [Nat.add_zero] at K_p
    go_enter Tryz.func10, Tryz.ntmps10
    go_upto_region 1 with (fail)
    generalize (w.alloc (.cells #[.int .i64 N, .int .i64 C] 23)) = w0 at *
    replace K_p := hide K_p
    replace HB := hide HB
    have p0 := (Blk.cell K_p.out 0).trans (rfl : _ = some (Value.int .i64 N))
    have p1 := (Blk.cell K_p.out 1).trans (rfl : _ = some (Value.int .i64 C))
    go_wp2_with fail
    refine (HR.out _).mono ?_
    rintro e w1 ⟨rfl, hb⟩
    clear p0 p1
    replace K_p := hide (Blk.below K_p.out hb (Blk.lt K_p.out))
    replace HB := hide (HB.out.trans (hb.mono HB.out.size))
    clear hb
    have p0 := (Blk.cell K_p.out 0).trans (rfl : _ = some (Value.int .i64 N))
    have p1 := (Blk.cell K_p.out 1).trans (rfl : _ = some (Value.int .i64 C))
    go_wp2_with fail
    refine (HSE.out _).mono ?_
    rintro e w2 ⟨rfl, hb⟩
    clear p0 p1
    replace K_p := hide (Blk.below K_p.out hb (Blk.lt K_p.out))
    replace HB := hide (HB.out.trans (hb.mono HB.out.size))
    clear hb
    go_wp2_with fail
    refine (H1.out _ (HS.out.below HB.out (Nat.le_refl _))).mono ?_
    rintro e wa ⟨v1, rfl, hst1, hb⟩
    obtain ⟨A1, k1, hv1, _⟩ := id hst1
    rw [List.length_map] at hv1
    subst hv1
    have X1 := hide hst1
    clear hst1
    replace K_p := hide (Blk.below K_p.out hb (Blk.lt K_p.out))
    replace HB := hide (HB.out.trans (hb.mono HB.out.size))
    clear hb
    have p0 := (Blk.cell K_p.out 0).trans (rfl : _ = some (Value.int .i64 N))
    have p1 := (Blk.cell K_p.out 1).trans (rfl : _ = some (Value.int .i64 C))
    go_wp2_with fail
    refine (H2.out _ (HS.out.below HB.out (Nat.le_refl _))).mono ?_
    rintro e wb ⟨v2, rfl, hst2, hb⟩
    obtain ⟨A2, k2, hv2, _⟩ := id hst2
    rw [List.length_map] at hv2
    subst hv2
    have X2 := hide hst2
    clear hst2
    replace X1 := hide (X1.out.below hb)
    clear p0 p1
    replace K_p := hide (Blk.below K_p.out hb (Blk.lt K_p.out))
    replace HB := hide (HB.out.trans (hb.mono HB.out.size))
    clear hb
    have p0 := (Blk.cell K_p.out 0).trans (rfl : _ = some (Value.int .i64 N))
    have p1 := (Blk.cell K_p.out 1).trans (rfl : _ = some (Value.int .i64 C))
    go_wp2_with fail
    refine (HSE.out _).mono ?_
    rintro e w3 ⟨rfl, hb⟩
    replace X1 := hide (X1.out.below hb)
    replace X2 := hide (X2.out.below hb)
    clear p0 p1
    replace K_p := hide (Blk.below K_p.out hb (Blk.lt K_p.out))
    replace HB := hide (HB.out.trans (hb.mono HB.out.size))
    clear hb
    go_wp2_with fail
    refine (H3.out _ (HS.out.below HB.out (Nat.le_refl _))).mono ?_
    rintro e w4 ⟨rfl, hb⟩
    replace X1 := hide (X1.out.below hb)
    replace X2 := hide (X2.out.below hb)
    replace K_p := hide (Blk.below K_p.out hb (Blk.lt K_p.out))
    replace HB := hide (HB.out.trans (hb.mono HB.out.size))
    clear hb
    have p0 := (Blk.cell K_p.out 0).trans (rfl : _ = some (Value.int .i64 N))
    have p1 := (Blk.cell K_p.out 1).trans (rfl : _ = some (Value.int .i64 C))
    go_wp2_with fail
    refine (H4.out _ (HS.out.below HB.out (Nat.le_refl _))).mono ?_
    rintro e w5 ⟨rfl, hb⟩
    replace X1 := hide (X1.out.below hb)
    replace X2 := hide (X2.out.below hb)
    clear p0 p1
    replace K_p := hide (Blk.below K_p.out hb (Blk.lt K_p.out))
    replace HB := hide (HB.out.trans (hb.mono HB.out.size))
    clear hb
    go_wp2_with fail
    refine (HA.out _ (HS.out.below HB.out (Nat.le_refl _))).mono ?_
    rintro e w6 ⟨rfl, hb⟩
    replace X1 := hide (X1.out.below hb)
    replace X2 := hide (X2.out.below hb)
    replace K_p := hide (Blk.below K_p.out hb (Blk.lt K_p.out))
    replace HB := hide (HB.out.trans (hb.mono HB.out.size))
    clear hb
    go_wp2_with fail
    refine (rsameR_any _ _ _ L hL X1.out X2.out).mono ?_
    rintro e wz ⟨rfl, hb⟩
    replace K_p := hide (Blk.below K_p.out hb (Blk.lt K_p.out))
    replace HB := hide (HB.out.trans (hb.mono HB.out.size))
    clear hb
    go_wp2_with fail
    go_ret
    exact ⟨rfl, HB.out⟩
  · clear h
    have HR := hide (fun W => few54_any W N C lot)
    have HA := hide (fun W (hS : Std W) => awake54_any W hS)
    have HSE := hide (fun W => sent_any W N C)
    have HS := hide hs
    have H1 := hide g1
    have H2 := hide g2
    have H3 := hide g3
    have H4 := hide g4
    clear hs g1 g2 g3 g4
    rw [hF] at HR
    clear hF
    have HB := allocs_below w [.cells #[.int .i64 N, .int .i64 C] 23]
    have K_p : Blk (allocs w [.cells #[.int .i64 N, .int .i64 C] 23]) (w.heap.size + 0) 23 #[.int .i64 N, .int .i64 C] := allocs_at w [.cells #[.int .i64 N, .int .i64 C] 23] 0 rfl
    unfold allocs at HB K_p
    simp only [List.foldl_cons, List.foldl_nil] at HB K_p
    rw [Nat.add_zero] at K_p
    go_enter Tryz.func10, Tryz.ntmps10
    go_upto_region 1 with (fail)
    generalize (w.alloc (.cells #[.int .i64 N, .int .i64 C] 23)) = w0 at *
    replace K_p := hide K_p
    replace HB := hide HB
    have p0 := (Blk.cell K_p.out 0).trans (rfl : _ = some (Value.int .i64 N))
    have p1 := (Blk.cell K_p.out 1).trans (rfl : _ = some (Value.int .i64 C))
    go_wp2_with fail
    refine (HR.out _).mono ?_
    rintro e w1 ⟨rfl, hb⟩
    clear p0 p1
    replace K_p := hide (Blk.below K_p.out hb (Blk.lt K_p.out))
    replace HB := hide (HB.out.trans (hb.mono HB.out.size))
    clear hb
    have p0 := (Blk.cell K_p.out 0).trans (rfl : _ = some (Value.int .i64 N))
    have p1 := (Blk.cell K_p.out 1).trans (rfl : _ = some (Value.int .i64 C))
    go_wp2_with fail
    refine (HSE.out _).mono ?_
    rintro e w2 ⟨rfl, hb⟩
    clear p0 p1
    replace K_p := hide (Blk.below K_p.out hb (Blk.lt K_p.out))
    replace HB := hide (HB.out.trans (hb.mono HB.out.size))
    clear hb
    go_wp2_with fail
    refine (H1.out _ (HS.out.below HB.out (Nat.le_refl _))).mono ?_
    rintro e wa ⟨v1, rfl, hst1, hb⟩
    obtain ⟨A1, k1, hv1, _⟩ := id hst1
    rw [List.length_map] at hv1
    subst hv1
    have X1 := hide hst1
    clear hst1
    replace K_p := hide (Blk.below K_p.out hb (Blk.lt K_p.out))
    replace HB := hide (HB.out.trans (hb.mono HB.out.size))
    clear hb
    have p0 := (Blk.cell K_p.out 0).trans (rfl : _ = some (Value.int .i64 N))
    have p1 := (Blk.cell K_p.out 1).trans (rfl : _ = some (Value.int .i64 C))
    go_wp2_with fail
    refine (H2.out _ (HS.out.below HB.out (Nat.le_refl _))).mono ?_
    rintro e wb ⟨v2, rfl, hst2, hb⟩
    obtain ⟨A2, k2, hv2, _⟩ := id hst2
    rw [List.length_map] at hv2
    subst hv2
    have X2 := hide hst2
    clear hst2
    replace X1 := hide (X1.out.below hb)
    clear p0 p1
    replace K_p := hide (Blk.below K_p.out hb (Blk.lt K_p.out))
    replace HB := hide (HB.out.trans (hb.mono HB.out.size))
    clear hb
    have p0 := (Blk.cell K_p.out 0).trans (rfl : _ = some (Value.int .i64 N))
    have p1 := (Blk.cell K_p.out 1).trans (rfl : _ = some (Value.int .i64 C))
    go_wp2_with fail
    refine (HSE.out _).mono ?_
    rintro e w3 ⟨rfl, hb⟩
    replace X1 := hide (X1.out.below hb)
    replace X2 := hide (X2.out.below hb)
    clear p0 p1
    replace K_p := hide (Blk.below K_p.out hb (Blk.lt K_p.out))
    replace HB := hide (HB.out.trans (hb.mono HB.out.size))
    clear hb
    go_wp2_with fail
    refine (H3.out _ (HS.out.below HB.out (Nat.le_refl _))).mono ?_
    rintro e w4 ⟨rfl, hb⟩
    replace X1 := hide (X1.out.below hb)
    replace X2 := hide (X2.out.below hb)
    replace K_p := hide (Blk.below K_p.out hb (Blk.lt K_p.out))
    replace HB := hide (HB.out.trans (hb.mono HB.out.size))
    clear hb
    have p0 := (Blk.cell K_p.out 0).trans (rfl : _ = some (Value.int .i64 N))
    have p1 := (Blk.cell K_p.out 1).trans (rfl : _ = some (Value.int .i64 C))
    go_wp2_with fail
    refine (H4.out _ (HS.out.below HB.out (Nat.le_refl _))).mono ?_
    rintro e w5 ⟨rfl, hb⟩
    replace X1 := hide (X1.out.below hb)
    replace X2 := hide (X2.out.below hb)
    clear p0 p1
    replace K_p := hide (Blk.below K_p.out hb (Blk.lt K_p.out))
    replace HB := hide (HB.out.trans (hb.mono HB.out.size))
    clear hb
    go_wp2_with fail
    refine (HA.out _ (HS.out.below HB.out (Nat.le_refl _))).mono ?_
    rintro e w6 ⟨rfl, hb⟩
    replace X1 := hide (X1.out.below hb)
    replace X2 := hide (X2.out.below hb)
    replace K_p := hide (Blk.below K_p.out hb (Blk.lt K_p.out))
    replace HB := hide (HB.out.trans (hb.mono HB.out.size))
    clear hb
    go_wp2_with fail
    refine (rsameR_any _ _ _ L hL X1.out X2.out).mono ?_
    rintro e wz ⟨rfl, hb⟩
    replace K_p := hide (Blk.below K_p.out hb (Blk.lt K_p.out))
    replace HB := hide (HB.out.trans (hb.mono HB.out.size))
    clear hb
    go_wp2_with fail
    go_ret
    exact ⟨rfl, HB.out⟩


theorem curves_any (w : World) (N C lot : Int) (hs : Std w) :
    Calls Tryz.prog 10 #[.agg #[.int .i64 N, .int .i64 C], .int .i64 lot] w fun e w' => e = .returned (.bool true) ∧ Below w.heap.size w w' := by
  by_cases h : fewB N C lot = false ∧ lot ≤ 256
  · exact curs_wrong w N C lot h.1 h.2 hs
  · by_cases hk : ckI N C lot = 0
    · have hg : (1 ≤ N ∧ N ≤ 256 ∧ 0 ≤ C ∧ C ≤ N) ∧ N ≤ lot ∧ lot ≤ 4096 := Classical.byContradiction fun hn => by
        unfold ckI at hk
        rw [ckL_two.2 hn] at hk
        simp at hk
      have hl9 : lot ≤ 9 := Classical.byContradiction fun hn => h ⟨by
        unfold fewB
        rw [ckL_zero.2 hg]
        simp; omega, Classical.byContradiction fun hn2 => by
        unfold ckI at hk
        rw [ckL_zero.2 hg] at hk
        simp at hk
        omega⟩
      obtain ⟨n, rfl⟩ : ∃ n : Nat, N = (n : Int) := ⟨N.toNat, by omega⟩
      obtain ⟨c, rfl⟩ : ∃ c : Nat, C = (c : Int) := ⟨C.toNat, by omega⟩
      obtain ⟨l, rfl⟩ : ∃ l : Nat, lot = (l : Int) := ⟨lot.toNat, by omega⟩
      exact curs_main w n c l h ((List.range (l + 1)).map (dC n c l)) (by simp; omega) 0 (((wstF (dW n c l) l).2 : Nat) : Int) 0 ⟨(RT (wstF (dW n c l) l).1).toArray⟩
        (fun W hS => curve_any W n c l (by omega) (by omega) (by omega) (by omega) hS) (fun W _ => rfCurve_any W n c l (by omega) (by omega) (by omega) (by omega))
        (fun W hS => worst_any W n c l (by omega) (by omega) (by omega) (by omega) hS) (fun W _ => rfWorst_any W n c l (by omega) (by omega) (by omega) (by omega)) hs
    · have hnil : ∀ W, Strs W (.slice none 0 0) (([] : List Rat).map RT) := fun W => ⟨none, 0, rfl, fun h => absurd h (by simp)⟩
      exact curs_main w N C lot h [] (by simp) (ckI N C lot) 0 (ckI N C lot) ⟨#[]⟩
        (fun W _ => (curve_bad W N C lot hk).mono fun e w' ⟨h1, h2⟩ => ⟨_, h1, hnil w', h2⟩) (fun W _ => (rfCurve_bad W N C lot hk).mono fun e w' ⟨h1, h2⟩ => ⟨_, h1, hnil w', h2⟩)
        (fun W _ => worst_bad W N C lot hk) (fun W _ => rfWorst_bad W N C lot hk) hs
end Go.Proofs.YtaccdkbofhlbkaaGreatDoor
