/- metrolabref37.Near: the squared distance of a right point from a right polyline, and the least index of a segment that has it. -/
import Derived.Test.YtendaaghmeoddaaGreatDoorRpchk
import Derived.Test.YtendaaghmeoddaaGreatDoorRord
namespace Go.Proofs.YtendaaghmeoddaaGreatDoor
open Go.RowKit MLab

set_option maxRecDepth 100000 in
set_option maxHeartbeats 8000000 in
theorem rpnear_any (w : World) (v : Value) (L : List S2) (c0 : Bool) (px py : Int) (hv : Pts w v L) (hL : L.length ≤ 64) (h2 : 2 ≤ L.length) (hr : RightS L) (hp : Co px ∧ Co py) :
    Calls Tryz.prog 51 #[v, .bool c0, .agg #[.int .i64 px, .int .i64 py]] w fun e w' => e = .returned (.tuple #[.string ⟨(RT (nearF (dq L (px, py)) (segN L c0 - 1)).1).toArray⟩, .int .i64 (((nearF (dq L (px, py)) (segN L c0 - 1)).2 : Nat) : Int)]) ∧ Below w.heap.size w w' := by
  have HV := hide (hv.below (allocs_below w [.cells #[.int .i64 px, .int .i64 py] 24]))
  have hb0 := hide (allocs_below w [.cells #[.int .i64 px, .int .i64 py] 24])
  have K0 := hide (Blk.new w 24 #[.int .i64 px, .int .i64 py])
  obtain ⟨A, c, rfl, _⟩ := id hv
  have HR := hide hr
  have HP := hide hp
  have hN1 : 1 ≤ segN L c0 := by unfold segN; split <;> omega
  have hN64 : segN L c0 ≤ 64 := by unfold segN; split <;> omega
  have hzd : ∀ j, Sz 30 30 (dq L (px, py) j) := fun j => dq_sz hr hp j
  have HZ := hide hzd
  obtain ⟨N, hNN⟩ : ∃ N, segN L c0 = N := ⟨_, rfl⟩
  rw [hNN] at hN1 hN64 ⊢
  have HNN := hide hNN
  have HF : Hid (∀ W j, Calls Tryz.prog 94 #[.agg #[.int .i64 px, .int .i64 py], .agg #[.int .i64 (gP L j).1, .int .i64 (gP L j).2], .agg #[.int .i64 (nx L j).1, .int .i64 (nx L j).2]] W fun e w' => e = .returned (.string ⟨(RT (dq L (px, py) j)).toArray⟩) ∧ Below W.heap.size W w') := hide (fun W j => rfromseg_any W px py _ _ _ _ hp.1 hp.2 (hr _).1 (hr _).2 (hr _).1 (hr _).2)
  clear hv hNN hr hp hzd
  go_enter Tryz.func51, Tryz.ntmps51
  go_wp2_with fail
  refine (segments_ref _ _ L _ HV.out h2 hL).mono ?_
  rintro e w2 ⟨⟨u, rfl, hsg⟩, hb2⟩
  rw [HNN.out] at hsg
  obtain ⟨g, cap, rfl, hcell⟩ := hsg
  have HC := hide hcell
  have hz0 := Blk.below K0.out hb2 (Blk.lt K0.out)
  have q0 := (Blk.cell hz0 0).trans (rfl : _ = some (Value.int .i64 px))
  have q1 := (Blk.cell hz0 1).trans (rfl : _ = some (Value.int .i64 py))
  have HB2 := hide (hb0.out.trans (Below.mono hb2 hb0.out.size))
  have KP := hide hz0
  clear hb2 hz0
  obtain ⟨x1, x2, hx⟩ : ∃ x y, gP L 0 = (x, y) := ⟨_, _, rfl⟩
  obtain ⟨y1, y2, hy⟩ : ∃ x y, nx L 0 = (x, y) := ⟨_, _, rfl⟩
  have h4 : sg4 L 0 = [.int .i64 x1, .int .i64 x2, .int .i64 y1, .int .i64 y2] := by unfold sg4; rw [hx, hy]
  have c0 := hcell 0 0 (.int .i64 x1) hN1 (by omega) (by rw [h4]; rfl)
  have c1 := hcell 0 1 (.int .i64 x2) hN1 (by omega) (by rw [h4]; rfl)
  have c2 := hcell 0 2 (.int .i64 y1) hN1 (by omega) (by rw [h4]; rfl)
  have c3 := hcell 0 3 (.int .i64 y2) hN1 (by omega) (by rw [h4]; rfl)
  rw [Nat.zero_mul, Nat.zero_add] at c0 c1 c2 c3
  have hf := fun W => HF.out W 0
  rw [hx, hy] at hf
  have HF0 := hide hf
  have hNi : (0 : Int) < (N : Int) := by omega
  have hNn : 0 < N := hN1
  clear hcell h4 hx hy hf
  have SK : ∀ w', Below w2.heap.size w2 w' → Below w2.heap.size w2 w' ∧ w'.cell? ⟨w.heap.size, 0, none⟩ = some (.int .i64 px) ∧ w'.cell? ⟨w.heap.size, 1, none⟩ = some (.int .i64 py) ∧ w'.cell? ⟨g, 0, none⟩ = some (.int .i64 x1) ∧ w'.cell? ⟨g, 1, none⟩ = some (.int .i64 x2) ∧ w'.cell? ⟨g, 2, none⟩ = some (.int .i64 y1) ∧ w'.cell? ⟨g, 3, none⟩ = some (.int .i64 y2) := fun w' h => ⟨h, (bcell h _ _ (block_lt_of_cell q0)).trans q0, (bcell h _ _ (block_lt_of_cell q1)).trans q1, (bcell h _ _ (block_lt_of_cell c0)).trans c0, (bcell h _ _ (block_lt_of_cell c1)).trans c1, (bcell h _ _ (block_lt_of_cell c2)).trans c2, (bcell h _ _ (block_lt_of_cell c3)).trans c3⟩
  go_upto_region 2 with (fail)
  go_region_held3 (fun w' => Below w2.heap.size w2 w' ∧ w'.cell? ⟨w.heap.size, 0, none⟩ = some (.int .i64 px) ∧ w'.cell? ⟨w.heap.size, 1, none⟩ = some (.int .i64 py) ∧ w'.cell? ⟨g, 0, none⟩ = some (.int .i64 x1) ∧ w'.cell? ⟨g, 1, none⟩ = some (.int .i64 x2) ∧ w'.cell? ⟨g, 2, none⟩ = some (.int .i64 y1) ∧ w'.cell? ⟨g, 3, none⟩ = some (.int .i64 y2)) (first | exact SK _ (Below.refl _ _).drew | exact SK _ (Below.refl _ _) | exact SK _ (bel_next (by assumption) (by assumption) (Nat.le_refl _)))
    (first
      | (go_at_call 94; refine (HF0.out _).mono ?_; rintro e w3 ⟨rfl, hbW⟩))
  obtain ⟨hbx, _⟩ : Below w2.heap.size w2 w3 ∧ _ := by assumption
  have HX3 := hide hbx
  have HB3 := hide (HB2.out.trans (hbx.mono HB2.out.size))
  clear hbx hbW SK q0 q1 c0 c1 c2 c3
  go_wp2_with fail
  go_loopg [9, 10, 11] (N - 1) (fun n bv av iv wr => ∃ j k : Nat, j = k + 1 ∧ iv = .int .i64 (j : Int) ∧ n + j = N ∧ bv = .string ⟨(RT (nearF (dq L (px, py)) k).1).toArray⟩ ∧ av = .int .i64 (((nearF (dq L (px, py)) k).2 : Nat) : Int) ∧ Below w3.heap.size w3 wr)
  case atStart => exact ⟨1, 0, rfl, rfl, by omega, rfl, rfl, Below.refl _ _⟩
  case round =>
    obtain ⟨j, k, hjk, rfl, hq, rfl, rfl, hb⟩ := hrel
    have HQ := hide hq
    have HJK := hide hjk
    have HB := hide hb
    have HBw := hide (HB3.out.trans (hb.mono HB3.out.size))
    have HX := hide (HX3.out.trans (hb.mono HX3.out.size))
    have hj0 : (0 : Int) ≤ (j : Int) := by omega
    have hjN : j ≤ N := by omega
    by_cases hlt : j < N
    · have hji : (j : Int) < (N : Int) := by omega
      obtain ⟨x1, x2, hx⟩ : ∃ x y, gP L j = (x, y) := ⟨_, _, rfl⟩
      obtain ⟨y1, y2, hy⟩ : ∃ x y, nx L j = (x, y) := ⟨_, _, rfl⟩
      have h4 : sg4 L j = [.int .i64 x1, .int .i64 x2, .int .i64 y1, .int .i64 y2] := by unfold sg4; rw [hx, hy]
      have k0 := HC.out j 0 (.int .i64 x1) hlt (by omega) (by rw [h4]; rfl)
      have k1 := HC.out j 1 (.int .i64 x2) hlt (by omega) (by rw [h4]; rfl)
      have k2 := HC.out j 2 (.int .i64 y1) hlt (by omega) (by rw [h4]; rfl)
      have k3 := HC.out j 3 (.int .i64 y2) hlt (by omega) (by rw [h4]; rfl)
      have c0 := (bcell HX.out _ _ (block_lt_of_cell k0)).trans k0
      have c1 := (bcell HX.out _ _ (block_lt_of_cell k1)).trans k1
      have c2 := (bcell HX.out _ _ (block_lt_of_cell k2)).trans k2
      have c3 := (bcell HX.out _ _ (block_lt_of_cell k3)).trans k3
      rw [Nat.add_zero] at c0
      have hz := Blk.below KP.out HX.out (Blk.lt KP.out)
      have q0 := (Blk.cell hz 0).trans (rfl : _ = some (Value.int .i64 px))
      have q1 := (Blk.cell hz 1).trans (rfl : _ = some (Value.int .i64 py))
      have hf := fun W => HF.out W j
      rw [hx, hy] at hf
      have HFj := hide hf
      obtain ⟨B, hB⟩ : ∃ B, (nearF (dq L (px, py)) k).1 = B := ⟨_, rfl⟩
      obtain ⟨at_, hat⟩ : ∃ a, (nearF (dq L (px, py)) k).2 = a := ⟨_, rfl⟩
      obtain ⟨d, hd⟩ : ∃ d, dq L (px, py) j = d := ⟨_, rfl⟩
      have hzB : Sz 30 30 B := by rw [← hB]; exact nearF_sz HZ.out k
      have hzd : Sz 30 30 d := by rw [← hd]; exact HZ.out j
      rw [hB, hat]
      rw [hd] at hf
      have HFj := hide hf
      have HO := hide (fun W => rqorder_any W ⟨(RT d).toArray⟩ ⟨(RT B).toArray⟩ d B rfl rfl (m := 30) (by omega) hzd hzB)
      have hstep : nearF (dq L (px, py)) j = if d < B then (d, j) else (B, at_) := by rw [hjk]; unfold nearF; rw [← hjk, hd, hB, ← hB, ← hat]
      have HST := hide hstep
      clear k0 k1 k2 k3 h4 hx hy hz hq hjk hb hB hat hd hzB hzd hstep hf
      have SK : ∀ w', Below wr.heap.size wr w' → Below wr.heap.size wr w' ∧ w'.cell? ⟨w.heap.size, 0, none⟩ = some (.int .i64 px) ∧ w'.cell? ⟨w.heap.size, 1, none⟩ = some (.int .i64 py) ∧ w'.cell? ⟨g, j * 4, none⟩ = some (.int .i64 x1) ∧ w'.cell? ⟨g, j * 4 + 1, none⟩ = some (.int .i64 x2) ∧ w'.cell? ⟨g, j * 4 + 2, none⟩ = some (.int .i64 y1) ∧ w'.cell? ⟨g, j * 4 + 3, none⟩ = some (.int .i64 y2) := fun w' h => ⟨h, (bcell h _ _ (block_lt_of_cell q0)).trans q0, (bcell h _ _ (block_lt_of_cell q1)).trans q1, (bcell h _ _ (block_lt_of_cell c0)).trans c0, (bcell h _ _ (block_lt_of_cell c1)).trans c1, (bcell h _ _ (block_lt_of_cell c2)).trans c2, (bcell h _ _ (block_lt_of_cell c3)).trans c3⟩
      go_upto_region 6 with (fail)
      go_region_held3 (fun w' => Below wr.heap.size wr w' ∧ w'.cell? ⟨w.heap.size, 0, none⟩ = some (.int .i64 px) ∧ w'.cell? ⟨w.heap.size, 1, none⟩ = some (.int .i64 py) ∧ w'.cell? ⟨g, j * 4, none⟩ = some (.int .i64 x1) ∧ w'.cell? ⟨g, j * 4 + 1, none⟩ = some (.int .i64 x2) ∧ w'.cell? ⟨g, j * 4 + 2, none⟩ = some (.int .i64 y1) ∧ w'.cell? ⟨g, j * 4 + 3, none⟩ = some (.int .i64 y2)) (first | exact SK _ (Below.refl _ _).drew | exact SK _ (Below.refl _ _) | exact SK _ (bel_next (by assumption) (by assumption) (Nat.le_refl _)))
        (first
          | (go_at_call 94; refine (HFj.out _).mono ?_; rintro e w5 ⟨rfl, hbW⟩))
      obtain ⟨hbx, _⟩ : Below wr.heap.size wr w5 ∧ _ := by assumption
      have HX5 := hide (HB.out.trans (hbx.mono HB.out.size))
      clear hbx hbW SK q0 q1 c0 c1 c2 c3
      obtain ⟨s, hs⟩ : ∃ s, (d.num * B.den - B.num * d.den).sign = s := ⟨_, rfl⟩
      have hss := cross_neg d B
      rw [hs] at hss
      have ho := HO.out
      rw [hs] at ho
      have HOO := hide ho
      clear ho hs
      by_cases hdB : d < B
      · have hs0 : s < 0 := hss.2 hdB
        have HE := hide (HST.out.trans (if_pos hdB))
        clear hss hdB
        go_wp2_with fail
        refine (HOO.out _).mono ?_
        rintro e w6 ⟨rfl, hb6⟩
        have HX6 := hide (HX5.out.trans (hb6.mono HX5.out.size))
        clear hb6
        go_wp2_with fail
        go_roundg (gk - 1)
        case measure => have := HQ.out; omega
        case rel => exact ⟨j + 1, j, rfl, by go_num, by have := HQ.out; omega, by rw [HE.out], by rw [HE.out], HX6.out⟩
      · have hs0 : ¬ s < 0 := fun h => hdB (hss.1 h)
        have HE := hide (HST.out.trans (if_neg hdB))
        clear hss hdB
        go_wp2_with fail
        refine (HOO.out _).mono ?_
        rintro e w6 ⟨rfl, hb6⟩
        have HX6 := hide (HX5.out.trans (hb6.mono HX5.out.size))
        clear hb6
        go_wp2_with fail
        go_roundg (gk - 1)
        case measure => have := HQ.out; omega
        case rel => exact ⟨j + 1, j, rfl, by go_num, by have := HQ.out; omega, by rw [HE.out], by rw [HE.out], HX6.out⟩
    · have hji : ¬ (j : Int) < (N : Int) := by omega
      have hk : k = N - 1 := by omega
      have HK := hide hk
      clear hq hjk hb hk
      go_wp2_with fail
      go_ret2
      rw [← HK.out]
      exact ⟨rfl, HBw.out⟩
end Go.Proofs.YtendaaghmeoddaaGreatDoor
