/- metrolabref37.Location: the location of a right point for a right closed polyline. metrolabref37.Inside and Nearest. metrolabref37.tol, far, Beyond and Within. -/
import Derived.Test.YtendaaghmeoddaaGreatDoorPcr
import Derived.Test.YtendaaghmeoddaaGreatDoorPturn
import Derived.Test.YtendaaghmeoddaaGreatDoorRpnear
namespace Go.Proofs.YtendaaghmeoddaaGreatDoor
open Go.RowKit MLab

/-- The sign that flips at each crossing, over the first n segments. -/
def lgn (f : Nat → Bool) (n : Nat) : Int := if par f n then 1 else -1
theorem lgn_succ (f : Nat → Bool) (n : Nat) : lgn f (n + 1) = if f n = true then -lgn f n else lgn f n := by
  unfold lgn
  rw [show par f (n + 1) = (par f n ^^ f n) from rfl]
  cases par f n <;> cases f n <;> rfl
theorem lgn_or (f : Nat → Bool) (n : Nat) : lgn f n = 1 ∨ lgn f n = -1 := by unfold lgn; split <;> simp
theorem rt48 (q : Rat) : ((⟨(RT q).toArray⟩ : ByteArray).toList == [48]) = decide (q = 0) := by
  rw [show (⟨(RT q).toArray⟩ : ByteArray).toList = RT q by rw [ByteArray.toList_eq]]
  by_cases h : q = 0
  · rw [h, RT_zero]; rfl
  · rw [decide_eq_false h]
    have : RT q ≠ [48] := fun e => h (RT_inj (e.trans RT_zero.symm))
    simpa using this

set_option maxRecDepth 100000 in
set_option maxHeartbeats 8000000 in
theorem rploc_any (w : World) (v : Value) (L : List S2) (px py : Int) (hv : Pts w v L) (hL : L.length ≤ 64) (h2 : 2 ≤ L.length) (hr : RightS L) (hp : Co px ∧ Co py) :
    Calls Tryz.prog 48 #[v, .agg #[.int .i64 px, .int .i64 py]] w fun e w' => e = .returned (.int .i64 (locP L (px, py))) ∧ Below w.heap.size w w' := by
  have HV := hide (hv.below (allocs_below w [.cells #[.int .i64 px, .int .i64 py] 24]))
  have hb0 := hide (allocs_below w [.cells #[.int .i64 px, .int .i64 py] 24])
  have K0 := hide (Blk.new w 24 #[.int .i64 px, .int .i64 py])
  obtain ⟨R, hR⟩ : ∃ R, locP L (px, py) = R := ⟨_, rfl⟩
  rw [hR]
  have HR := hide hR
  obtain ⟨q, hq⟩ : ∃ q, (nearF (dq L (px, py)) (segN L true - 1)).1 = q := ⟨_, rfl⟩
  have HQQ := hide hq
  obtain ⟨A, c, rfl, _⟩ := id hv
  have HRT := hide hr
  have HP := hide hp
  have H2 := hide h2
  have HNN : Hid (segN L true = L.length) := hide rfl
  have HNR := hide (fun W (hV : Pts W (.slice A L.length c) L) => rpnear_any W _ L true px py hV hL h2 hr hp)
  have h48 := rt48 q
  clear hv hR hr hp
  obtain ⟨t, ht⟩ : ∃ t : ByteArray, (⟨(RT q).toArray⟩ : ByteArray) = t := ⟨_, rfl⟩
  rw [ht] at h48
  have HT := hide ht
  clear ht hq
  go_enter Tryz.func48, Tryz.ntmps48
  go_wp2_with fail
  refine (HNR.out _ HV.out).mono ?_
  rw [HQQ.out, HT.out]
  rintro e w2 ⟨rfl, hb2⟩
  have KP := hide (Blk.below K0.out hb2 (Blk.lt K0.out))
  have HV2 := hide (HV.out.below hb2)
  have HB2 := hide (hb0.out.trans (Below.mono hb2 hb0.out.size))
  clear hb2
  by_cases h0 : q = 0
  · rw [decide_eq_true h0] at h48
    have e0 : R = 0 := by
      rw [← HR.out]; unfold locP mn
      rw [← HNN.out, HQQ.out, if_pos h0]
    clear h0
    subst e0
    go_wp2_with fail
    go_ret
    exact ⟨rfl, HB2.out⟩
  · rw [decide_eq_false h0] at h48
    have e0 : R = lgn (cr L (px, py)) L.length := by
      rw [← HR.out]; unfold locP mn
      rw [← HNN.out, HQQ.out, if_neg h0]; rfl
    have HE := hide e0
    clear h0 e0
    go_wp2_with fail
    refine (segments_ref _ _ L true HV2.out H2.out hL).mono ?_
    rintro e w3 ⟨⟨u, rfl, hsg⟩, hb3⟩
    rw [HNN.out] at hsg
    obtain ⟨g, cap, rfl, hcell⟩ := hsg
    have HC := hide hcell
    have KP3 := hide (Blk.below KP.out hb3 (Blk.lt KP.out))
    have HB3 := hide (HB2.out.trans (Below.mono hb3 HB2.out.size))
    clear hb3 hcell h2
    obtain ⟨N, hN⟩ : ∃ N, L.length = N := ⟨_, rfl⟩
    rw [hN] at HC HE hL ⊢
    have HN := hide hN
    clear hN
    go_wp2_with fail
    go_loopg [7, 21] N (fun n ov iv wr => ∃ j : Nat, iv = .int .i64 (j : Int) ∧ n + j = N ∧ ov = .int .i64 (lgn (cr L (px, py)) j) ∧ Below w3.heap.size w3 wr)
    case atStart => exact ⟨0, rfl, by omega, rfl, Below.refl _ _⟩
    case round =>
      obtain ⟨j, rfl, hq, rfl, hb⟩ := hrel
      have HQ := hide hq
      have HB := hide hb
      have HBw := hide (HB3.out.trans (hb.mono HB3.out.size))
      have hj0 : (0 : Int) ≤ (j : Int) := by omega
      have hjN : j ≤ N := by omega
      by_cases hlt : j < N
      · have hji : (j : Int) < (N : Int) := by omega
        obtain ⟨x1, x2, hx⟩ : ∃ x y, gP L j = (x, y) := ⟨_, _, rfl⟩
        obtain ⟨y1, y2, hy⟩ : ∃ x y, nx L j = (x, y) := ⟨_, _, rfl⟩
        have h4 : sg4 L j = [.int .i64 x1, .int .i64 x2, .int .i64 y1, .int .i64 y2] := by unfold sg4; rw [hx, hy]
        have k0 := HC.out j 0 (.int .i64 x1) hlt (by omega) (by rw [h4]; rfl)
        have k1 := HC.out j 1 (.int .i64 x2) hlt (by omega) (by rw [h4]; rfl)
        have k2 := HC.out j 2 (.int .i64 y1) hlt (by omega) (by rw [h4]; rfl)
        have k3 := HC.out j 3 (.int .i64 y2) hlt (by omega) (by rw [h4]; rfl)
        have c0 := (bcell hb _ _ (block_lt_of_cell k0)).trans k0
        have c1 := (bcell hb _ _ (block_lt_of_cell k1)).trans k1
        have c2 := (bcell hb _ _ (block_lt_of_cell k2)).trans k2
        have c3 := (bcell hb _ _ (block_lt_of_cell k3)).trans k3
        rw [Nat.add_zero] at c0
        have hz := Blk.below KP3.out hb (Blk.lt KP3.out)
        have q0 := (Blk.cell hz 0).trans (rfl : _ = some (Value.int .i64 px))
        have q1 := (Blk.cell hz 1).trans (rfl : _ = some (Value.int .i64 py))
        have hba : Below wr.heap.size wr (wr.alloc (.cells #[.int .i64 x1, .int .i64 x2, .int .i64 y1, .int .i64 y2] 92)) := allocs_below wr [_]
        have qa0 := (bcell hba _ _ (block_lt_of_cell q0)).trans q0
        have qa1 := (bcell hba _ _ (block_lt_of_cell q1)).trans q1
        have HBA := hide hba
        clear hba
        have a1 := HRT.out j
        have a2 : Co (nx L j).1 ∧ Co (nx L j).2 := HRT.out _
        rw [hx] at a1
        rw [hy] at a2
        have hf := fun W => rpcr_any W x1 x2 y1 y2 px py a1.1 a1.2 a2.1 a2.2 HP.out.1 HP.out.2
        obtain ⟨z, hz0⟩ : ∃ z, lgn (cr L (px, py)) j = z := ⟨_, rfl⟩
        have hz1 := lgn_or (cr L (px, py)) j
        rw [hz0] at hz1 ⊢
        have hwz : IntKind.i64.wrap (-z) = -z := IntWalk.i64_in _ (by omega)
        have HZ := hide hz0
        have hcr : cr L (px, py) j = crs (x1, x2) (y1, y2) (px, py) := by unfold cr; rw [hx, hy]
        clear hz1 hz0 k0 k1 k2 k3 h4 hx hy hz hq hb a1 a2
        by_cases hc : crs (x1, x2) (y1, y2) (px, py) = true
        · have hc' := hcr.trans hc
          have HF := hide (fun W => (hc ▸ hf W : Calls Tryz.prog 90 #[.agg #[.int .i64 x1, .int .i64 x2, .int .i64 y1, .int .i64 y2], .agg #[.int .i64 px, .int .i64 py]] W fun e w' => e = .returned (.bool true) ∧ Below W.heap.size W w'))
          have HC := hide hc'
          clear hf hc hc' hcr
          go_wp2_with fail
          refine (HF.out _).mono ?_
          rintro e w6 ⟨rfl, hb6⟩
          have HX6 := hide (HB.out.trans ((Below.mono (HBA.out.trans (hb6.mono (by simp))) HB.out.size)))
          clear hb6
          go_wp2_with fail
          go_roundg (gk - 1)
          case measure => have := HQ.out; omega
          case rel => exact ⟨j + 1, by go_num, by have := HQ.out; omega, by rw [lgn_succ, if_pos HC.out, HZ.out], HX6.out⟩
        · have hc2 := Bool.not_eq_true _ |>.mp hc
          have hc' : ¬ cr L (px, py) j = true := by rw [hcr]; exact hc
          have HF := hide (fun W => (hc2 ▸ hf W : Calls Tryz.prog 90 #[.agg #[.int .i64 x1, .int .i64 x2, .int .i64 y1, .int .i64 y2], .agg #[.int .i64 px, .int .i64 py]] W fun e w' => e = .returned (.bool false) ∧ Below W.heap.size W w'))
          have HC := hide hc'
          clear hf hc hc' hcr hc2
          go_wp2_with fail
          refine (HF.out _).mono ?_
          rintro e w6 ⟨rfl, hb6⟩
          have HX6 := hide (HB.out.trans ((Below.mono (HBA.out.trans (hb6.mono (by simp))) HB.out.size)))
          clear hb6
          go_wp2_with fail
          go_roundg (gk - 1)
          case measure => have := HQ.out; omega
          case rel => exact ⟨j + 1, by go_num, by have := HQ.out; omega, by rw [lgn_succ, if_neg HC.out, HZ.out], HX6.out⟩
      · have hji : ¬ (j : Int) < (N : Int) := by omega
        have hk : j = N := by omega
        have HK := hide hk
        clear hq hb hk
        have he := HE.out
        rw [← HK.out] at he
        subst he
        go_wp2_with fail
        go_ret
        exact ⟨rfl, HBw.out⟩
end Go.Proofs.YtendaaghmeoddaaGreatDoor

namespace Go.Proofs.YtendaaghmeoddaaGreatDoor
open Go.RowKit MLab

theorem rightS_of_all {L : List S2} (h : L.all okPts = true) : RightS L := by
  intro i
  unfold gP
  by_cases hi : i < L.length
  · have := List.all_eq_true.1 h _ (List.getElem_mem hi)
    unfold okPts at this
    rw [List.getD_eq_getElem?_getD, List.getElem?_eq_getElem hi]
    exact of_decide_eq_true this
  · rw [List.getD_eq_getElem?_getD, List.getElem?_eq_none (by omega)]
    exact ⟨⟨by decide, by decide⟩, ⟨by decide, by decide⟩⟩
theorem chkP_zero {L : List S2} {c : Bool} (h : chkP L c = 0) : L.length ≤ 64 ∧ 2 ≤ L.length ∧ RightS L := by
  unfold chkP at h
  rcases chkPtsN_cases L with h1 | h1 | ⟨h1, h2, h3⟩
  · rw [h1, if_neg (by decide)] at h; exact absurd h (by decide)
  · rw [h1, if_neg (by decide)] at h; exact absurd h (by decide)
  · rw [if_pos h1] at h
    refine ⟨h2, ?_, rightS_of_all h3⟩
    rcases Nat.lt_or_ge L.length 2 with h4 | h4
    · unfold chkL at h; rw [if_pos (.inl h4)] at h; exact absurd h (by decide)
    · exact h4

set_option maxRecDepth 100000 in
set_option maxHeartbeats 4000000 in
theorem rpin_bad (w : World) (v : Value) (L : List S2) (px py : Int) (hv : Pts w v L) (hL : L.length ≤ 1000000000000) (n : Int) (hn : n ≠ 0) (he : chkP L true = n) :
    Calls Tryz.prog 14 #[v, .agg #[.int .i64 px, .int .i64 py]] w fun e w' => e = .returned (.tuple #[.int .i64 0, .int .i64 n]) ∧ Below w.heap.size w w' := by
  have HV := hide (hv.below (allocs_below w [.cells #[.int .i64 px, .int .i64 py] 24]))
  have hb0 := hide (allocs_below w [.cells #[.int .i64 px, .int .i64 py] 24])
  have K0 := hide (Blk.new w 24 #[.int .i64 px, .int .i64 py])
  obtain ⟨A, c, rfl, _⟩ := id hv
  have HE := hide he
  have hn0 : ¬ n = 0 := hn
  clear hv he hn
  go_enter Tryz.func14, Tryz.ntmps14
  go_wp2_with fail
  refine (rpcheck_any _ _ L true HV.out hL).mono ?_
  rw [HE.out]
  rintro e w2 ⟨rfl, hb2⟩
  have KP := hide (Blk.below K0.out hb2 (Blk.lt K0.out))
  have HV2 := hide (HV.out.below hb2)
  have HB2 := hide (hb0.out.trans (Below.mono hb2 hb0.out.size))
  clear hb2
  go_wp2_with fail
  go_ret2
  exact ⟨rfl, HB2.out⟩

set_option maxRecDepth 100000 in
set_option maxHeartbeats 4000000 in
theorem rpin_far (w : World) (v : Value) (L : List S2) (px py : Int) (hv : Pts w v L) (hL : L.length ≤ 1000000000000) (he : chkP L true = 0) (hd : ¬ (Co px ∧ Co py)) :
    Calls Tryz.prog 14 #[v, .agg #[.int .i64 px, .int .i64 py]] w fun e w' => e = .returned (.tuple #[.int .i64 0, .int .i64 2]) ∧ Below w.heap.size w w' := by
  have HV := hide (hv.below (allocs_below w [.cells #[.int .i64 px, .int .i64 py] 24]))
  have hb0 := hide (allocs_below w [.cells #[.int .i64 px, .int .i64 py] 24])
  have K0 := hide (Blk.new w 24 #[.int .i64 px, .int .i64 py])
  obtain ⟨A, c, rfl, _⟩ := id hv
  have HE := hide he
  have HD := hide (decide_eq_false hd)
  clear hv he hd
  go_enter Tryz.func14, Tryz.ntmps14
  go_wp2_with fail
  refine (rpcheck_any _ _ L true HV.out hL).mono ?_
  rw [HE.out]
  rintro e w2 ⟨rfl, hb2⟩
  have KP := hide (Blk.below K0.out hb2 (Blk.lt K0.out))
  have HV2 := hide (HV.out.below hb2)
  have HB2 := hide (hb0.out.trans (Below.mono hb2 hb0.out.size))
  clear hb2
  have p0 := (Blk.cell KP.out 0).trans (rfl : _ = some (Value.int .i64 px))
  have p1 := (Blk.cell KP.out 1).trans (rfl : _ = some (Value.int .i64 py))
  go_wp2_with fail
  refine (rright_any _ px py).mono ?_
  rw [HD.out]
  rintro e w3 ⟨rfl, hb3⟩
  have KP3 := hide (Blk.below KP.out hb3 (Blk.lt KP.out))
  have HV3 := hide (HV2.out.below hb3)
  have HB3 := hide (HB2.out.trans (Below.mono hb3 HB2.out.size))
  clear hb3 p0 p1
  have p0 := (Blk.cell KP3.out 0).trans (rfl : _ = some (Value.int .i64 px))
  have p1 := (Blk.cell KP3.out 1).trans (rfl : _ = some (Value.int .i64 py))
  go_wp2_with fail
  go_ret2
  exact ⟨rfl, HB3.out⟩

set_option maxRecDepth 100000 in
set_option maxHeartbeats 4000000 in
theorem rpin_ok (w : World) (v : Value) (L : List S2) (px py : Int) (hv : Pts w v L) (hL : L.length ≤ 1000000000000) (he : chkP L true = 0) (hd : Co px ∧ Co py) :
    Calls Tryz.prog 14 #[v, .agg #[.int .i64 px, .int .i64 py]] w fun e w' => e = .returned (.tuple #[.int .i64 (locP L (px, py)), .int .i64 0]) ∧ Below w.heap.size w w' := by
  obtain ⟨g1, g2, g3⟩ := chkP_zero he
  have HV := hide (hv.below (allocs_below w [.cells #[.int .i64 px, .int .i64 py] 24]))
  have hb0 := hide (allocs_below w [.cells #[.int .i64 px, .int .i64 py] 24])
  have K0 := hide (Blk.new w 24 #[.int .i64 px, .int .i64 py])
  obtain ⟨A, c, rfl, _⟩ := id hv
  have HE := hide he
  have HD := hide (decide_eq_true hd)
  have HN := hide (fun W (hV : Pts W (.slice A L.length c) L) => rploc_any W _ L px py hV g1 g2 g3 hd)
  clear hv he hd g3
  go_enter Tryz.func14, Tryz.ntmps14
  go_wp2_with fail
  refine (rpcheck_any _ _ L true HV.out hL).mono ?_
  rw [HE.out]
  rintro e w2 ⟨rfl, hb2⟩
  have KP := hide (Blk.below K0.out hb2 (Blk.lt K0.out))
  have HV2 := hide (HV.out.below hb2)
  have HB2 := hide (hb0.out.trans (Below.mono hb2 hb0.out.size))
  clear hb2
  have p0 := (Blk.cell KP.out 0).trans (rfl : _ = some (Value.int .i64 px))
  have p1 := (Blk.cell KP.out 1).trans (rfl : _ = some (Value.int .i64 py))
  go_wp2_with fail
  refine (rright_any _ px py).mono ?_
  rw [HD.out]
  rintro e w3 ⟨rfl, hb3⟩
  have KP3 := hide (Blk.below KP.out hb3 (Blk.lt KP.out))
  have HV3 := hide (HV2.out.below hb3)
  have HB3 := hide (HB2.out.trans (Below.mono hb3 HB2.out.size))
  clear hb3 p0 p1
  have p0 := (Blk.cell KP3.out 0).trans (rfl : _ = some (Value.int .i64 px))
  have p1 := (Blk.cell KP3.out 1).trans (rfl : _ = some (Value.int .i64 py))
  go_wp2_with fail
  refine (HN.out _ HV3.out).mono ?_
  rintro e w4 ⟨rfl, hb4⟩
  have HB4 := hide (HB3.out.trans (Below.mono hb4 HB3.out.size))
  clear hb4 p0 p1
  go_wp2_with fail
  go_ret2
  exact ⟨rfl, HB4.out⟩

set_option maxRecDepth 100000 in
set_option maxHeartbeats 4000000 in
theorem rpne_bad (w : World) (v : Value) (L : List S2) (c0 : Bool) (px py : Int) (hv : Pts w v L) (hL : L.length ≤ 1000000000000) (n : Int) (hn : n ≠ 0) (he : chkP L c0 = n) :
    Calls Tryz.prog 16 #[v, .bool c0, .agg #[.int .i64 px, .int .i64 py]] w fun e w' => e = .returned (.tuple #[.string ⟨#[]⟩, .int .i64 0, .int .i64 n]) ∧ Below w.heap.size w w' := by
  have HV := hide (hv.below (allocs_below w [.cells #[.int .i64 px, .int .i64 py] 24]))
  have hb0 := hide (allocs_below w [.cells #[.int .i64 px, .int .i64 py] 24])
  have K0 := hide (Blk.new w 24 #[.int .i64 px, .int .i64 py])
  obtain ⟨A, c, rfl, _⟩ := id hv
  have HE := hide he
  have hn0 : ¬ n = 0 := hn
  clear hv he hn
  go_enter Tryz.func16, Tryz.ntmps16
  go_wp2_with fail
  refine (rpcheck_any _ _ L c0 HV.out hL).mono ?_
  rw [HE.out]
  rintro e w2 ⟨rfl, hb2⟩
  have KP := hide (Blk.below K0.out hb2 (Blk.lt K0.out))
  have HV2 := hide (HV.out.below hb2)
  have HB2 := hide (hb0.out.trans (Below.mono hb2 hb0.out.size))
  clear hb2
  go_wp2_with fail
  go_ret3
  exact ⟨rfl, HB2.out⟩

set_option maxRecDepth 100000 in
set_option maxHeartbeats 4000000 in
theorem rpne_far (w : World) (v : Value) (L : List S2) (c0 : Bool) (px py : Int) (hv : Pts w v L) (hL : L.length ≤ 1000000000000) (he : chkP L c0 = 0) (hd : ¬ (Co px ∧ Co py)) :
    Calls Tryz.prog 16 #[v, .bool c0, .agg #[.int .i64 px, .int .i64 py]] w fun e w' => e = .returned (.tuple #[.string ⟨#[]⟩, .int .i64 0, .int .i64 2]) ∧ Below w.heap.size w w' := by
  have HV := hide (hv.below (allocs_below w [.cells #[.int .i64 px, .int .i64 py] 24]))
  have hb0 := hide (allocs_below w [.cells #[.int .i64 px, .int .i64 py] 24])
  have K0 := hide (Blk.new w 24 #[.int .i64 px, .int .i64 py])
  obtain ⟨A, c, rfl, _⟩ := id hv
  have HE := hide he
  have HD := hide (decide_eq_false hd)
  clear hv he hd
  go_enter Tryz.func16, Tryz.ntmps16
  go_wp2_with fail
  refine (rpcheck_any _ _ L c0 HV.out hL).mono ?_
  rw [HE.out]
  rintro e w2 ⟨rfl, hb2⟩
  have KP := hide (Blk.below K0.out hb2 (Blk.lt K0.out))
  have HV2 := hide (HV.out.below hb2)
  have HB2 := hide (hb0.out.trans (Below.mono hb2 hb0.out.size))
  clear hb2
  have p0 := (Blk.cell KP.out 0).trans (rfl : _ = some (Value.int .i64 px))
  have p1 := (Blk.cell KP.out 1).trans (rfl : _ = some (Value.int .i64 py))
  go_wp2_with fail
  refine (rright_any _ px py).mono ?_
  rw [HD.out]
  rintro e w3 ⟨rfl, hb3⟩
  have KP3 := hide (Blk.below KP.out hb3 (Blk.lt KP.out))
  have HV3 := hide (HV2.out.below hb3)
  have HB3 := hide (HB2.out.trans (Below.mono hb3 HB2.out.size))
  clear hb3 p0 p1
  have p0 := (Blk.cell KP3.out 0).trans (rfl : _ = some (Value.int .i64 px))
  have p1 := (Blk.cell KP3.out 1).trans (rfl : _ = some (Value.int .i64 py))
  go_wp2_with fail
  go_ret3
  exact ⟨rfl, HB3.out⟩

set_option maxRecDepth 100000 in
set_option maxHeartbeats 4000000 in
theorem rpne_ok (w : World) (v : Value) (L : List S2) (c0 : Bool) (px py : Int) (hv : Pts w v L) (hL : L.length ≤ 1000000000000) (he : chkP L c0 = 0) (hd : Co px ∧ Co py) :
    Calls Tryz.prog 16 #[v, .bool c0, .agg #[.int .i64 px, .int .i64 py]] w fun e w' => e = .returned (.tuple #[.string ⟨(RT (nearF (dq L (px, py)) (segN L c0 - 1)).1).toArray⟩, .int .i64 (((nearF (dq L (px, py)) (segN L c0 - 1)).2 : Nat) : Int), .int .i64 0]) ∧ Below w.heap.size w w' := by
  obtain ⟨g1, g2, g3⟩ := chkP_zero he
  have HV := hide (hv.below (allocs_below w [.cells #[.int .i64 px, .int .i64 py] 24]))
  have hb0 := hide (allocs_below w [.cells #[.int .i64 px, .int .i64 py] 24])
  have K0 := hide (Blk.new w 24 #[.int .i64 px, .int .i64 py])
  obtain ⟨A, c, rfl, _⟩ := id hv
  have HE := hide he
  have HD := hide (decide_eq_true hd)
  have HN := hide (fun W (hV : Pts W (.slice A L.length c) L) => rpnear_any W _ L c0 px py hV g1 g2 g3 hd)
  clear hv he hd g3
  go_enter Tryz.func16, Tryz.ntmps16
  go_wp2_with fail
  refine (rpcheck_any _ _ L c0 HV.out hL).mono ?_
  rw [HE.out]
  rintro e w2 ⟨rfl, hb2⟩
  have KP := hide (Blk.below K0.out hb2 (Blk.lt K0.out))
  have HV2 := hide (HV.out.below hb2)
  have HB2 := hide (hb0.out.trans (Below.mono hb2 hb0.out.size))
  clear hb2
  have p0 := (Blk.cell KP.out 0).trans (rfl : _ = some (Value.int .i64 px))
  have p1 := (Blk.cell KP.out 1).trans (rfl : _ = some (Value.int .i64 py))
  go_wp2_with fail
  refine (rright_any _ px py).mono ?_
  rw [HD.out]
  rintro e w3 ⟨rfl, hb3⟩
  have KP3 := hide (Blk.below KP.out hb3 (Blk.lt KP.out))
  have HV3 := hide (HV2.out.below hb3)
  have HB3 := hide (HB2.out.trans (Below.mono hb3 HB2.out.size))
  clear hb3 p0 p1
  have p0 := (Blk.cell KP3.out 0).trans (rfl : _ = some (Value.int .i64 px))
  have p1 := (Blk.cell KP3.out 1).trans (rfl : _ = some (Value.int .i64 py))
  go_wp2_with fail
  refine (HN.out _ HV3.out).mono ?_
  rintro e w4 ⟨rfl, hb4⟩
  have HB4 := hide (HB3.out.trans (Below.mono hb4 HB3.out.size))
  clear hb4 p0 p1
  go_wp2_with fail
  go_ret3
  exact ⟨rfl, HB4.out⟩

end Go.Proofs.YtendaaghmeoddaaGreatDoor

namespace Go.Proofs.YtendaaghmeoddaaGreatDoor
open Go.RowKit MLab

/-- A tolerance. -/
abbrev Tl (n : Int) : Prop := 0 ≤ n ∧ n ≤ 100000
theorem Tl.sq {n : Int} (h : Tl n) : 0 ≤ n * n ∧ n * n ≤ 10000000000 :=
  ⟨Int.mul_nonneg h.1 h.1, Int.mul_le_mul h.2 h.2 h.1 (by decide)⟩
theorem Tl.sz {n : Int} (h : Tl n) : Sz 30 30 ((n * n : Int) : Rat) := (Sz.int (a := 11) (by have := h.sq; omega)).mono (by omega) (by omega)
/-- A squared distance is greater than that of a whole distance. -/
def farQ (q : Rat) (n : Int) : Bool := decide (((n * n : Int) : Rat) < q)
def dN (L : List S2) (c : Bool) (p : S2) : Rat := (nearF (dq L p) (segN L c - 1)).1
def iN (L : List S2) (c : Bool) (p : S2) : Nat := (nearF (dq L p) (segN L c - 1)).2
theorem dN_sz {L : List S2} {c : Bool} {p : S2} (hr : RightS L) (hp : Co p.1 ∧ Co p.2) : Sz 30 30 (dN L c p) := nearF_sz (fun j => dq_sz hr hp j) _
theorem rt4 : RT 4 = [52] := by rw [show (4 : Rat) = ((4 : Int) : Rat) from rfl, RT, if_pos (by rfl)]; kernel_rfl

set_option maxRecDepth 100000 in
theorem rptol_any (w : World) (x : Int) :
    Calls Tryz.prog 52 #[.int .i64 x] w fun e w' => e = .returned (.bool (decide (Tl x))) ∧ w = w' := by
  go_enter Tryz.func52, Tryz.ntmps52
  by_cases h1 : 0 ≤ x
  · by_cases h2 : x ≤ 100000
    · rw [decide_eq_true (show Tl x from ⟨h1, h2⟩)]
      go_wp2_with fail
      go_ret
      exact ⟨rfl, rfl⟩
    · rw [decide_eq_false (show ¬ Tl x from fun h => h2 h.2)]
      go_wp2_with fail
      go_ret
      exact ⟨rfl, rfl⟩
  · rw [decide_eq_false (show ¬ Tl x from fun h => h1 h.1)]
    go_wp2_with fail
    go_ret
    exact ⟨rfl, rfl⟩

set_option maxRecDepth 100000 in
set_option maxHeartbeats 2000000 in
theorem rpfar_any (w : World) (a : ByteArray) (q : Rat) (n : Int) (ha : a.data.toList = RT q) (hq : Sz 40 40 q) (hn : Tl n) :
    Calls Tryz.prog 60 #[.string a, .int .i64 n] w fun e w' => e = .returned (.bool (farQ q n)) ∧ Below w.heap.size w w' := by
  have hsq := hn.sq
  have hww : IntKind.i64.wrap (n * n) = n * n := IntWalk.i64_in _ (by omega)
  have W1 := hide (fun W => r2whole_any (n * n) (by omega) (by omega) W)
  have hss := cross_pos q ((n * n : Int) : Rat)
  have O1 := hide (fun W => rqorder_any W a ⟨(RT ((n * n : Int) : Rat)).toArray⟩ q ((n * n : Int) : Rat) ha rfl (m := 40) (by omega) hq (hn.sz.mono (by omega) (by omega)))
  obtain ⟨R, hR⟩ : ∃ R, farQ q n = R := ⟨_, rfl⟩
  rw [hR]
  unfold farQ at hR
  obtain ⟨Q, hQ⟩ : ∃ Q, ((n * n : Int) : Rat) = Q := ⟨_, rfl⟩
  rw [hQ] at W1 O1 hss hR
  obtain ⟨t, ht⟩ : ∃ t : ByteArray, (⟨(RT Q).toArray⟩ : ByteArray) = t := ⟨_, rfl⟩
  rw [ht] at W1 O1
  obtain ⟨s, hs⟩ : ∃ s, (q.num * Q.den - Q.num * q.den).sign = s := ⟨_, rfl⟩
  rw [hs] at O1 hss
  clear hsq ha hq hn hQ ht hs
  go_enter Tryz.func60, Tryz.ntmps60
  go_wp2_with fail
  refine (W1.out _).mono ?_
  rintro e w1 ⟨rfl, hb1⟩
  have HB1 := hide hb1
  clear hb1
  go_wp2_with fail
  refine (O1.out _).mono ?_
  rintro e w2 ⟨rfl, hb2⟩
  have HB2 := hide (HB1.out.trans (hb2.mono HB1.out.size))
  clear hb2
  have hd : decide (0 < s) = R := by rw [← hR]; exact decide_eq_decide.2 hss
  have HD := hide hd
  clear hss hR hd
  go_wp2_with fail
  go_ret
  exact ⟨by rw [← HD.out]; rfl, HB2.out⟩

set_option maxRecDepth 100000 in
set_option maxHeartbeats 2000000 in
theorem rpbeyond_any (w : World) (v : Value) (L : List S2) (c0 : Bool) (px py n : Int) (hv : Pts w v L) (hL : L.length ≤ 64) (h2 : 2 ≤ L.length) (hr : RightS L) (hp : Co px ∧ Co py) (hn : Tl n) :
    Calls Tryz.prog 53 #[v, .bool c0, .agg #[.int .i64 px, .int .i64 py], .int .i64 n] w fun e w' => e = .returned (.bool (farQ (4 * dN L c0 (px, py)) n)) ∧ Below w.heap.size w w' := by
  have N1 := hide (fun W (hV : Pts W v L) => rpnear_any W v L c0 px py hV hL h2 hr hp)
  have hz : Sz 30 30 (dN L c0 (px, py)) := dN_sz hr hp
  have h4 : Sz 30 30 (4 : Rat) := (Sz.int (a := 1) (n := 4) (by decide)).mono (by omega) (by omega)
  have hz4 : Sz 40 40 (4 * dN L c0 (px, py)) := (Sz.mul ((Sz.int (a := 1) (n := 4) (by decide)) : Sz 1 0 (4 : Rat)) hz).mono (by omega) (by omega)
  have e4 : (⟨#[52]⟩ : ByteArray).data.toList = RT 4 := by rw [rt4]
  have T1 := hide (fun W => rqtimes_any W ⟨#[52]⟩ ⟨(RT (dN L c0 (px, py))).toArray⟩ 4 (dN L c0 (px, py)) e4 rfl (m := 30) (by omega) h4 hz)
  have F1 := hide (fun W => rpfar_any W ⟨(RT (4 * dN L c0 (px, py))).toArray⟩ (4 * dN L c0 (px, py)) n rfl hz4 hn)
  have HV := hide hv
  obtain ⟨A, c, rfl, _⟩ := id hv
  clear hv hz h4 hz4 e4 hr hp hn
  simp only [dN] at T1 F1 ⊢
  go_enter Tryz.func53, Tryz.ntmps53
  go_wp2_with fail
  refine (N1.out _ (HV.out.below (allocs_below w [.cells #[.int .i64 px, .int .i64 py] 24]))).mono ?_
  rintro e w1 ⟨rfl, hb1⟩
  have HB1 := hide ((allocs_below w [.cells #[.int .i64 px, .int .i64 py] 24]).trans (hb1.mono (by simp [allocs])))
  clear hb1
  go_wp2_with fail
  refine (T1.out _).mono ?_
  rintro e w2 ⟨rfl, hb2⟩
  have HB2 := hide (HB1.out.trans (hb2.mono HB1.out.size))
  clear hb2
  go_wp2_with fail
  refine (F1.out _).mono ?_
  rintro e w3 ⟨rfl, hb3⟩
  have HB3 := hide (HB2.out.trans (hb3.mono HB2.out.size))
  clear hb3
  go_wp2_with fail
  go_ret
  exact ⟨rfl, HB3.out⟩
end Go.Proofs.YtendaaghmeoddaaGreatDoor
