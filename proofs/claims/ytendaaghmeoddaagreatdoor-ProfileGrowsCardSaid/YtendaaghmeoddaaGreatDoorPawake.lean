/- slices.Equal of slices of numbers; the examples of the chapter of law 37. -/
import Derived.Test.YtendaaghmeoddaaGreatDoorPout
namespace Go.Proofs.YtendaaghmeoddaaGreatDoor
open Go.RowKit MLab

set_option maxRecDepth 100000 in
set_option maxHeartbeats 2000000 in
theorem equal_any (w : World) (u v : Value) (l m : List Nat) (hL : l.length ≤ 1000000000000) (hu : IxL w u l) (hv : IxL w v m) :
    Calls Tryz.prog 30 #[u, v] w fun e w' => e = .returned (.bool (decide (l = m))) ∧ Below w.heap.size w w' := by
  obtain ⟨A, c, rfl, hc⟩ := hu
  obtain ⟨A2, c2, rfl, hc2⟩ := hv
  have HC := hide hc
  have HC2 := hide hc2
  obtain ⟨R, hR⟩ : ∃ R, decide (l = m) = R := ⟨_, rfl⟩
  rw [hR]
  have HR := hide hR
  clear hc hc2 hR
  by_cases hlen : l.length = m.length
  · have HLEN := hide hlen
    rw [← hlen]
    clear hlen
    go_enter Tryz.func30, Tryz.ntmps30
    go_wp2_with fail
    go_loopg [13] l.length (fun q iv wr => ∃ j : Nat, iv = .int .i64 (j : Int) ∧ q + j = l.length ∧ (∀ i, i < j → l[i]? = m[i]?) ∧ Below w.heap.size w wr)
    case atStart => exact ⟨0, rfl, rfl, fun i h => absurd h (by omega), Below.refl _ _⟩
    case round =>
      obtain ⟨j, rfl, hq, hs, hb⟩ := hrel
      have hj : j ≤ l.length := by omega
      have HQ := hide hq
      have HS := hide hs
      have HB := hide hb
      clear hq hs hb
      by_cases hlt : j < l.length
      · have hji : (j : Int) < (l.length : Int) := by omega
        have hlt2 : j < m.length := by have := HLEN.out; omega
        obtain ⟨g, hA, hcell⟩ := HC.out (by omega)
        obtain ⟨g2, hA2, hcell2⟩ := HC2.out (by omega)
        subst hA hA2
        obtain ⟨x, hx⟩ : ∃ x, l[j]? = some x := ⟨_, List.getElem?_eq_getElem hlt⟩
        obtain ⟨y, hy⟩ : ∃ y, m[j]? = some y := ⟨_, List.getElem?_eq_getElem hlt2⟩
        have a := hcell j x hx
        have b := hcell2 j y hy
        have a2 := (bcell HB.out _ _ (block_lt_of_cell a)).trans a
        have b2 := (bcell HB.out _ _ (block_lt_of_cell b)).trans b
        have HX := hide hx
        have HY := hide hy
        clear a b hcell hcell2 HC HC2 hx hy hlt2
        by_cases e : x = y
        · subst e
          go_upto_region 6 with (fail)
          go_region
          go_wp2_with fail
          go_roundg (gk - 1)
          case measure => have := HQ.out; omega
          case rel =>
            refine ⟨j + 1, by go_num, by have := HQ.out; omega, fun i hi => ?_, HB.out.drew⟩
            by_cases e : i = j
            · subst e; rw [HX.out, HY.out]
            · exact HS.out i (by omega)
        · have e0 : R = false := by
            rw [← HR.out]
            refine decide_eq_false fun h => e ?_
            have h1 := HX.out
            rw [h, HY.out] at h1
            exact (Option.some.inj h1).symm
          subst e0
          have ei : ¬ (x : Int) = (y : Int) := by omega
          clear e
          go_upto_region 6 with (fail)
          go_region
          go_wp2_with fail
          go_ret
          exact ⟨rfl, HB.out.drew⟩
      · have hji : ¬ (j : Int) < (l.length : Int) := by omega
        have e0 : R = true := by
          rw [← HR.out]
          refine decide_eq_true (List.ext_getElem? fun i => ?_)
          by_cases hi : i < j
          · exact HS.out i hi
          · rw [List.getElem?_eq_none (by omega), List.getElem?_eq_none (by have := HLEN.out; omega)]
        subst e0
        go_wp2_with fail
        go_ret
        exact ⟨rfl, HB.out⟩
  · have e0 : R = false := by
      rw [← HR.out]
      exact decide_eq_false fun h => hlen (by rw [h])
    subst e0
    have ei : ¬ (l.length : Int) = (m.length : Int) := by omega
    clear HR
    go_enter Tryz.func30, Tryz.ntmps30
    go_wp2_with fail
    go_ret
    exact ⟨rfl, Below.refl _ _⟩

set_option maxRecDepth 100000 in
theorem at37_any (w : World) (x y : Int) : Calls Tryz.prog 36 #[.int .i64 x, .int .i64 y] w fun e w' => e = .returned (.agg #[.int .i64 x, .int .i64 y]) ∧ Below w.heap.size w w' := by
  go_enter Tryz.func36, Tryz.ntmps36
  go_wp2_with fail
  exact bodyPost_ret (v := .agg #[.int .i64 x, .int .i64 y]) (by simp [results, Tryz.results36, go_sem]) rfl ⟨rfl, allocs_below w [.cells #[.int .i64 x, .int .i64 y] 24]⟩

def L37 : List S2 := [(0, 0), (10, 0), (10, 10)]
theorem pts_new (w : World) (L : List S2) (c : Nat) (cs : Array Value) (hcs : cs = (L.flatMap fun p => [Value.int .i64 p.1, Value.int .i64 p.2]).toArray) (n : Nat) (hn : n = L.length) : Pts (w.alloc (.cells cs 24)) (.slice (some ⟨w.heap.size, 0, none⟩) n c) L := by
  subst hcs hn
  refine Pts.new w L 24 _ (fun i p h => ?_) c
  have key : ∀ (L : List S2) (i : Nat), L[i]? = some p → (L.flatMap fun p => [Value.int .i64 p.1, Value.int .i64 p.2])[i * 2]? = some (.int .i64 p.1) ∧ (L.flatMap fun p => [Value.int .i64 p.1, Value.int .i64 p.2])[i * 2 + 1]? = some (.int .i64 p.2) := by
    intro L
    induction L with
    | nil => intro i h; simp at h
    | cons q L ih =>
      intro i h
      match i, h with
      | 0, h => simp at h; subst h; simp
      | i + 1, h =>
        have h2 := ih i (by simpa using h)
        rw [show (i + 1) * 2 = i * 2 + 1 + 1 by omega]
        simpa using h2
  simpa using key L i h

set_option maxRecDepth 100000 in
set_option maxHeartbeats 4000000 in
theorem awake_any (w : World) (hs : Std w) : Calls Tryz.prog 12 #[] w fun e w' => e = .returned (.bool true) ∧ Below w.heap.size w w' := by
  have HS := hide hs
  clear hs
  go_enter Tryz.func12, Tryz.ntmps12
  have HB0 := hide (Below.refl w.heap.size w)
  go_wp2_with fail
  refine (at37_any _ 0 0).mono ?_
  rintro e w1 ⟨rfl, hb1⟩
  have HB1 := hide (HB0.out.trans (hb1.mono HB0.out.size))
  clear hb1
  go_wp2_with fail
  refine (at37_any _ 10 0).mono ?_
  rintro e w2 ⟨rfl, hb2⟩
  have HB2 := hide (HB1.out.trans (hb2.mono HB1.out.size))
  clear hb2
  go_wp2_with fail
  refine (at37_any _ 10 10).mono ?_
  rintro e w3 ⟨rfl, hb3⟩
  have HB3 := hide (HB2.out.trans (hb3.mono HB2.out.size))
  clear hb3
  go_wp2_with fail
  have hA4 := allocs_below w3 [.cells #[.int .i64 0, .int .i64 0, .int .i64 10, .int .i64 0, .int .i64 10, .int .i64 10] 24]
  have HA4 := hide (HB3.out.trans (hA4.mono HB3.out.size))
  have KP := hide (pts_new w3 L37 3 #[.int .i64 0, .int .i64 0, .int .i64 10, .int .i64 0, .int .i64 10, .int .i64 10] rfl 3 rfl)
  clear hA4
  refine (at37_any _ 4 3).mono ?_
  rintro e w4 ⟨rfl, hb4⟩
  replace KP := hide (KP.out.below hb4)
  have HB4 := hide (HA4.out.trans (hb4.mono HA4.out.size))
  clear hb4
  go_wp2_with fail
  refine (pne_any _ _ L37 false 4 3 KP.out (by decide) (HS.out.below HB4.out (Nat.le_refl _))).mono ?_
  rw [show neV L37 false 4 3 = .tuple #[.string ⟨#[57]⟩, .int .i64 0, .int .i64 0] from by kernel_rfl]
  rintro e w5 ⟨rfl, hb5⟩
  replace KP := hide (KP.out.below hb5)
  have HB5 := hide (HB4.out.trans (hb5.mono HB4.out.size))
  clear hb5
  go_wp2_with fail
  refine (at37_any _ 4 3).mono ?_
  rintro e w6 ⟨rfl, hb6⟩
  replace KP := hide (KP.out.below hb6)
  have HB6 := hide (HB5.out.trans (hb6.mono HB5.out.size))
  clear hb6
  go_wp2_with fail
  refine (pne_any _ _ L37 true 4 3 KP.out (by decide) (HS.out.below HB6.out (Nat.le_refl _))).mono ?_
  rw [show neV L37 true 4 3 = .tuple #[.string ⟨#[49, 47, 50]⟩, .int .i64 2, .int .i64 0] from by kernel_rfl]
  rintro e w7 ⟨rfl, hb7⟩
  replace KP := hide (KP.out.below hb7)
  have HB7 := hide (HB6.out.trans (hb7.mono HB6.out.size))
  clear hb7
  go_wp2_with fail
  refine (at37_any _ 7 3).mono ?_
  rintro e w8 ⟨rfl, hb8⟩
  replace KP := hide (KP.out.below hb8)
  have HB8 := hide (HB7.out.trans (hb8.mono HB7.out.size))
  clear hb8
  go_wp2_with fail
  refine (pin_any _ _ L37 7 3 KP.out (by decide) (HS.out.below HB8.out (Nat.le_refl _))).mono ?_
  rw [show inV L37 7 3 = .tuple #[.int .i64 1, .int .i64 0] from by kernel_rfl]
  rintro e w9 ⟨rfl, hb9⟩
  replace KP := hide (KP.out.below hb9)
  have HB9 := hide (HB8.out.trans (hb9.mono HB8.out.size))
  clear hb9
  go_wp2_with fail
  refine (at37_any _ 5 5).mono ?_
  rintro e w10 ⟨rfl, hb10⟩
  replace KP := hide (KP.out.below hb10)
  have HB10 := hide (HB9.out.trans (hb10.mono HB9.out.size))
  clear hb10
  go_wp2_with fail
  refine (pin_any _ _ L37 5 5 KP.out (by decide) (HS.out.below HB10.out (Nat.le_refl _))).mono ?_
  rw [show inV L37 5 5 = .tuple #[.int .i64 0, .int .i64 0] from by kernel_rfl]
  rintro e w11 ⟨rfl, hb11⟩
  replace KP := hide (KP.out.below hb11)
  have HB11 := hide (HB10.out.trans (hb11.mono HB10.out.size))
  clear hb11
  go_wp2_with fail
  refine (at37_any _ 3 4).mono ?_
  rintro e w12 ⟨rfl, hb12⟩
  replace KP := hide (KP.out.below hb12)
  have HB12 := hide (HB11.out.trans (hb12.mono HB11.out.size))
  clear hb12
  go_wp2_with fail
  refine (pin_any _ _ L37 3 4 KP.out (by decide) (HS.out.below HB12.out (Nat.le_refl _))).mono ?_
  rw [show inV L37 3 4 = .tuple #[.int .i64 (-1), .int .i64 0] from by kernel_rfl]
  rintro e w13 ⟨rfl, hb13⟩
  replace KP := hide (KP.out.below hb13)
  have HB13 := hide (HB12.out.trans (hb13.mono HB12.out.size))
  clear hb13
  go_wp2_with fail
  refine (at37_any _ 4 3).mono ?_
  rintro e w14 ⟨rfl, hb14⟩
  replace KP := hide (KP.out.below hb14)
  have HB14 := hide (HB13.out.trans (hb14.mono HB13.out.size))
  clear hb14
  go_wp2_with fail
  refine (at37_any _ 4 1).mono ?_
  rintro e w15 ⟨rfl, hb15⟩
  replace KP := hide (KP.out.below hb15)
  have HB15 := hide (HB14.out.trans (hb15.mono HB14.out.size))
  clear hb15
  go_wp2_with fail
  have hA16 := allocs_below w15 [.cells #[.int .i64 4, .int .i64 3, .int .i64 4, .int .i64 1] 24]
  have HA16 := hide (HB15.out.trans (hA16.mono HB15.out.size))
  replace KP := hide (KP.out.below hA16)
  have KQ := hide (pts_new w15 [(4, 3), (4, 1)] 2 #[.int .i64 4, .int .i64 3, .int .i64 4, .int .i64 1] rfl 2 rfl)
  clear hA16
  refine (pout_any _ _ L37 false _ [(4, 3), (4, 1)] 3 KP.out KQ.out (by decide) (by decide) (HS.out.below HA16.out (Nat.le_refl _))).mono ?_
  rw [show outE L37 false [(4, 3), (4, 1)] 3 = 0 from by kernel_rfl, show outL L37 false [(4, 3), (4, 1)] 3 = [0] from by kernel_rfl]
  rintro e w16 ⟨⟨u, rfl, hin⟩, hb16⟩
  replace KP := hide (KP.out.below hb16)
  replace KQ := hide (KQ.out.below hb16)
  have HB16 := hide (HA16.out.trans (hb16.mono HA16.out.size))
  clear hb16
  obtain ⟨A3, c3, rfl⟩ := hin.shape
  have HIN := hide hin
  clear hin
  go_wp2_with fail
  have hAz := allocs_below w16 [.cells #[.int .i64 0] 3]
  have hix : IxL (w16.alloc (.cells #[.int .i64 0] 3)) (.slice (some ⟨w16.heap.size, 0, none⟩) 1 1) [0] := ⟨some ⟨w16.heap.size, 0, none⟩, 1, rfl, fun _ => ⟨_, rfl, fun p x hp => by
    match p, hp with
    | 0, hp => simp at hp; subst hp; exact (Blk.cell (Blk.new w16 3 #[.int .i64 0]) 0).trans rfl
    | k + 1, hp => simp at hp⟩⟩
  refine (equal_any _ _ _ [0] [0] (by decide) (HIN.out.below hAz) hix).mono ?_
  rw [show decide (([0] : List Nat) = [0]) = true from rfl]
  rintro e wz ⟨rfl, hbz⟩
  have HBZ := hide (HB16.out.trans ((hAz.trans (hbz.mono hAz.size)).mono HB16.out.size))
  clear hbz hAz hix
  go_wp2_with fail
  go_ret
  exact ⟨rfl, HBZ.out⟩
end Go.Proofs.YtendaaghmeoddaaGreatDoor
