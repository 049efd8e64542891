/- vector: Collinear, and that of metrolabref07. -/
import Derived.Test.YtblfinpfcpglcaaGreatDoorLine
import Derived.Test.YtblfinpfcpglcaaGreatDoorNear
namespace Go.Proofs.YtblfinpfcpglcaaGreatDoor
open Go.RowKit MLab

theorem nalk (w : World) (a : Obj) : Below w.heap.size w (w.alloc a) := allocs_below w [a]
theorem bel_set2 {B : Nat} {w0 w : World} {R : Prop} (h : Below B w0 w ∧ R) (d : Nat) (hd : B ≤ d) (x y : Value) : Below B w0 ((w.setCell ⟨d, 0, none⟩ x).setCell ⟨d, 1, none⟩ y) :=
  (h.1.setCell (p := ⟨d, 0, none⟩) hd x).setCell (p := ⟨d, 1, none⟩) hd y
theorem bel_alk {w0 w : World} (h : Below w0.heap.size w0 w) (o : Obj) : Below w0.heap.size w0 (w.alloc o) := h.alloc h.size o

set_option maxRecDepth 100000 in
set_option maxHeartbeats 1000000 in
theorem coll1_any (w : World) (x y o1 o2 : Int) (Bs b off n c : Nat) (hB : w.cell? ⟨Bs, 0, none⟩ = some (.slice (some ⟨b, off, none⟩) n c)) (hn : 0 < n) (h0 : w.cell? ⟨b, off, none⟩ = some (.int .i64 o1)) (h1 : w.cell? ⟨b, off + 1, none⟩ = some (.int .i64 o2)) :
    Calls Tryz.prog 99 #[ptv x y, .pointer (some ⟨Bs, 0, none⟩)] w fun e w' => e = .returned (.bool (!decide (x = o1 ∧ y = o2))) ∧ Below w.heap.size w w' := by
  have hni : (0 : Int) < (n : Int) := by omega
  have hb := nalk w (.cells #[.int .i64 x, .int .i64 y] 23)
  have gB := (bcell hb _ _ (block_lt_of_cell hB)).trans hB
  have g0 := (bcell hb _ _ (block_lt_of_cell h0)).trans h0
  have g1 := (bcell hb _ _ (block_lt_of_cell h1)).trans h1
  have HB := hide hb
  clear hb
  by_cases e1 : x = o1
  · by_cases e2 : y = o2
    · rw [decide_eq_true (show x = o1 ∧ y = o2 from ⟨e1, e2⟩)]
      have f1 : (x = o1) = True := eq_true e1
      have f2 : (y = o2) = True := eq_true e2
      clear e1 e2
      go_enter Tryz.func99, Tryz.ntmps99
      go_wp2_with fail
      go_region
      go_wp2_with fail
      go_ret
      exact ⟨rfl, HB.out.drew⟩
    · rw [decide_eq_false (show ¬ (x = o1 ∧ y = o2) from fun h => e2 h.2)]
      have f1 : (x = o1) = True := eq_true e1
      have f2 : (y = o2) = False := eq_false e2
      clear e1 e2
      go_enter Tryz.func99, Tryz.ntmps99
      go_wp2_with fail
      go_region
      go_wp2_with fail
      go_ret
      exact ⟨rfl, HB.out.drew⟩
  · rw [decide_eq_false (show ¬ (x = o1 ∧ y = o2) from fun h => e1 h.1)]
    have f1 : (x = o1) = False := eq_false e1
    clear e1
    go_enter Tryz.func99, Tryz.ntmps99
    go_wp2_with fail
    go_region
    go_wp2_with fail
    go_ret
    exact ⟨rfl, HB.out.drew⟩

/-- The first index of a point that is not the first one, or -1. -/
def IdxC (L : List S2) (e : Ending) : Prop := (e = .returned (.int .i64 (-1)) ∧ ∀ i, i < L.length → gP L i = gP L 0) ∨ ∃ k : Nat, k < L.length ∧ e = .returned (.int .i64 (k : Int)) ∧ gP L k ≠ gP L 0

set_option maxRecDepth 100000 in
set_option maxHeartbeats 1000000 in
theorem indexc_any (w : World) (v : Value) (L : List S2) (hv : Pts w v L) (hL : L.length ≤ 1000000000000) (Bs : Nat) (hB : w.cell? ⟨Bs, 0, none⟩ = some v) :
    Calls Tryz.prog 98 #[v, .func (.func 99) #[] #[.pointer (some ⟨Bs, 0, none⟩)]] w fun e w' => IdxC L e ∧ Below w.heap.size w w' := by
  obtain ⟨A, c, rfl, hc⟩ := id hv
  have HC := hide hc
  have HBs := hide hB
  clear hv hc hB
  go_enter Tryz.func98, Tryz.ntmps98
  go_wp2_with fail
  go_loopg [8] L.length (fun k i wr => ∃ j : Nat, i = .int .i64 (j : Int) ∧ k + j = L.length ∧ (∀ x, x < j → gP L x = gP L 0) ∧ Below w.heap.size w wr)
  case atStart => exact ⟨0, rfl, rfl, fun x h => by omega, Below.refl _ _⟩
  case round =>
    obtain ⟨j, rfl, hk, hok, hb⟩ := hrel
    have hj : j ≤ L.length := by omega
    have HK := hide hk
    have HOK := hide hok
    have HB := hide hb
    clear hk hok hb
    by_cases hlt : j < L.length
    · have hji : (j : Int) < (L.length : Int) := by omega
      obtain ⟨b, off, hA, hcell⟩ := HC.out (by omega)
      subst hA
      obtain ⟨x1, x2, hx⟩ : ∃ x y, gP L j = (x, y) := ⟨_, _, rfl⟩
      obtain ⟨o1, o2, ho⟩ : ∃ x y, gP L 0 = (x, y) := ⟨_, _, rfl⟩
      obtain ⟨h0, h1⟩ := hcell j _ (gP_eq hlt)
      obtain ⟨k0, k1⟩ := hcell 0 _ (gP_eq (show 0 < L.length by omega))
      rw [hx] at h0 h1
      rw [ho] at k0 k1
      have hc0 : wr.cell? ⟨b, off + j * 2, none⟩ = some (.int .i64 x1) := (bcell HB.out _ _ (block_lt_of_cell h0)).trans h0
      have hc1 : wr.cell? ⟨b, off + j * 2 + 1, none⟩ = some (.int .i64 x2) := (bcell HB.out _ _ (block_lt_of_cell h1)).trans h1
      have hd0 := hide (show wr.cell? ⟨b, off, none⟩ = some (.int .i64 o1) from (bcell HB.out _ _ (block_lt_of_cell k0)).trans k0)
      have hd1 := hide (show wr.cell? ⟨b, off + 1, none⟩ = some (.int .i64 o2) from (bcell HB.out _ _ (block_lt_of_cell k1)).trans k1)
      have hBr := hide ((bcell HB.out _ _ (block_lt_of_cell HBs.out)).trans HBs.out)
      have hxo : gP L j = gP L 0 ↔ (x1 = o1 ∧ x2 = o2) := by rw [hx, ho]; simp
      have HXO := hide hxo
      clear hcell h0 h1 k0 k1 HC hx ho hxo
      by_cases hz : x1 = o1 ∧ x2 = o2
      · have hzd := hide (decide_eq_true hz)
        have HZ := hide hz
        clear hz
        go_wp2_with fail
        refine (coll1_any _ x1 x2 o1 o2 Bs b off L.length c hBr.out (by omega) hd0.out hd1.out).mono ?_
        rw [hzd.out]
        rintro e w2 ⟨rfl, hb2⟩
        have HB2 := hide hb2
        clear hb2
        go_wp2_with fail
        go_roundg (gk - 1)
        case measure => have := HK.out; omega
        case rel =>
          refine ⟨j + 1, by go_num, by have := HK.out; omega, fun x hx => ?_, HB.out.trans (HB2.out.mono HB.out.size)⟩
          by_cases h : x < j
          · exact HOK.out x h
          · have h2 : x = j := by omega
            rw [h2]; exact HXO.out.2 HZ.out
      · have hzd := hide (decide_eq_false hz)
        have HZ := hide hz
        clear hz
        go_wp2_with fail
        refine (coll1_any _ x1 x2 o1 o2 Bs b off L.length c hBr.out (by omega) hd0.out hd1.out).mono ?_
        rw [hzd.out]
        rintro e w2 ⟨rfl, hb2⟩
        have HB2 := hide hb2
        clear hb2
        go_wp2_with fail
        go_ret
        exact ⟨.inr ⟨j, hlt, rfl, fun h => HZ.out (HXO.out.1 h)⟩, HB.out.trans (HB2.out.mono HB.out.size)⟩
    · have hji : ¬ (j : Int) < (L.length : Int) := by omega
      go_wp2_with fail
      go_ret
      exact ⟨.inl ⟨rfl, fun i hi => HOK.out i (by omega)⟩, HB.out⟩

set_option maxRecDepth 100000 in
set_option maxHeartbeats 8000000 in
theorem collinear_ok (w : World) (v : Value) (L : List S2) (hv : Pts w v L) (hL : L.length ≤ 1000000000000) (hchk : chkPtsN L = 0) (hok : L.all okPts = true) :
    Calls Tryz.prog 47 #[v] w fun e w' => PairR (Line3 L) 0 e ∧ Below w.heap.size w w' := by
  have HV := hide hv
  obtain ⟨A, c, rfl, hc⟩ := id hv
  have HC := hide hc
  have HOK := hide hok
  have HCHK := hide hchk
  clear hv hc hok hchk
  have hb0 := hide (nalk w (.cells #[.slice A L.length c] 65))
  have hB0 := hide (show (w.alloc (.cells #[.slice A L.length c] 65)).cell? ⟨w.heap.size, 0, none⟩ = some (.slice A L.length c) from (Blk.cell (Blk.new w 65 #[.slice A L.length c]) 0).trans rfl)
  go_enter Tryz.func47, Tryz.ntmps47
  go_upto_region 1 with (fail)
  have HV0 := hide (HV.out.below hb0.out)
  generalize (w.alloc (.cells #[.slice A L.length c] 65)) = w0 at *
  have kB := hB0.out
  go_wp2_with fail
  refine (Check_any _ _ L HV0.out hL).mono ?_
  rw [HCHK.out]
  rintro e w1 ⟨rfl, hb1⟩
  have jB := (bcell hb1 _ _ (block_lt_of_cell kB)).trans kB
  have HB1 := hide (hb0.out.trans (hb1.mono hb0.out.size))
  have HV1 := hide (HV0.out.below hb1)
  clear hb1 kB hB0
  go_wp2_with fail
  refine (indexc_any _ _ L HV1.out hL w.heap.size jB).mono ?_
  rintro e w2 ⟨(⟨rfl, hall⟩ | ⟨k, hk, rfl, hne⟩), hb2⟩
  · have HA := hide hall
    have HB2 := hide (HB1.out.trans (hb2.mono HB1.out.size))
    clear hall hb2
    go_wp2_with fail
    go_ret2
    exact ⟨⟨true, rfl, fun _ => line_of_same HA.out, fun _ => rfl⟩, HB2.out⟩
  · have HNE := hide hne
    have iB := (bcell hb2 _ _ (block_lt_of_cell jB)).trans jB
    have HB2 := hide (HB1.out.trans (hb2.mono HB1.out.size))
    clear hne hb2 jB
    have hki : (k : Int) < (L.length : Int) := by omega
    have hk0 : ¬ (k : Int) < 0 := by omega
    have l0 : 0 < L.length := by omega
    have e0 : (0 : Int) < (L.length : Int) := by omega
    obtain ⟨b, off, hA, hcell⟩ := HC.out l0
    have HCELL := hide hcell
    clear hcell HC
    subst hA
    obtain ⟨o1, o2, hog⟩ : ∃ x y, gP L 0 = (x, y) := ⟨_, _, rfl⟩
    obtain ⟨ho1, ho2⟩ := Co2 HOK.out l0 hog
    obtain ⟨kow0, kow1⟩ := HCELL.out 0 _ (gP_eq l0)
    rw [hog] at kow0 kow1
    have ko0 : w2.cell? ⟨b, off, none⟩ = some (.int .i64 o1) := (bcell HB2.out _ _ (block_lt_of_cell kow0)).trans kow0
    have ko1 : w2.cell? ⟨b, off + 1, none⟩ = some (.int .i64 o2) := (bcell HB2.out _ _ (block_lt_of_cell kow1)).trans kow1
    clear kow0 kow1
    obtain ⟨p1, p2, hpg⟩ : ∃ x y, gP L k = (x, y) := ⟨_, _, rfl⟩
    obtain ⟨hp1, hp2⟩ := Co2 HOK.out hk hpg
    obtain ⟨kpw0, kpw1⟩ := HCELL.out k _ (gP_eq hk)
    rw [hpg] at kpw0 kpw1
    have kp0 : w2.cell? ⟨b, off + k * 2, none⟩ = some (.int .i64 p1) := (bcell HB2.out _ _ (block_lt_of_cell kpw0)).trans kpw0
    have kp1 : w2.cell? ⟨b, off + k * 2 + 1, none⟩ = some (.int .i64 p2) := (bcell HB2.out _ _ (block_lt_of_cell kpw1)).trans kpw1
    clear kpw0 kpw1
    obtain ⟨U, hU⟩ : ∃ z : Int, p1 - o1 = z := ⟨_, rfl⟩
    obtain ⟨V, hV⟩ : ∃ z : Int, p2 - o2 = z := ⟨_, rfl⟩
    have hDU : Df U := by omega
    have hDV : Df V := by omega
    have HDU := hide hDU
    have HDV := hide hDV
    have hlf : ∀ x y : Int, left3 (gP L 0) (gP L k) (x, y) = U * (y - o2) - V * (x - o1) := by intro x y; rw [hog, hpg, ← hU, ← hV]
    have HLF := hide hlf
    have HU := hide hU
    have HVV := hide hV
    have HOG := hide hog
    clear hlf hU hV hog hpg hDU hDV
    have SK : ∀ w', Below w2.heap.size w2 w' → Below w2.heap.size w2 w' ∧ w'.cell? ⟨w.heap.size, 0, none⟩ = some (.slice (some ⟨b, off, none⟩) L.length c) ∧ w'.cell? ⟨b, off, none⟩ = some (.int .i64 o1) ∧ w'.cell? ⟨b, off + 1, none⟩ = some (.int .i64 o2) ∧ w'.cell? ⟨b, off + k * 2, none⟩ = some (.int .i64 p1) ∧ w'.cell? ⟨b, off + k * 2 + 1, none⟩ = some (.int .i64 p2) := fun w' h => ⟨h, (bcell h _ _ (block_lt_of_cell iB)).trans iB, (bcell h _ _ (block_lt_of_cell ko0)).trans ko0, (bcell h _ _ (block_lt_of_cell ko1)).trans ko1, (bcell h _ _ (block_lt_of_cell kp0)).trans kp0, (bcell h _ _ (block_lt_of_cell kp1)).trans kp1⟩
    go_upto_region 7 with (fail)
    go_cut [6] (fun v6 wc => ∃ b6, v6 = .pointer (some ⟨b6, 0, none⟩) ∧ wc.cell? ⟨b6, 0, none⟩ = some (.int .i64 U) ∧ wc.cell? ⟨b6, 1, none⟩ = some (.int .i64 V) ∧ Below w2.heap.size w2 wc)
    case first =>
      go_region_held3 (fun w' => Below w2.heap.size w2 w' ∧ w'.cell? ⟨w.heap.size, 0, none⟩ = some (.slice (some ⟨b, off, none⟩) L.length c) ∧ w'.cell? ⟨b, off, none⟩ = some (.int .i64 o1) ∧ w'.cell? ⟨b, off + 1, none⟩ = some (.int .i64 o2) ∧ w'.cell? ⟨b, off + k * 2, none⟩ = some (.int .i64 p1) ∧ w'.cell? ⟨b, off + k * 2 + 1, none⟩ = some (.int .i64 p2)) (first | exact SK _ (Below.refl _ _).drew | exact SK _ (Below.refl _ _) | exact SK _ (nalk _ _).drew | exact SK _ (nalk _ _) | exact SK _ (by assumption) | exact SK _ (bel_alk (by assumption) _) | exact SK _ (bel_set2 (by assumption) _ (Nat.le_refl _) _ _) | exact SK _ (bel_next (by assumption) (by assumption) (Nat.le_refl _)))
        (first
          | (go_at_call 56; refine (to_any _ o1 o2 p1 p2 ho1 ho2 hp1 hp2).mono ?_; rw [HU.out, HVV.out]; rintro e wx ⟨rfl, hbW⟩; first | (have hN := Blk.below (g := w2.heap.size) (t := 88) (cs := #[.int .i64 0, .int .i64 0]) (Blk.drew (Blk.new w2 _ _)) hbW (by simp); have hbX : Below w2.heap.size w2 wx := (nalk w2 (.cells #[.int .i64 0, .int .i64 0] 88)).drew.trans (hbW.mono (by simp)); have n0 := (Blk.cell hN 0).trans rfl; have n1 := (Blk.cell hN 1).trans rfl; have y0 := Blk.frozen hN 0; have y1 := Blk.frozen hN 1; clear hbW) | (have hbX : Below w2.heap.size w2 wx := (Below.refl _ _).drew.trans (hbW.mono (Nat.le_refl _)); clear hbW)))
      all_goals
        go_wp2_with fail
        go_meet
        case rel =>
          refine ⟨_, rfl, ?_, ?_, And.left (by assumption)⟩
          · first | exact (Blk.cell (Blk.new wx _ _) 0).trans rfl | exact (Blk.cell ((hN.set_ 0 _).set_ 1 _) 0).trans rfl
          · first | exact (Blk.cell (Blk.new wx _ _) 1).trans rfl | exact (Blk.cell ((hN.set_ 0 _).set_ 1 _) 1).trans rfl
    case rest =>
      obtain ⟨b6, rfl, n0, n1, hbc⟩ := hcut
      have cB := (bcell hbc _ _ (block_lt_of_cell iB)).trans iB
      have HBC := hide (HB2.out.trans (hbc.mono HB2.out.size))
      have HDC := hide hbc
      clear hbc SK iB ko0 ko1 kp0 kp1
      go_wp2_with fail
      go_loopg [32] L.length (fun q iv wr => ∃ m : Nat, iv = .int .i64 (m : Int) ∧ q + m = L.length ∧ (∀ x, x < m → left3 (gP L 0) (gP L k) (gP L x) = 0) ∧ Below wc.heap.size wc wr)
      case atStart => exact ⟨0, rfl, rfl, fun x h => by omega, Below.refl _ _⟩
      case round =>
        obtain ⟨m, rfl, hq, hE, hb⟩ := hrel
        have hm : m ≤ L.length := by omega
        have HQ := hide hq
        have HE := hide hE
        have rB := (bcell hb _ _ (block_lt_of_cell cB)).trans cB
        have HB4 := hide (HBC.out.trans (hb.mono HBC.out.size))
        have HD4 := hide hb
        clear hq hE hb
        by_cases hlt4 : m < L.length
        · have hi4 : (m : Int) < (L.length : Int) := by omega
          obtain ⟨x1, x2, hxg⟩ : ∃ x y, gP L m = (x, y) := ⟨_, _, rfl⟩
          obtain ⟨hx1, hx2⟩ := Co2 HOK.out hlt4 hxg
          obtain ⟨kxw0, kxw1⟩ := HCELL.out m _ (gP_eq hlt4)
          rw [hxg] at kxw0 kxw1
          have kx0 : wr.cell? ⟨b, off + m * 2, none⟩ = some (.int .i64 x1) := (bcell HB4.out _ _ (block_lt_of_cell kxw0)).trans kxw0
          have kx1 : wr.cell? ⟨b, off + m * 2 + 1, none⟩ = some (.int .i64 x2) := (bcell HB4.out _ _ (block_lt_of_cell kxw1)).trans kxw1
          clear kxw0 kxw1
          obtain ⟨kow0, kow1⟩ := HCELL.out 0 _ (gP_eq l0)
          rw [HOG.out] at kow0 kow1
          have ko0 : wr.cell? ⟨b, off, none⟩ = some (.int .i64 o1) := (bcell HB4.out _ _ (block_lt_of_cell kow0)).trans kow0
          have ko1 : wr.cell? ⟨b, off + 1, none⟩ = some (.int .i64 o2) := (bcell HB4.out _ _ (block_lt_of_cell kow1)).trans kow1
          clear kow0 kow1
          obtain ⟨X, hX⟩ : ∃ z : Int, U * (x2 - o2) - V * (x1 - o1) = z := ⟨_, rfl⟩
          have HX6 := hide (show left3 (gP L 0) (gP L k) (gP L m) = X from by rw [hxg, HLF.out]; exact hX)
          have HX := hide hX
          clear hX hxg
          go_upto_region 12 with (fail)
          have hA4 := Blk.new wr 23 #[.int .i64 x1, .int .i64 x2]
          have hb4 : Below wr.heap.size wr (wr.alloc (.cells #[.int .i64 x1, .int .i64 x2] 23)) := nalk _ _
          have sB := (bcell hb4 _ _ (block_lt_of_cell rB)).trans rB
          have ko02 : (wr.alloc (.cells #[.int .i64 x1, .int .i64 x2] 23)).cell? ⟨b, off, none⟩ = some (.int .i64 o1) := (bcell hb4 _ _ (block_lt_of_cell ko0)).trans ko0
          have ko12 : (wr.alloc (.cells #[.int .i64 x1, .int .i64 x2] 23)).cell? ⟨b, off + 1, none⟩ = some (.int .i64 o2) := (bcell hb4 _ _ (block_lt_of_cell ko1)).trans ko1
          generalize (wr.alloc (.cells #[.int .i64 x1, .int .i64 x2] 23)) = w4 at *
          have kx02 : w4.cell? ⟨wr.heap.size, 0, none⟩ = some (.int .i64 x1) := (Blk.cell hA4 0).trans rfl
          have kx12 : w4.cell? ⟨wr.heap.size, 1, none⟩ = some (.int .i64 x2) := (Blk.cell hA4 1).trans rfl
          have HB5 := hide (HB4.out.trans (hb4.mono HB4.out.size))
          have HD5 := hide (HD4.out.trans (hb4.mono HD4.out.size))
          clear hA4 hb4 ko0 ko1 kx0 kx1 rB
          have SX : ∀ w', Below w4.heap.size w4 w' → Below w4.heap.size w4 w' ∧ w'.cell? ⟨w.heap.size, 0, none⟩ = some (.slice (some ⟨b, off, none⟩) L.length c) ∧ w'.cell? ⟨b, off, none⟩ = some (.int .i64 o1) ∧ w'.cell? ⟨b, off + 1, none⟩ = some (.int .i64 o2) ∧ w'.cell? ⟨wr.heap.size, 0, none⟩ = some (.int .i64 x1) ∧ w'.cell? ⟨wr.heap.size, 1, none⟩ = some (.int .i64 x2) := fun w' h => ⟨h, (bcell h _ _ (block_lt_of_cell sB)).trans sB, (bcell h _ _ (block_lt_of_cell ko02)).trans ko02, (bcell h _ _ (block_lt_of_cell ko12)).trans ko12, (bcell h _ _ (block_lt_of_cell kx02)).trans kx02, (bcell h _ _ (block_lt_of_cell kx12)).trans kx12⟩
          by_cases hz : X = 0
          · have hxz := hz
            go_region_held3 (fun w' => Below w4.heap.size w4 w' ∧ w'.cell? ⟨w.heap.size, 0, none⟩ = some (.slice (some ⟨b, off, none⟩) L.length c) ∧ w'.cell? ⟨b, off, none⟩ = some (.int .i64 o1) ∧ w'.cell? ⟨b, off + 1, none⟩ = some (.int .i64 o2) ∧ w'.cell? ⟨wr.heap.size, 0, none⟩ = some (.int .i64 x1) ∧ w'.cell? ⟨wr.heap.size, 1, none⟩ = some (.int .i64 x2)) (first | exact SX _ (Below.refl _ _).drew | exact SX _ (Below.refl _ _) | exact SX _ (bel_next (by assumption) (by assumption) (Nat.le_refl _)))
              (first
                | (go_at_call 56; refine (to_any _ o1 o2 x1 x2 ho1 ho2 hx1 hx2).mono ?_; rintro e wx ⟨rfl, hbW⟩)
                | (go_at_call 91; refine (aturn_any _ U V (x1 - o1) (x2 - o2) HDU.out HDV.out (by omega) (by omega)).mono ?_; rw [HX.out]; rintro e wx ⟨rfl, hbW⟩))
            go_wp2_with fail
            go_roundg (gk - 1)
            case measure => have := HQ.out; omega
            case rel =>
              refine ⟨m + 1, by go_num, by have := HQ.out; omega, fun x hx => ?_, HD5.out.trans (Below.mono (And.left (by assumption)) HD5.out.size)⟩
              by_cases h : x < m
              · exact HE.out x h
              · have h2 : x = m := by omega
                rw [h2, HX6.out]; exact hz
          · go_region_held3 (fun w' => Below w4.heap.size w4 w' ∧ w'.cell? ⟨w.heap.size, 0, none⟩ = some (.slice (some ⟨b, off, none⟩) L.length c) ∧ w'.cell? ⟨b, off, none⟩ = some (.int .i64 o1) ∧ w'.cell? ⟨b, off + 1, none⟩ = some (.int .i64 o2) ∧ w'.cell? ⟨wr.heap.size, 0, none⟩ = some (.int .i64 x1) ∧ w'.cell? ⟨wr.heap.size, 1, none⟩ = some (.int .i64 x2)) (first | exact SX _ (Below.refl _ _).drew | exact SX _ (Below.refl _ _) | exact SX _ (bel_next (by assumption) (by assumption) (Nat.le_refl _)))
              (first
                | (go_at_call 56; refine (to_any _ o1 o2 x1 x2 ho1 ho2 hx1 hx2).mono ?_; rintro e wx ⟨rfl, hbW⟩)
                | (go_at_call 91; refine (aturn_any _ U V (x1 - o1) (x2 - o2) HDU.out HDV.out (by omega) (by omega)).mono ?_; rw [HX.out]; rintro e wx ⟨rfl, hbW⟩))
            go_wp2_with fail
            go_ret2
            exact ⟨⟨false, rfl, by simp, fun h => (not_line hk hlt4 (by rw [HX6.out]; exact hz) h).elim⟩, HB5.out.trans (Below.mono (And.left (by assumption)) HB5.out.size)⟩
        · have hi4 : ¬ (m : Int) < (L.length : Int) := by omega
          go_wp2_with fail
          go_ret2
          exact ⟨⟨true, rfl, fun _ => line_of_all HNE.out (fun x hx => HE.out x (by omega)), fun _ => rfl⟩, HB4.out⟩

set_option maxRecDepth 100000 in
theorem Collinear_any (w : World) (v : Value) (L : List S2) (hv : Pts w v L) (hL : L.length ≤ 1000000000000) :
    Calls Tryz.prog 47 #[v] w fun e w' => PairR (chkPtsN L = 0 ∧ Line3 L) (chkPtsN L) e ∧ Below w.heap.size w w' := by
  have bad : ∀ n : Int, (n = 5 ∨ n = 2) → chkPtsN L = n → Calls Tryz.prog 47 #[v] w fun e w' => PairR (chkPtsN L = 0 ∧ Line3 L) (chkPtsN L) e ∧ Below w.heap.size w w' := by
    intro n hn hc
    rw [hc]
    have HN := hide hn
    have HC := hide hc
    obtain ⟨A, c, rfl, _⟩ := id hv
    have hb0 := hide (nalk w (.cells #[.slice A L.length c] 65))
    have HV := hide hv
    clear hn hc hv
    go_enter Tryz.func47, Tryz.ntmps47
    go_wp2_with fail
    refine (Check_any _ _ L (HV.out.below hb0.out) hL).mono ?_
    rw [HC.out]
    rintro e w1 ⟨rfl, hb1⟩
    have hn0 : ¬ n = 0 := by rcases HN.out with h | h <;> omega
    go_wp2_with fail
    go_ret2
    exact ⟨⟨false, rfl, by simp, fun h => (hn0 h.1).elim⟩, hb0.out.trans (hb1.mono hb0.out.size)⟩
  rcases chkPtsN_cases L with h | h | ⟨h, _, hok⟩
  · exact bad 5 (.inl rfl) h
  · exact bad 2 (.inr rfl) h
  · refine (collinear_ok w v L hv hL h hok).mono ?_
    rintro e w' ⟨⟨b, rfl, p1, p2⟩, hb⟩
    rw [h]
    exact ⟨⟨b, rfl, fun hb => ⟨rfl, p1 hb⟩, fun hb => p2 hb.2⟩, hb⟩

set_option maxRecDepth 100000 in
theorem rCollinear_any (w : World) (v : Value) (L : List S2) (hv : Pts w v L) (hL : L.length ≤ 1000000000000) :
    Calls Tryz.prog 48 #[v] w fun e w' => PairR (chkPtsN L = 0 ∧ Line3 L) (chkPtsN L) e ∧ Below w.heap.size w w' := by
  have bad : ∀ n : Int, (n = 5 ∨ n = 2) → chkPtsN L = n → Calls Tryz.prog 48 #[v] w fun e w' => PairR (chkPtsN L = 0 ∧ Line3 L) (chkPtsN L) e ∧ Below w.heap.size w w' := by
    intro n hn hc
    rw [hc]
    have HN := hide hn
    have HC := hide hc
    clear hn hc
    go_enter Tryz.func48, Tryz.ntmps48
    go_wp2_with fail
    refine (rCheck_any _ _ L hv hL).mono ?_
    rw [HC.out]
    rintro e w1 ⟨rfl, hb1⟩
    have hn0 : ¬ n = 0 := by rcases HN.out with h | h <;> omega
    go_wp2_with fail
    go_ret2
    exact ⟨⟨false, rfl, by simp, fun h => (hn0 h.1).elim⟩, hb1⟩
  rcases chkPtsN_cases L with h | h | ⟨h, _, hok⟩
  · exact bad 5 (.inl rfl) h
  · exact bad 2 (.inr rfl) h
  · have HC := hide h
    have HOK := hide hok
    rw [HC.out]
    clear h hok bad
    go_enter Tryz.func48, Tryz.ntmps48
    go_wp2_with fail
    refine (rCheck_any _ _ L hv hL).mono ?_
    rw [HC.out]
    rintro e w1 ⟨rfl, hb1⟩
    have HB := hide hb1
    have HV := hide (hv.below hb1)
    clear hb1
    go_wp2_with fail
    refine (rstraight_any _ _ L HV.out hL HOK.out).mono ?_
    rintro e w2 ⟨⟨b, rfl, p1, p2⟩, hb2⟩
    have H1 := hide p1
    have H2 := hide p2
    have HB2 := hide hb2
    clear p1 p2 hb2
    go_wp2_with fail
    go_ret2
    exact ⟨⟨b, rfl, fun h => ⟨trivial, H1.out h⟩, fun h => H2.out h.2⟩, HB.out.trans (HB2.out.mono HB.out.size)⟩

end Go.Proofs.YtblfinpfcpglcaaGreatDoor
