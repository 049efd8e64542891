/- PlanFalls: more bad parts never make acceptance more probable, and a greater C never less. -/
import Derived.Test.YtaccdkbofhlbkaaGreatDoorPlopp
import Derived.Test.YtaccdkbofhlbkaaGreatDoorPlcurve
namespace Go.Proofs.YtaccdkbofhlbkaaGreatDoor
open Go.RowKit Go.Shelf MLab

theorem name_world {P : World → Prop} {W : World} (h : P W) : ∃ y, y = W ∧ P y := ⟨W, rfl, h⟩
theorem ba_of {s : ByteArray} {l : List UInt8} (h : s.data.toList = l) : s = ⟨l.toArray⟩ := by
  subst h
  cases s
  simp
/-- The i-th text of a list of numbers. -/
theorem strs_get {w : World} {v : Value} {L : List Rat} (h : Strs w v (L.map RT)) : ∃ A c, v = .slice A L.length c ∧ (0 < L.length → ∃ b off, A = some ⟨b, off, none⟩ ∧ ∀ i q, L[i]? = some q → w.cell? ⟨b, off + i, none⟩ = some (.string ⟨(RT q).toArray⟩)) := by
  obtain ⟨A, c, hv, hc⟩ := h
  rw [List.length_map] at hv hc
  refine ⟨A, c, hv, fun h0 => ?_⟩
  obtain ⟨b, off, hA, hcell⟩ := hc h0
  refine ⟨b, off, hA, fun i q hq => ?_⟩
  obtain ⟨s, h1, h2⟩ := hcell i (RT q) (by simp [hq])
  rw [h1, ba_of h2]
theorem range_get (D : Nat → Rat) {n i : Nat} (h : i < n) : ((List.range n).map D)[i]? = some (D i) := by simp [h]
/-- The texts of a list of numbers that a function gives, with their place. -/
theorem curve_shape {w : World} {v : Value} {D : Nat → Rat} {n : Nat} (hn : 0 < n) (h : Strs w v (((List.range n).map D).map RT)) : ∃ b off c, v = .slice (some ⟨b, off, none⟩) n c ∧ ∀ i, i < n → w.cell? ⟨b, off + i, none⟩ = some (.string ⟨(RT (D i)).toArray⟩) := by
  obtain ⟨A, c, hv, hc⟩ := strs_get h
  have hl : ((List.range n).map D).length = n := by simp
  rw [hl] at hv hc
  obtain ⟨b, off, rfl, hcell⟩ := hc hn
  exact ⟨b, off, c, hv, fun i hi => hcell i _ (range_get D hi)⟩

set_option maxRecDepth 100000 in
set_option maxHeartbeats 2000000 in
theorem fall_wrong (w : World) (N C lot : Int) (h : rightB N C lot = false) (hs : Std w) :
    Calls Tryz.prog 7 #[.agg #[.int .i64 N, .int .i64 C], .int .i64 lot] w fun e w' => e = .returned (.bool true) ∧ Below w.heap.size w w' := by
  have HS := hide hs
  have HR := hide (fun W => right54_any W N C lot)
  rw [h] at HR
  have HA := hide (fun W (hS : Std W) => awake54_any W hS)
  clear hs h
  have HB := allocs_below w [.cells #[.int .i64 N, .int .i64 C] 23]
  have K_p : Blk (allocs w [.cells #[.int .i64 N, .int .i64 C] 23]) (w.heap.size + 0) 23 #[.int .i64 N, .int .i64 C] := allocs_at w [.cells #[.int .i64 N, .int .i64 C] 23] 0 rfl
  unfold allocs at HB K_p
  simp only [List.foldl_cons, List.foldl_nil] at HB K_p
  rw [Nat.add_zero] at K_p
  go_enter Tryz.func7, Tryz.ntmps7
  go_upto_region 1 with (fail)
  generalize (w.alloc (.cells #[.int .i64 N, .int .i64 C] 23)) = w0 at *
  replace K_p := hide K_p
  replace HB := hide HB
  have p0 := (Blk.cell K_p.out 0).trans (rfl : _ = some (Value.int .i64 N))
  have p1 := (Blk.cell K_p.out 1).trans (rfl : _ = some (Value.int .i64 C))
  go_wp2_with fail
  refine (HR.out _).mono ?_
  rintro e w1 ⟨rfl, hb⟩
  clear p0 p1
  replace K_p := hide (Blk.below K_p.out hb (Blk.lt K_p.out))
  replace HB := hide (HB.out.trans (hb.mono HB.out.size))
  clear hb
  go_wp2_with fail
  refine (HA.out _ (HS.out.below HB.out (Nat.le_refl _))).mono ?_
  rintro e w2 ⟨rfl, hb⟩
  replace K_p := hide (Blk.below K_p.out hb (Blk.lt K_p.out))
  replace HB := hide (HB.out.trans (hb.mono HB.out.size))
  clear hb
  go_wp2_with fail
  go_ret
  exact ⟨rfl, HB.out⟩

set_option maxRecDepth 100000 in
set_option maxHeartbeats 8000000 in
theorem fall_main (w : World) (n c l : Nat) (h1 : 1 ≤ n) (hcl : c ≤ n) (hnl : n ≤ l) (hl40 : l ≤ 40) (hs : Std w) :
    Calls Tryz.prog 7 #[.agg #[.int .i64 (n : Int), .int .i64 (c : Int)], .int .i64 (l : Int)] w fun e w' => e = .returned (.bool true) ∧ Below w.heap.size w w' := by
  have HS := hide hs
  have HR := hide (fun W => right54_any W (n : Int) (c : Int) (l : Int))
  rw [rightB_iff.2 (by omega)] at HR
  have HA := hide (fun W (hS : Std W) => awake54_any W hS)
  have HSE := hide (fun W => sent_any W (n : Int) (c : Int))
  obtain ⟨c2, hc2⟩ : ∃ k, min (c + 1) n = k := ⟨_, rfl⟩
  have hwl : IntKind.i64.wrap ((l : Int) + 1) = ((l + 1 : Nat) : Int) := (IntWalk.i64_in _ (by omega)).trans (by omega)
  have hwc : IntKind.i64.wrap ((c : Int) + 1) = ((c + 1 : Nat) : Int) := (IntWalk.i64_in _ (by omega)).trans (by omega)
  have hmin : min ((c + 1 : Nat) : Int) (n : Int) = ((c2 : Nat) : Int) := by omega
  have H1 := hide (fun W (hS : Std W) => curve_any W n c l h1 hcl hnl (by omega) hS)
  have H2 := hide (fun W (hS : Std W) => curve_any W n c2 l h1 (by omega) hnl (by omega) hS)
  have H3 := hide (fun W (hS : Std W) => curve_any W n n l h1 (by omega) hnl (by omega) hS)
  have d0 : dC n c l 0 = 1 := by unfold dC; exact accQ_none (by omega)
  have d1 : ∀ i, i ≤ l → dC n c l i ≤ dC n c2 l i := fun i hi => by unfold dC; exact accQ_monoC (by omega) (by omega)
  have d2 : ∀ i, i ≤ l → dC n n l i = 1 := fun i hi => by unfold dC; exact accQ_all (by omega)
  have d3 : ∀ i, i + 1 ≤ l → dC n c l (i + 1) ≤ dC n c l i := fun i hi => by
    unfold dC
    have h := accQ_mono (b := i) (g := l - (i + 1)) (N := n) (C := c) hcl (by omega)
    rwa [show l - (i + 1) + 1 = l - i by omega] at h
  have z1 : ∀ i, i ≤ l → Sz 21 21 (dC n c l i) := fun i hi => by unfold dC; exact accQ_sz hcl (by omega) (by omega) (by omega)
  have z2 : ∀ i, i ≤ l → Sz 21 21 (dC n c2 l i) := fun i hi => by unfold dC; exact accQ_sz (by omega) (by omega) (by omega) (by omega)
  obtain ⟨D1, hD1⟩ : ∃ D, dC n c l = D := ⟨_, rfl⟩
  obtain ⟨D2, hD2⟩ : ∃ D, dC n c2 l = D := ⟨_, rfl⟩
  obtain ⟨D3, hD3⟩ : ∃ D, dC n n l = D := ⟨_, rfl⟩
  rw [hD1] at H1 d0 d1 d3 z1
  rw [hD2] at H2 d1 z2
  rw [hD3] at H3 d2
  obtain ⟨l1, hl1⟩ : ∃ d, l + 1 = d := ⟨_, rfl⟩
  rw [hl1] at hwl H1 H2 H3
  have HL1 := hide hl1
  have hl1p : 0 < l1 := by omega
  have hl1i : (0 : Int) < (l1 : Int) := by omega
  obtain ⟨c1, hc1⟩ : ∃ d, c + 1 = d := ⟨_, rfl⟩
  rw [hc1] at hwc hmin
  have DD0 := hide d0
  have DD1 := hide d1
  have DD2 := hide d2
  have DD3 := hide d3
  have ZZ1 := hide z1
  have ZZ2 := hide z2
  clear hs hc2 hD1 hD2 hD3 hl1 hc1 d0 d1 d2 d3 z1 z2
  have HB := allocs_below w [.cells #[.int .i64 (n : Int), .int .i64 (c : Int)] 23]
  have K_p : Blk (allocs w [.cells #[.int .i64 (n : Int), .int .i64 (c : Int)] 23]) (w.heap.size + 0) 23 #[.int .i64 (n : Int), .int .i64 (c : Int)] := allocs_at w [.cells #[.int .i64 (n : Int), .int .i64 (c : Int)] 23] 0 rfl
  unfold allocs at HB K_p
  simp only [List.foldl_cons, List.foldl_nil] at HB K_p
  rw [Nat.add_zero] at K_p
  go_enter Tryz.func7, Tryz.ntmps7
  go_upto_region 1 with (fail)
  generalize (w.alloc (.cells #[.int .i64 (n : Int), .int .i64 (c : Int)] 23)) = w0 at *
  replace K_p := hide K_p
  replace HB := hide HB
  have p0 := (Blk.cell K_p.out 0).trans (rfl : _ = some (Value.int .i64 (n : Int)))
  have p1 := (Blk.cell K_p.out 1).trans (rfl : _ = some (Value.int .i64 (c : Int)))
  go_wp2_with fail
  refine (HR.out _).mono ?_
  rintro e w1 ⟨rfl, hb⟩
  clear p0 p1
  replace K_p := hide (Blk.below K_p.out hb (Blk.lt K_p.out))
  replace HB := hide (HB.out.trans (hb.mono HB.out.size))
  clear hb
  have p0 := (Blk.cell K_p.out 0).trans (rfl : _ = some (Value.int .i64 (n : Int)))
  have p1 := (Blk.cell K_p.out 1).trans (rfl : _ = some (Value.int .i64 (c : Int)))
  go_wp2_with fail
  refine (HSE.out _).mono ?_
  rintro e w2 ⟨rfl, hb⟩
  clear p0 p1
  replace K_p := hide (Blk.below K_p.out hb (Blk.lt K_p.out))
  replace HB := hide (HB.out.trans (hb.mono HB.out.size))
  clear hb
  go_wp2_with fail
  refine (H1.out _ (HS.out.below HB.out (Nat.le_refl _))).mono ?_
  rintro e wk1 ⟨v1, rfl, hst1, hb⟩
  obtain ⟨b1, o1, k1, rfl, hx1⟩ := curve_shape hl1p hst1
  have X1 := hide hx1
  clear hx1 hst1
  replace K_p := hide (Blk.below K_p.out hb (Blk.lt K_p.out))
  replace HB := hide (HB.out.trans (hb.mono HB.out.size))
  clear hb
  have p0 := (Blk.cell K_p.out 0).trans (rfl : _ = some (Value.int .i64 (n : Int)))
  have p1 := (Blk.cell K_p.out 1).trans (rfl : _ = some (Value.int .i64 (c : Int)))
  go_wp2_with fail
  refine (H2.out _ (HS.out.below HB.out (Nat.le_refl _))).mono ?_
  rintro e wk2 ⟨v2, rfl, hst2, hb⟩
  replace X1 := hide (fun i hi => (bcell hb _ _ (block_lt_of_cell (X1.out i hi))).trans (X1.out i hi))
  obtain ⟨b2, o2, k2, rfl, hx2⟩ := curve_shape hl1p hst2
  have X2 := hide hx2
  clear hx2 hst2
  clear p0 p1
  replace K_p := hide (Blk.below K_p.out hb (Blk.lt K_p.out))
  replace HB := hide (HB.out.trans (hb.mono HB.out.size))
  clear hb
  have p0 := (Blk.cell K_p.out 0).trans (rfl : _ = some (Value.int .i64 (n : Int)))
  have p1 := (Blk.cell K_p.out 1).trans (rfl : _ = some (Value.int .i64 (c : Int)))
  go_wp2_with fail
  refine (H3.out _ (HS.out.below HB.out (Nat.le_refl _))).mono ?_
  rintro e wk3 ⟨v3, rfl, hst3, hb⟩
  replace X1 := hide (fun i hi => (bcell hb _ _ (block_lt_of_cell (X1.out i hi))).trans (X1.out i hi))
  replace X2 := hide (fun i hi => (bcell hb _ _ (block_lt_of_cell (X2.out i hi))).trans (X2.out i hi))
  obtain ⟨b3, o3, k3, rfl, hx3⟩ := curve_shape hl1p hst3
  have X3 := hide hx3
  clear hx3 hst3
  clear p0 p1
  replace K_p := hide (Blk.below K_p.out hb (Blk.lt K_p.out))
  replace HB := hide (HB.out.trans (hb.mono HB.out.size))
  clear hb
  have x10 : wk3.cell? ⟨b1, o1, none⟩ = some (.string ⟨#[49]⟩) := by
    have := X1.out 0 hl1p
    rwa [DD0.out, RT_one] at this
  go_wp2_with fail
  clear x10
  have HB3 := HB
  go_loopg [87] l1 (fun z iv wr => ∃ i : Nat, iv = .int .i64 (i : Int) ∧ z + i = l1 ∧ Below wk3.heap.size wk3 wr)
  case atStart => exact ⟨0, rfl, rfl, Below.refl _ _⟩
  case round =>
    obtain ⟨i, rfl, hq, hb⟩ := hrel
    have HQ := hide hq
    have HBL := hide hb
    have hiL : i ≤ l1 := by omega
    replace HB := hide (HB3.out.trans (hb.mono HB3.out.size))
    clear hq hb
    by_cases hlt : i < l1
    · have hji : (i : Int) < (l1 : Int) := by omega
      have hj0 : (0 : Int) ≤ (i : Int) := by omega
      have hil : i ≤ l := by have := HL1.out; omega
      have y1 := (bcell HBL.out _ _ (block_lt_of_cell (X1.out i hlt))).trans (X1.out i hlt)
      have y2 := (bcell HBL.out _ _ (block_lt_of_cell (X2.out i hlt))).trans (X2.out i hlt)
      have y3 := (bcell HBL.out _ _ (block_lt_of_cell (X3.out i hlt))).trans (X3.out i hlt)
      rw [DD2.out i hil, RT_one] at y3
      have hs1 := sgn_le.2 (DD1.out i hil)
      have HC := hide (fun W (hS : Std W) => cmpS_any W ⟨(RT (D1 i)).toArray⟩ ⟨(RT (D2 i)).toArray⟩ (D1 i) (D2 i) 21 rfl rfl (by omega) (ZZ1.out i hil) (ZZ2.out i hil) hS)
      obtain ⟨sg, hsg⟩ : ∃ s, sgn (D1 i) (D2 i) = s := ⟨_, rfl⟩
      rw [hsg] at hs1 HC
      have hs1n : ¬ 0 < sg := by omega
      clear hs1 hsg
      have SK : ∀ w', Below wr.heap.size wr w' → Below wr.heap.size wr w' ∧ w'.cell? ⟨b1, o1 + i, none⟩ = some (.string ⟨(RT (D1 i)).toArray⟩) ∧ w'.cell? ⟨b2, o2 + i, none⟩ = some (.string ⟨(RT (D2 i)).toArray⟩) := fun w' h => ⟨h, (bcell h _ _ (block_lt_of_cell y1)).trans y1, (bcell h _ _ (block_lt_of_cell y2)).trans y2⟩
      have SS' : ∀ {R : Prop} {W : World}, Below wr.heap.size wr W ∧ R → Std W := fun h => (HS.out.below HB.out (Nat.le_refl _)).below h.1 (Nat.le_refl _)
      go_upto_region 11 with (fail)
      go_region_held3 (fun w' => Below wr.heap.size wr w' ∧ w'.cell? ⟨b1, o1 + i, none⟩ = some (.string ⟨(RT (D1 i)).toArray⟩) ∧ w'.cell? ⟨b2, o2 + i, none⟩ = some (.string ⟨(RT (D2 i)).toArray⟩)) (first | exact SK _ (Below.refl _ _).drew | exact SK _ (Below.refl _ _) | exact SK _ (bel_next (by assumption) (by assumption) (Nat.le_refl _)))
        (first
          | (go_at_call 31; refine (HC.out _ (SS' (by assumption))).mono ?_; rintro e wx ⟨rfl, hbW⟩))
      obtain ⟨hbx, _⟩ : Below wr.heap.size wr _ ∧ _ := by assumption
      obtain ⟨wy, rfl, hbx⟩ := name_world (P := fun y => Below wr.heap.size wr y) hbx
      have x3 := (bcell hbx _ _ (block_lt_of_cell y3)).trans y3
      have HX := hide (HBL.out.trans (hbx.mono HBL.out.size))
      have HXW := hide (HB.out.trans (hbx.mono HB.out.size))
      have x1 := (bcell hbx _ _ (block_lt_of_cell y1)).trans y1
      clear hbx SK SS' y1 y2 y3 HC
      by_cases hi0 : i = 0
      · have hn0 : ¬ (0 : Int) < (i : Int) := by omega
        clear x1 hi0
        go_wp2_with fail
        go_roundg (gk - 1)
        case measure => have := HQ.out; omega
        case rel => exact ⟨i + 1, by go_num, by have := HQ.out; omega, HX.out⟩
      · have hp0 : (0 : Int) < (i : Int) := by omega
        obtain ⟨k, hk⟩ : ∃ k, i = k + 1 := ⟨i - 1, by omega⟩
        have hwi : IntKind.i64.wrap ((i : Int) - 1) = (k : Int) := (IntWalk.i64_in _ (by omega)).trans (by omega)
        have hkl : (k : Int) < (l1 : Int) := by omega
        have hk0 : (0 : Int) ≤ (k : Int) := by omega
        have hkl2 : k < l1 := by omega
        have x0 := (bcell HX.out _ _ (block_lt_of_cell (X1.out k hkl2))).trans (X1.out k hkl2)
        have hs2 := sgn_ge.2 (DD3.out k (by omega))
        rw [← hk] at hs2
        have HC := hide (fun W (hS : Std W) => cmpS_any W ⟨(RT (D1 k)).toArray⟩ ⟨(RT (D1 i)).toArray⟩ (D1 k) (D1 i) 21 rfl rfl (by omega) (ZZ1.out k (by omega)) (ZZ1.out i hil) hS)
        obtain ⟨sh, hsh⟩ : ∃ s, sgn (D1 k) (D1 i) = s := ⟨_, rfl⟩
        rw [hsh] at hs2 HC
        have hs2n : ¬ sh < 0 := by omega
        clear hs2 hsh hk hi0 hkl2
        go_upto_region 15 with (fail)
        have SK : ∀ w', Below wy.heap.size wy w' → Below wy.heap.size wy w' ∧ w'.cell? ⟨b1, o1 + k, none⟩ = some (.string ⟨(RT (D1 k)).toArray⟩) ∧ w'.cell? ⟨b1, o1 + i, none⟩ = some (.string ⟨(RT (D1 i)).toArray⟩) := fun w' h => ⟨h, (bcell h _ _ (block_lt_of_cell x0)).trans x0, (bcell h _ _ (block_lt_of_cell x1)).trans x1⟩
        have SS' : ∀ {R : Prop} {W : World}, Below wy.heap.size wy W ∧ R → Std W := fun h => (HS.out.below HXW.out (Nat.le_refl _)).below h.1 (Nat.le_refl _)
        go_region_held3 (fun w' => Below wy.heap.size wy w' ∧ w'.cell? ⟨b1, o1 + k, none⟩ = some (.string ⟨(RT (D1 k)).toArray⟩) ∧ w'.cell? ⟨b1, o1 + i, none⟩ = some (.string ⟨(RT (D1 i)).toArray⟩)) (first | exact SK _ (Below.refl _ _).drew | exact SK _ (Below.refl _ _) | exact SK _ (bel_next (by assumption) (by assumption) (Nat.le_refl _)))
          (first
            | (go_at_call 31; refine (HC.out _ (SS' (by assumption))).mono ?_; rintro e wx ⟨rfl, hbW⟩))
        obtain ⟨hbx, _⟩ : Below wy.heap.size wy _ ∧ _ := by assumption
        have HY := hide (HX.out.trans (hbx.mono HX.out.size))
        clear hbx SK SS' x0 x1 x3 HC
        go_wp2_with fail
        go_roundg (gk - 1)
        case measure => have := HQ.out; omega
        case rel => exact ⟨i + 1, by go_num, by have := HQ.out; omega, HY.out⟩
    · have hji : ¬ (i : Int) < (l1 : Int) := by omega
      obtain rfl : i = l1 := by omega
      go_wp2_with fail
      refine (HA.out _ (HS.out.below HB.out (Nat.le_refl _))).mono ?_
      rintro e wz ⟨rfl, hb⟩
      replace HB := hide (HB.out.trans (hb.mono HB.out.size))
      clear hb
      go_wp2_with fail
      go_ret
      exact ⟨rfl, HB.out⟩


theorem falls_any (w : World) (N C lot : Int) (hs : Std w) :
    Calls Tryz.prog 7 #[.agg #[.int .i64 N, .int .i64 C], .int .i64 lot] w fun e w' => e = .returned (.bool true) ∧ Below w.heap.size w w' := by
  rcases hR : rightB N C lot with _ | _
  · exact fall_wrong w N C lot hR hs
  · obtain ⟨h1, h2, h3, h4, h5⟩ := rightB_iff.1 hR
    obtain ⟨n, rfl⟩ : ∃ n : Nat, N = (n : Int) := ⟨N.toNat, by omega⟩
    obtain ⟨c, rfl⟩ : ∃ c : Nat, C = (c : Int) := ⟨C.toNat, by omega⟩
    obtain ⟨l, rfl⟩ : ∃ l : Nat, lot = (l : Int) := ⟨lot.toNat, by omega⟩
    exact fall_main w n c l (by omega) (by omega) (by omega) (by omega) hs
end Go.Proofs.YtaccdkbofhlbkaaGreatDoor
