/- VectorSplits: the walk. -/
import Derived.Test.YtblfinpfcpglcaaGreatDoorArea
import Derived.Test.YtblfinpfcpglcaaGreatDoorNear
namespace Go.Proofs.YtblfinpfcpglcaaGreatDoor
open Go.RowKit MLab

theorem nal0 (w : World) (a : Obj) : Below w.heap.size w (w.alloc a) := allocs_below w [a]
theorem Pts1 (w : World) (a : Int × Int) (t : TypeId) (cap : Nat) : Pts (w.alloc (.cells #[.int .i64 a.1, .int .i64 a.2] t)) (.slice (some ⟨w.heap.size, 0, none⟩) 1 cap) [a] :=
  Pts.new w [a] t _ (fun i p hi => match i, hi with | 0, hi => by cases hi; exact ⟨rfl, rfl⟩ | j + 1, hi => by simp at hi) cap
theorem near_all {L : List S2} (h : L.all smP = true) {i : Nat} (hi : i < L.length) : Sm (gP L i).1 (gP L i).2 :=
  of_decide_eq_true (List.all_eq_true.1 h _ (List.mem_of_getElem? (gP_eq hi)))
theorem right_of_near {L : List S2} (h : L.all smP = true) : L.all okPts = true := by
  rw [List.all_eq_true] at h ⊢
  intro x hx
  have := of_decide_eq_true (h x hx)
  exact decide_eq_true ⟨⟨by omega, by omega⟩, by omega, by omega⟩
theorem left3_bound {a b c : S2} (h1 : Sm a.1 a.2) (h2 : Sm b.1 b.2) (h3 : Sm c.1 c.2) : -648000000 ≤ left3 a b c ∧ left3 a b c ≤ 648000000 := by
  have m1 := mulB (x := b.1 - a.1) (y := c.2 - a.2) (M := 18000) (N := 18000) (by omega) (by omega)
  have m2 := mulB (x := b.2 - a.2) (y := c.1 - a.1) (M := 18000) (N := 18000) (by omega) (by omega)
  simp only [left3]
  omega
theorem crossUp_bound {L : List S2} {p : S2} (hp : Sm p.1 p.2) (h : L.all smP = true) : ∀ j : Nat, j ≤ L.length → -((j : Int) * 648000000) ≤ crossUp L p j ∧ crossUp L p j ≤ (j : Int) * 648000000
  | 0, _ => by simp [crossUp]
  | j + 1, hj => by
    have ih := crossUp_bound hp h j (by omega)
    have b := left3_bound hp (near_all h (show j < L.length by omega)) (near_all h (Nat.mod_lt (j + 1) (by omega)))
    rw [crossUp]
    omega

set_option maxRecDepth 100000 in
set_option maxHeartbeats 2000000 in
theorem splits_far (w : World) (v : Value) (L : List S2) (hv : Pts w v L) (px py : Int) (hs : Std w) (h : ¬ (L.length ≤ 8 ∧ L.all smP = true ∧ Sm px py)) :
    Calls Tryz.prog 8 #[v, ptv px py] w fun e w' => e = .returned (.bool true) ∧ Below w.heap.size w w' := by
  have HS := hide hs
  have HV := hide hv
  have hb0 := hide (nal0 w (.cells #[.int .i64 px, .int .i64 py] 23))
  obtain ⟨A, c, rfl, _⟩ := id hv
  clear hs hv
  by_cases h8 : 8 < L.length
  · have h8i : (8 : Int) < (L.length : Int) := by omega
    clear h
    go_enter Tryz.func8, Tryz.ntmps8
    go_wp2_with fail
    refine (awake_any _ (HS.out.below hb0.out (Nat.le_refl _))).mono ?_
    rintro e w3 ⟨rfl, hb3⟩
    have HB3 := hide (hb0.out.trans (hb3.mono hb0.out.size))
    clear hb3
    go_wp2_with fail
    go_ret
    exact ⟨rfl, HB3.out⟩
  · have h8i : ¬ (8 : Int) < (L.length : Int) := by omega
    by_cases hn : L.all smP = true
    · have hp : ¬ Sm px py := fun hp => h ⟨by omega, hn, hp⟩
      have hpf := hide (show [(px, py)].all smP = false by simp [smP, hp])
      have HN := hide hn
      clear h hn hp
      go_enter Tryz.func8, Tryz.ntmps8
      go_wp2_with fail
      refine (near_any _ _ L (HV.out.below hb0.out) (by omega)).mono ?_
      rw [HN.out]
      rintro e w1 ⟨rfl, hb1⟩
      have k0 : w1.cell? ⟨w.heap.size, 0, none⟩ = some (.int .i64 px) := (bcell hb1 _ _ (by simp)).trans ((Blk.cell (Blk.new w 23 #[.int .i64 px, .int .i64 py]) 0).trans rfl)
      have k1 : w1.cell? ⟨w.heap.size, 1, none⟩ = some (.int .i64 py) := (bcell hb1 _ _ (by simp)).trans ((Blk.cell (Blk.new w 23 #[.int .i64 px, .int .i64 py]) 1).trans rfl)
      have HB1 := hide (hb0.out.trans (hb1.mono hb0.out.size))
      clear hb1
      go_wp2_with fail
      refine (near_any _ _ [(px, py)] (Pts1 _ (px, py) _ _) (by simp)).mono ?_
      rw [hpf.out]
      rintro e w2 ⟨rfl, hb2⟩
      have HB2 := hide (HB1.out.trans (((nal0 w1 _).trans (hb2.mono (by simp))).mono HB1.out.size))
      clear hb2
      go_wp2_with fail
      refine (awake_any _ (HS.out.below HB2.out (Nat.le_refl _))).mono ?_
      rintro e w3 ⟨rfl, hb3⟩
      have HB3 := hide (HB2.out.trans (hb3.mono HB2.out.size))
      clear hb3
      go_wp2_with fail
      go_ret
      exact ⟨rfl, HB3.out⟩
    · have HN := hide (Bool.not_eq_true _ ▸ hn : L.all smP = false)
      clear h hn
      go_enter Tryz.func8, Tryz.ntmps8
      go_wp2_with fail
      refine (near_any _ _ L (HV.out.below hb0.out) (by omega)).mono ?_
      rw [HN.out]
      rintro e w1 ⟨rfl, hb1⟩
      have HB1 := hide (hb0.out.trans (hb1.mono hb0.out.size))
      clear hb1
      go_wp2_with fail
      refine (awake_any _ (HS.out.below HB1.out (Nat.le_refl _))).mono ?_
      rintro e w3 ⟨rfl, hb3⟩
      have HB3 := hide (HB1.out.trans (hb3.mono HB1.out.size))
      clear hb3
      go_wp2_with fail
      go_ret
      exact ⟨rfl, HB3.out⟩

set_option maxRecDepth 100000 in
set_option maxHeartbeats 4000000 in
theorem splits_near (w : World) (v : Value) (L : List S2) (hv : Pts w v L) (px py : Int) (hs : Std w) (h8 : L.length ≤ 8) (hn : L.all smP = true) (hp : Sm px py) :
    Calls Tryz.prog 8 #[v, ptv px py] w fun e w' => e = .returned (.bool true) ∧ Below w.heap.size w w' := by
  have HS := hide hs
  have HV := hide hv
  have hb0 := hide (nal0 w (.cells #[.int .i64 px, .int .i64 py] 23))
  have HN := hide hn
  have HP := hide hp
  have hpf := hide (show [(px, py)].all smP = true by simp [smP, hp])
  have hchk : chkPtsN L = 0 := by
    rw [chkPtsN, if_neg (by omega), chkPts, if_pos (right_of_near hn)]
  have hA := hide (show areaR L = .tuple #[.int .i64 (crossUp L (px, py) L.length), .int .i64 0] by rw [areaR, hchk, cross_area]; rfl)
  obtain ⟨A, c, rfl, hc⟩ := id hv
  have HC := hide hc
  clear hs hv hn hp hchk hc
  have h8i : ¬ (8 : Int) < (L.length : Int) := by omega
  go_enter Tryz.func8, Tryz.ntmps8
  go_wp2_with fail
  refine (near_any _ _ L (HV.out.below hb0.out) (by omega)).mono ?_
  rw [HN.out]
  rintro e w1 ⟨rfl, hb1⟩
  have k0 : w1.cell? ⟨w.heap.size, 0, none⟩ = some (.int .i64 px) := (bcell hb1 _ _ (by simp)).trans ((Blk.cell (Blk.new w 23 #[.int .i64 px, .int .i64 py]) 0).trans rfl)
  have k1 : w1.cell? ⟨w.heap.size, 1, none⟩ = some (.int .i64 py) := (bcell hb1 _ _ (by simp)).trans ((Blk.cell (Blk.new w 23 #[.int .i64 px, .int .i64 py]) 1).trans rfl)
  have HB1 := hide (hb0.out.trans (hb1.mono hb0.out.size))
  clear hb1
  go_wp2_with fail
  refine (near_any _ _ [(px, py)] (Pts1 _ (px, py) _ _) (by simp)).mono ?_
  rw [hpf.out]
  rintro e w2 ⟨rfl, hb2⟩
  have hb12 : Below w1.heap.size w1 w2 := (nal0 w1 _).trans (hb2.mono (by simp))
  have j0 := (bcell hb12 _ _ (block_lt_of_cell k0)).trans k0
  have j1 := (bcell hb12 _ _ (block_lt_of_cell k1)).trans k1
  have HB2 := hide (HB1.out.trans (hb12.mono HB1.out.size))
  clear hb2 hb12 k0 k1
  go_wp2_with fail
  go_loopg [29, 5] L.length (fun q iv sv wr => ∃ j : Nat, iv = .int .i64 (j : Int) ∧ sv = .int .i64 (crossUp L (px, py) j) ∧ q + j = L.length ∧ Below w2.heap.size w2 wr)
  case atStart => exact ⟨0, rfl, rfl, rfl, Below.refl _ _⟩
  case round =>
    obtain ⟨j, rfl, rfl, hq, hb⟩ := hrel
    have hj : j ≤ L.length := by omega
    have HQ := hide hq
    have HBr := hide (HB2.out.trans (hb.mono HB2.out.size))
    have HB := hide hb
    have i0 := (bcell hb _ _ (block_lt_of_cell j0)).trans j0
    have i1 := (bcell hb _ _ (block_lt_of_cell j1)).trans j1
    clear hq hb
    by_cases hlt : j < L.length
    · have hji : (j : Int) < (L.length : Int) := by omega
      have hlen0 : ¬ (L.length : Int) = 0 := by omega
      have hlen1 : ¬ L.length = 0 := by omega
      have hlen2 : ¬ L = [] := by intro h; rw [h] at hlen1; exact hlen1 rfl
      have hj2 : (j + 1) % L.length < L.length := Nat.mod_lt _ (by omega)
      obtain ⟨j2, hjj⟩ : ∃ j2, (j + 1) % L.length = j2 := ⟨_, rfl⟩
      rw [hjj] at hj2
      have hj2i : (j2 : Int) < (L.length : Int) := by omega
      have hmod : Int.tmod ((j : Int) + 1) (L.length : Int) = (j2 : Int) := by
        rw [← hjj, Int.tmod_eq_emod_of_nonneg (by omega), Int.natCast_emod, Int.natCast_add]; rfl
      have hwr : IntKind.i64.wrap ((j : Int) + 1) = (j : Int) + 1 := IntWalk.i64_in _ ⟨by omega, by omega⟩
      have hmodw : (IntKind.i64.wrap ((j : Int) + 1)).tmod (L.length : Int) = (j2 : Int) := by rw [hwr, hmod]
      have hjpos : (0 : Int) ≤ (j2 : Int) := by omega
      obtain ⟨b, off, hAA, hcell⟩ := HC.out (by omega)
      subst hAA
      obtain ⟨x1, x2, hx⟩ : ∃ x y, gP L j = (x, y) := ⟨_, _, rfl⟩
      obtain ⟨y1, y2, hy⟩ : ∃ x y, gP L j2 = (x, y) := ⟨_, _, rfl⟩
      have sx := near_all HN.out hlt
      have sy := near_all HN.out hj2
      rw [hx] at sx
      rw [hy] at sy
      obtain ⟨a0, a1⟩ := hcell j _ (gP_eq hlt)
      obtain ⟨b0, b1⟩ := hcell j2 _ (gP_eq hj2)
      rw [hx] at a0 a1
      rw [hy] at b0 b1
      have hwlt : w.heap.size ≤ wr.heap.size := HBr.out.size
      have c0 := (bcell HBr.out _ _ (block_lt_of_cell a0)).trans a0
      have c1 := (bcell HBr.out _ _ (block_lt_of_cell a1)).trans a1
      have d0 := (bcell HBr.out _ _ (block_lt_of_cell b0)).trans b0
      have d1 := (bcell HBr.out _ _ (block_lt_of_cell b1)).trans b1
      clear a0 a1 b0 b1 hcell HC
      have hp := HP.out
      obtain ⟨X, hX⟩ : ∃ z : Int, (x1 - px) * (y2 - py) - (x2 - py) * (y1 - px) = z := ⟨_, rfl⟩
      have hXb := left3_bound (a := (px, py)) (b := (x1, x2)) (c := (y1, y2)) hp sx sy
      have hup : crossUp L (px, py) (j + 1) = crossUp L (px, py) j + X := by rw [crossUp, hjj, hx, hy, ← hX]
      simp only [left3] at hXb
      rw [hX] at hXb
      have hcb := crossUp_bound (p := (px, py)) hp HN.out j (by omega)
      have hR : R2 ((x1 - px) * (y2 - py) - (x2 - py) * (y1 - px)) (Co px ∧ Co py ∧ Co x1 ∧ Co x2 ∧ Co y1 ∧ Co y2) = .tuple #[.int .i64 X, .int .i64 0] := (R2_pos _ (by omega)).trans (by rw [hX])
      have hws : IntKind.i64.wrap (crossUp L (px, py) j + X) = crossUp L (px, py) j + X := IntWalk.i64_in _ ⟨by omega, by omega⟩
      have HR := hide hR
      have HUP := hide hup
      have HX := hide hX
      clear hR hup hX hXb hcb hx hy
      go_upto_region 7 with (fail)
      have hA7 := Blk.new wr 23 #[.int .i64 x1, .int .i64 x2]
      have hb7 := nal0 wr (.cells #[.int .i64 x1, .int .i64 x2] 23)
      have i02 := (bcell hb7 _ _ (block_lt_of_cell i0)).trans i0
      have i12 := (bcell hb7 _ _ (block_lt_of_cell i1)).trans i1
      have d02 := (bcell hb7 _ _ (block_lt_of_cell d0)).trans d0
      have d12 := (bcell hb7 _ _ (block_lt_of_cell d1)).trans d1
      generalize (wr.alloc (.cells #[.int .i64 x1, .int .i64 x2] 23)) = w4 at *
      have e0 : w4.cell? ⟨wr.heap.size, 0, none⟩ = some (.int .i64 x1) := (Blk.cell hA7 0).trans rfl
      have e1 : w4.cell? ⟨wr.heap.size, 1, none⟩ = some (.int .i64 x2) := (Blk.cell hA7 1).trans rfl
      have HB7 := hide (HB.out.trans (hb7.mono HB.out.size))
      clear hA7 hb7 i0 i1 d0 d1 c0 c1
      have SK : ∀ w', Below w4.heap.size w4 w' → Below w4.heap.size w4 w' ∧ w'.cell? ⟨w.heap.size, 0, none⟩ = some (.int .i64 px) ∧ w'.cell? ⟨w.heap.size, 1, none⟩ = some (.int .i64 py) ∧ w'.cell? ⟨b, off + j2 * 2, none⟩ = some (.int .i64 y1) ∧ w'.cell? ⟨b, off + j2 * 2 + 1, none⟩ = some (.int .i64 y2) ∧ w'.cell? ⟨wr.heap.size, 0, none⟩ = some (.int .i64 x1) ∧ w'.cell? ⟨wr.heap.size, 1, none⟩ = some (.int .i64 x2) := fun w' h => ⟨h, (bcell h _ _ (block_lt_of_cell i02)).trans i02, (bcell h _ _ (block_lt_of_cell i12)).trans i12, (bcell h _ _ (block_lt_of_cell d02)).trans d02, (bcell h _ _ (block_lt_of_cell d12)).trans d12, (bcell h _ _ (block_lt_of_cell e0)).trans e0, (bcell h _ _ (block_lt_of_cell e1)).trans e1⟩
      go_region_held3 (fun w' => Below w4.heap.size w4 w' ∧ w'.cell? ⟨w.heap.size, 0, none⟩ = some (.int .i64 px) ∧ w'.cell? ⟨w.heap.size, 1, none⟩ = some (.int .i64 py) ∧ w'.cell? ⟨b, off + j2 * 2, none⟩ = some (.int .i64 y1) ∧ w'.cell? ⟨b, off + j2 * 2 + 1, none⟩ = some (.int .i64 y2) ∧ w'.cell? ⟨wr.heap.size, 0, none⟩ = some (.int .i64 x1) ∧ w'.cell? ⟨wr.heap.size, 1, none⟩ = some (.int .i64 x2)) (first | exact SK _ (Below.refl _ _).drew | exact SK _ (Below.refl _ _) | exact SK _ (bel_next (by assumption) (by assumption) (Nat.le_refl _)))
        (first
          | (go_at_call 36; refine (Cross_any _ px py x1 x2 y1 y2).mono ?_; rw [HR.out]; rintro e wx ⟨rfl, hbW⟩))
      go_wp2_with fail
      go_roundg (gk - 1)
      case measure => have := HQ.out; omega
      case rel => exact ⟨j + 1, by go_num, by rw [HUP.out], by have := HQ.out; omega, HB7.out.trans (Below.mono (And.left (by assumption)) HB7.out.size)⟩
    · have hji : ¬ (j : Int) < (L.length : Int) := by omega
      have hjl : j = L.length := by omega
      subst hjl
      obtain ⟨Z, hZ⟩ : ∃ z : Int, crossUp L (px, py) L.length = z := ⟨_, rfl⟩
      have HZ := hide hZ
      rw [hZ]
      clear hZ
      go_wp2_with fail
      refine (Area_any _ _ L (HV.out.below HBr.out) (by omega)).mono ?_
      rw [hA.out, HZ.out]
      rintro e w5 ⟨rfl, hb5⟩
      have HB5 := hide (HBr.out.trans (hb5.mono HBr.out.size))
      clear hb5
      go_wp2_with fail
      refine (awake_any _ (HS.out.below HB5.out (Nat.le_refl _))).mono ?_
      rintro e w6 ⟨rfl, hb6⟩
      have HB6 := hide (HB5.out.trans (hb6.mono HB5.out.size))
      clear hb6
      go_wp2_with fail
      go_ret
      exact ⟨rfl, HB6.out⟩

theorem splits_any (w : World) (v : Value) (L : List S2) (hv : Pts w v L) (px py : Int) (hs : Std w) :
    Calls Tryz.prog 8 #[v, ptv px py] w fun e w' => e = .returned (.bool true) ∧ Below w.heap.size w w' := by
  by_cases h : L.length ≤ 8 ∧ L.all smP = true ∧ Sm px py
  · exact splits_near w v L hv px py hs h.1 h.2.1 h.2.2
  · exact splits_far w v L hv px py hs h
end Go.Proofs.YtblfinpfcpglcaaGreatDoor
