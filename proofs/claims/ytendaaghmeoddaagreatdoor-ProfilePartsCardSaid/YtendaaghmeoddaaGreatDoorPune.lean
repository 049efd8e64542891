/- profile.Unequal and its closure. -/
import Derived.Test.YtendaaghmeoddaaGreatDoorRpout
namespace Go.Proofs.YtendaaghmeoddaaGreatDoor
open Go.RowKit MLab

theorem ploc_any (w : World) (v : Value) (L : List S2) (px py : Int) (hv : Pts w v L) (he : chkP L true = 0) (hp : Co px ∧ Co py) :
    Calls Tryz.prog 47 #[v, .agg #[.int .i64 px, .int .i64 py], .string ⟨(RT (dN L true (px, py))).toArray⟩] w fun e w' => e = .returned (.int .i64 (locP L (px, py))) ∧ Below w.heap.size w w' := by
  obtain ⟨g1, g2, g3⟩ := chkP_zero he
  have h48 := rt48 (dN L true (px, py))
  by_cases hq : dN L true (px, py) = 0
  · rw [decide_eq_true hq] at h48
    have h := ploc_on w v L px py _ hv h48
    rw [show locP L (px, py) = 0 by unfold locP; rw [if_pos ((dN_loc L px py).1 hq)]]
    exact h
  · rw [decide_eq_false hq] at h48
    have h := ploc_ray w v L px py _ hv g1 g3 hp h48
    rw [show locP L (px, py) = if par (cr L (px, py)) L.length then 1 else -1 by unfold locP; rw [if_neg (fun h => hq ((dN_loc L px py).2 h))]]
    exact h
theorem tol_two (w : World) (n m : Int) : ∀ (i : Nat) k, [n, m][i]? = some k → (w.alloc (.cells #[.int .i64 n, .int .i64 m] 3)).cell? ⟨w.heap.size, i, none⟩ = some (.int .i64 k) := by
  intro i k h
  match i, h with
  | 0, h => simp at h; subst h; exact (Blk.cell (Blk.new w 3 #[.int .i64 n, .int .i64 m]) 0).trans rfl
  | 1, h => simp at h; subst h; exact (Blk.cell (Blk.new w 3 #[.int .i64 n, .int .i64 m]) 1).trans rfl
  | k + 2, h => simp at h
theorem tol_all2 (n m : Int) : (if [n, m].all (fun n => decide (Tl n)) = true then (0 : Int) else 2) = if Tl n ∧ Tl m then 0 else 2 := by
  by_cases h : Tl n ∧ Tl m
  · rw [if_pos h, if_pos (by simpa using h)]
  · rw [if_neg h, if_neg (by simpa using h)]

set_option maxRecDepth 100000 in
set_option maxHeartbeats 4000000 in
/-- Unequal's closure. -/
theorem pune1_any (w : World) (j : Nat) (A A2 : Option Addr) (c c2 : Nat) (L P : List S2) (n m : Int) (px py : Int) (b2 b3 b4 b5 m4 m5 : Nat) (hx2 : w.cell? ⟨b2, 0, none⟩ = some (.slice A L.length c)) (hx3 : w.cell? ⟨b3, 0, none⟩ = some (.slice A2 P.length c2))
    (hx4 : w.cell? ⟨b4, 0, none⟩ = some (.func (.func 97) #[] #[.pointer (some ⟨m4, 0, none⟩)])) (hx5 : w.cell? ⟨b5, 0, none⟩ = some (.func (.func 97) #[] #[.pointer (some ⟨m5, 0, none⟩)]))
    (hm4 : w.cell? ⟨m4, 0, none⟩ = some (.string ⟨(RT (mostQ n 1)).toArray⟩)) (hm5 : w.cell? ⟨m5, 0, none⟩ = some (.string ⟨(RT (mostQ m 1)).toArray⟩))
    (hv : Pts w (.slice A L.length c) L) (hvp : Pts w (.slice A2 P.length c2) P) (hj : j < P.length) (hP : P.length ≤ 64) (hxy : gP P j = (px, py)) (he : chkP L true = 0) (hp : Co px ∧ Co py) (hn : Tl n) (hm : Tl m) (hs : Std w) :
    Calls Tryz.prog 59 #[.int .i64 (j : Int), .string ⟨(RT (dN L true (px, py))).toArray⟩, .pointer (some ⟨b2, 0, none⟩), .pointer (some ⟨b3, 0, none⟩), .pointer (some ⟨b4, 0, none⟩), .pointer (some ⟨b5, 0, none⟩)] w fun e w' => e = .returned (.bool (uneB (dN L true (px, py)) (locP L (px, py)) n m)) ∧ Below w.heap.size w w' := by
  have hsz : Sz 30 30 (dN L true (px, py)) := dN_sz (chkP_zero he).2.2 hp
  have HS := hide hs
  have HV := hide hv
  have hlo := fun W (hV : Pts W (.slice A L.length c) L) => ploc_any W _ L px py hV he hp
  have hfa := fun W (hB : Below w.heap.size w W) => pbeyond1_any W ⟨(RT (dN L true (px, py))).toArray⟩ (dN L true (px, py)) (mostQ n 1) m4 rfl ((bcell hB _ _ (block_lt_of_cell hm4)).trans hm4) hsz (mostQ_sz hn (by decide)) (hs.below hB (Nat.le_refl _))
  have hfb := fun W (hB : Below w.heap.size w W) => pbeyond1_any W ⟨(RT (dN L true (px, py))).toArray⟩ (dN L true (px, py)) (mostQ m 1) m5 rfl ((bcell hB _ _ (block_lt_of_cell hm5)).trans hm5) hsz (mostQ_sz hm (by decide)) (hs.below hB (Nat.le_refl _))
  rw [mostQ_one] at hfa hfb
  obtain ⟨fn, hfn⟩ : ∃ f, farQ (dN L true (px, py)) n = f := ⟨_, rfl⟩
  obtain ⟨fm, hfm⟩ : ∃ f, farQ (dN L true (px, py)) m = f := ⟨_, rfl⟩
  rw [hfn] at hfa
  rw [hfm] at hfb
  have hor := locP_or L (px, py)
  obtain ⟨sd, hsd⟩ : ∃ z, locP L (px, py) = z := ⟨_, rfl⟩
  rw [hsd] at hlo hor ⊢
  obtain ⟨s, hs0⟩ : ∃ s : ByteArray, (⟨(RT (dN L true (px, py))).toArray⟩ : ByteArray) = s := ⟨_, rfl⟩
  rw [hs0] at hlo hfa hfb ⊢
  obtain ⟨q, hq⟩ : ∃ q, dN L true (px, py) = q := ⟨_, rfl⟩
  rw [hq] at hfn hfm ⊢
  have HLO := hide hlo
  have HFn := hide hfa
  have HFm := hide hfb
  obtain ⟨A3, c3, hv3, hcell⟩ := hvp
  obtain ⟨rfl, rfl⟩ : A2 = A3 ∧ c2 = c3 := by simpa using hv3
  obtain ⟨b, off, hA, hcell2⟩ := hcell (by omega)
  subst hA
  obtain ⟨a0, a1⟩ := hcell2 j _ (gP_eq hj)
  rw [hxy] at a0 a1
  have p0 : w.cell? ⟨b, off + j * 2, none⟩ = some (.int .i64 px) := a0
  have p1 : w.cell? ⟨b, off + j * 2 + 1, none⟩ = some (.int .i64 py) := a1
  have hji : (j : Int) < (P.length : Int) := by omega
  have hj0 : (0 : Int) ≤ (j : Int) := by omega
  have x2 := hx2
  have x3 := hx3
  have c4 := hx4
  have c5 := hx5
  have SK : ∀ w', Below w.heap.size w w' → Below w.heap.size w w' ∧ w'.cell? ⟨b2, 0, none⟩ = some (.slice A L.length c) ∧ w'.cell? ⟨b3, 0, none⟩ = some (.slice (some ⟨b, off, none⟩) P.length c2) ∧ w'.cell? ⟨b4, 0, none⟩ = some (.func (.func 97) #[] #[.pointer (some ⟨m4, 0, none⟩)]) ∧ w'.cell? ⟨b5, 0, none⟩ = some (.func (.func 97) #[] #[.pointer (some ⟨m5, 0, none⟩)]) ∧ w'.cell? ⟨b, off + j * 2, none⟩ = some (.int .i64 px) ∧ w'.cell? ⟨b, off + j * 2 + 1, none⟩ = some (.int .i64 py) := fun w' h => ⟨h, (bcell h _ _ (block_lt_of_cell x2)).trans x2, (bcell h _ _ (block_lt_of_cell x3)).trans x3, (bcell h _ _ (block_lt_of_cell c4)).trans c4, (bcell h _ _ (block_lt_of_cell c5)).trans c5, (bcell h _ _ (block_lt_of_cell p0)).trans p0, (bcell h _ _ (block_lt_of_cell p1)).trans p1⟩
  clear hlo hfa hfb hv hcell hcell2 a0 a1 hx2 hx3 hx4 hx5 hm4 hm5 hs he hp hn hm hs0 hq hsz hsd hxy hv3
  rcases hor with rfl | rfl | rfl
  · have e0 : uneB q 0 n m = false := by unfold uneB; rw [hfn, hfm]; cases fn <;> cases fm <;> rfl
    rw [e0]
    clear e0 hfn hfm
    go_enter Tryz.func59, Tryz.ntmps59
    go_upto_region 1 with (fail)
    go_region_held3 (fun w' => Below w.heap.size w w' ∧ w'.cell? ⟨b2, 0, none⟩ = some (.slice A L.length c) ∧ w'.cell? ⟨b3, 0, none⟩ = some (.slice (some ⟨b, off, none⟩) P.length c2) ∧ w'.cell? ⟨b4, 0, none⟩ = some (.func (.func 97) #[] #[.pointer (some ⟨m4, 0, none⟩)]) ∧ w'.cell? ⟨b5, 0, none⟩ = some (.func (.func 97) #[] #[.pointer (some ⟨m5, 0, none⟩)]) ∧ w'.cell? ⟨b, off + j * 2, none⟩ = some (.int .i64 px) ∧ w'.cell? ⟨b, off + j * 2 + 1, none⟩ = some (.int .i64 py)) (first | exact SK _ (Below.refl _ _).drew | exact SK _ (Below.refl _ _) | exact SK _ (bel_next (by assumption) (by assumption) (Nat.le_refl _)))
      (first
        | (go_at_call 47; refine (HLO.out _ (by first | exact HV.out.below (And.left (by assumption)) | exact HV.out.below (Below.refl _ _) | exact HV.out.below (Below.refl _ _).drew)).mono ?_; rintro e w5 ⟨rfl, hbW⟩))
    obtain ⟨hbx, d2, d3, d4, d5, -, -⟩ : Below w.heap.size w w5 ∧ w5.cell? ⟨b2, 0, none⟩ = some (.slice A L.length c) ∧ w5.cell? ⟨b3, 0, none⟩ = some (.slice (some ⟨b, off, none⟩) P.length c2) ∧ w5.cell? ⟨b4, 0, none⟩ = some (.func (.func 97) #[] #[.pointer (some ⟨m4, 0, none⟩)]) ∧ w5.cell? ⟨b5, 0, none⟩ = some (.func (.func 97) #[] #[.pointer (some ⟨m5, 0, none⟩)]) ∧ w5.cell? ⟨b, off + j * 2, none⟩ = some (.int .i64 px) ∧ w5.cell? ⟨b, off + j * 2 + 1, none⟩ = some (.int .i64 py) := by assumption
    have HB5 := hide hbx
    clear hbx hbW SK c4 c5 x2 x3 p0 p1
    go_wp2_with fail
    go_ret
    exact ⟨rfl, HB5.out⟩
  · have e0 : uneB q 1 n m = fn := by unfold uneB; rw [hfn, hfm]; cases fn <;> cases fm <;> rfl
    rw [e0]
    clear e0 hfn hfm
    go_enter Tryz.func59, Tryz.ntmps59
    go_upto_region 1 with (fail)
    go_region_held3 (fun w' => Below w.heap.size w w' ∧ w'.cell? ⟨b2, 0, none⟩ = some (.slice A L.length c) ∧ w'.cell? ⟨b3, 0, none⟩ = some (.slice (some ⟨b, off, none⟩) P.length c2) ∧ w'.cell? ⟨b4, 0, none⟩ = some (.func (.func 97) #[] #[.pointer (some ⟨m4, 0, none⟩)]) ∧ w'.cell? ⟨b5, 0, none⟩ = some (.func (.func 97) #[] #[.pointer (some ⟨m5, 0, none⟩)]) ∧ w'.cell? ⟨b, off + j * 2, none⟩ = some (.int .i64 px) ∧ w'.cell? ⟨b, off + j * 2 + 1, none⟩ = some (.int .i64 py)) (first | exact SK _ (Below.refl _ _).drew | exact SK _ (Below.refl _ _) | exact SK _ (bel_next (by assumption) (by assumption) (Nat.le_refl _)))
      (first
        | (go_at_call 47; refine (HLO.out _ (by first | exact HV.out.below (And.left (by assumption)) | exact HV.out.below (Below.refl _ _) | exact HV.out.below (Below.refl _ _).drew)).mono ?_; rintro e w5 ⟨rfl, hbW⟩))
    obtain ⟨hbx, d2, d3, d4, d5, -, -⟩ : Below w.heap.size w w5 ∧ w5.cell? ⟨b2, 0, none⟩ = some (.slice A L.length c) ∧ w5.cell? ⟨b3, 0, none⟩ = some (.slice (some ⟨b, off, none⟩) P.length c2) ∧ w5.cell? ⟨b4, 0, none⟩ = some (.func (.func 97) #[] #[.pointer (some ⟨m4, 0, none⟩)]) ∧ w5.cell? ⟨b5, 0, none⟩ = some (.func (.func 97) #[] #[.pointer (some ⟨m5, 0, none⟩)]) ∧ w5.cell? ⟨b, off + j * 2, none⟩ = some (.int .i64 px) ∧ w5.cell? ⟨b, off + j * 2 + 1, none⟩ = some (.int .i64 py) := by assumption
    have HB5 := hide hbx
    clear hbx hbW SK c4 c5 x2 x3 p0 p1
    go_wp2_with fail
    refine (HFn.out w5 HB5.out).mono ?_
    rintro e w6 ⟨rfl, hb6⟩
    have HB6 := hide (HB5.out.trans (hb6.mono HB5.out.size))
    clear hb6 HFn
    cases fn
    · go_wp2_with fail
      go_ret
      exact ⟨rfl, HB6.out⟩
    · go_wp2_with fail
      go_ret
      exact ⟨rfl, HB6.out⟩
  · have e0 : uneB q (-1) n m = fm := by unfold uneB; rw [hfn, hfm]; cases fn <;> cases fm <;> rfl
    rw [e0]
    clear e0 hfn hfm
    go_enter Tryz.func59, Tryz.ntmps59
    go_upto_region 1 with (fail)
    go_region_held3 (fun w' => Below w.heap.size w w' ∧ w'.cell? ⟨b2, 0, none⟩ = some (.slice A L.length c) ∧ w'.cell? ⟨b3, 0, none⟩ = some (.slice (some ⟨b, off, none⟩) P.length c2) ∧ w'.cell? ⟨b4, 0, none⟩ = some (.func (.func 97) #[] #[.pointer (some ⟨m4, 0, none⟩)]) ∧ w'.cell? ⟨b5, 0, none⟩ = some (.func (.func 97) #[] #[.pointer (some ⟨m5, 0, none⟩)]) ∧ w'.cell? ⟨b, off + j * 2, none⟩ = some (.int .i64 px) ∧ w'.cell? ⟨b, off + j * 2 + 1, none⟩ = some (.int .i64 py)) (first | exact SK _ (Below.refl _ _).drew | exact SK _ (Below.refl _ _) | exact SK _ (bel_next (by assumption) (by assumption) (Nat.le_refl _)))
      (first
        | (go_at_call 47; refine (HLO.out _ (by first | exact HV.out.below (And.left (by assumption)) | exact HV.out.below (Below.refl _ _) | exact HV.out.below (Below.refl _ _).drew)).mono ?_; rintro e w5 ⟨rfl, hbW⟩))
    obtain ⟨hbx, d2, d3, d4, d5, -, -⟩ : Below w.heap.size w w5 ∧ w5.cell? ⟨b2, 0, none⟩ = some (.slice A L.length c) ∧ w5.cell? ⟨b3, 0, none⟩ = some (.slice (some ⟨b, off, none⟩) P.length c2) ∧ w5.cell? ⟨b4, 0, none⟩ = some (.func (.func 97) #[] #[.pointer (some ⟨m4, 0, none⟩)]) ∧ w5.cell? ⟨b5, 0, none⟩ = some (.func (.func 97) #[] #[.pointer (some ⟨m5, 0, none⟩)]) ∧ w5.cell? ⟨b, off + j * 2, none⟩ = some (.int .i64 px) ∧ w5.cell? ⟨b, off + j * 2 + 1, none⟩ = some (.int .i64 py) := by assumption
    have HB5 := hide hbx
    clear hbx hbW SK c4 c5 x2 x3 p0 p1
    go_wp2_with fail
    refine (HFm.out w5 HB5.out).mono ?_
    rintro e w6 ⟨rfl, hb6⟩
    have HB6 := hide (HB5.out.trans (hb6.mono HB5.out.size))
    clear hb6
    go_wp2_with fail
    go_ret
    exact ⟨by cases fm <;> rfl, HB6.out⟩

set_option maxRecDepth 100000 in
set_option maxHeartbeats 4000000 in
theorem pune_bad (w : World) (v : Value) (L : List S2) (vp : Value) (P : List S2) (n m : Int) (hv : Pts w v L) (hvp : Pts w vp P) (hL : L.length ≤ 1000000000000) (_hP : P.length ≤ 1000000000000) (hs : Std w) (k : Int) (hk : k ≠ 0) (he : chkP L true = k) :
    Calls Tryz.prog 21 #[v, vp, .int .i64 n, .int .i64 m] w fun e w' => e = .returned (.tuple #[.slice none 0 0, .int .i64 k]) ∧ Below w.heap.size w w' := by
  have HV := hide hv
  have HVP := hide hvp
  have HS := hide hs
  obtain ⟨A, c, rfl, _⟩ := id hv
  obtain ⟨A2, c2, rfl, _⟩ := id hvp
  clear hv hvp hs
  have hA0 : Below w.heap.size w ((w.alloc (.cells #[.slice A L.length c] 22)).alloc (.cells #[.slice A2 P.length c2] 22)) := allocs_below w [_, _]
  have HA0 := hide hA0
  have HV0 := hide (HV.out.below hA0)
  have kx2 : Boxed ((w.alloc (.cells #[.slice A L.length c] 22)).alloc (.cells #[.slice A2 P.length c2] 22)) w.heap.size 22 (.slice A L.length c) := (Boxed.new w 22 (.slice A L.length c)).alloc _
  have kx3 : Boxed ((w.alloc (.cells #[.slice A L.length c] 22)).alloc (.cells #[.slice A2 P.length c2] 22)) (w.heap.size + 1) 22 (.slice A2 P.length c2) := by have h := Boxed.new (w.alloc (.cells #[.slice A L.length c] 22)) 22 (.slice A2 P.length c2); rwa [World.size_alloc] at h
  have K2 := hide kx2
  have K3 := hide kx3
  clear hA0 kx2 kx3
  have HE := hide he
  have hk0 : ¬ k = 0 := hk
  clear he hk
  have y2 := K2.out.cell
  go_enter Tryz.func21, Tryz.ntmps21
  go_wp2_with fail
  clear y2
  refine (pcheck_any _ _ L true HV0.out hL).mono ?_
  rw [HE.out]
  rintro e w1 ⟨rfl, hb1⟩
  have HB1 := hide (HA0.out.trans (hb1.mono HA0.out.size))
  replace K2 := hide (Boxed.keptL K2.out hb1)
  replace K3 := hide (Boxed.keptL K3.out hb1)
  clear hb1
  go_wp2_with fail
  go_ret2
  exact ⟨rfl, HB1.out⟩

set_option maxRecDepth 100000 in
set_option maxHeartbeats 4000000 in
theorem pune_bad2 (w : World) (v : Value) (L : List S2) (vp : Value) (P : List S2) (n m : Int) (hv : Pts w v L) (hvp : Pts w vp P) (hL : L.length ≤ 1000000000000) (hP : P.length ≤ 1000000000000) (hs : Std w) (k : Int) (hk : k ≠ 0) (he : chkP L true = 0) (hd : chkPtsN P = k) :
    Calls Tryz.prog 21 #[v, vp, .int .i64 n, .int .i64 m] w fun e w' => e = .returned (.tuple #[.slice none 0 0, .int .i64 k]) ∧ Below w.heap.size w w' := by
  have HV := hide hv
  have HVP := hide hvp
  have HS := hide hs
  obtain ⟨A, c, rfl, _⟩ := id hv
  obtain ⟨A2, c2, rfl, _⟩ := id hvp
  clear hv hvp hs
  have hA0 : Below w.heap.size w ((w.alloc (.cells #[.slice A L.length c] 22)).alloc (.cells #[.slice A2 P.length c2] 22)) := allocs_below w [_, _]
  have HA0 := hide hA0
  have HV0 := hide (HV.out.below hA0)
  have kx2 : Boxed ((w.alloc (.cells #[.slice A L.length c] 22)).alloc (.cells #[.slice A2 P.length c2] 22)) w.heap.size 22 (.slice A L.length c) := (Boxed.new w 22 (.slice A L.length c)).alloc _
  have kx3 : Boxed ((w.alloc (.cells #[.slice A L.length c] 22)).alloc (.cells #[.slice A2 P.length c2] 22)) (w.heap.size + 1) 22 (.slice A2 P.length c2) := by have h := Boxed.new (w.alloc (.cells #[.slice A L.length c] 22)) 22 (.slice A2 P.length c2); rwa [World.size_alloc] at h
  have K2 := hide kx2
  have K3 := hide kx3
  clear hA0 kx2 kx3
  have HE := hide he
  have HD := hide hd
  have hk0 : ¬ k = 0 := hk
  clear he hk hd
  have y2 := K2.out.cell
  go_enter Tryz.func21, Tryz.ntmps21
  go_wp2_with fail
  clear y2
  refine (pcheck_any _ _ L true HV0.out hL).mono ?_
  rw [HE.out]
  rintro e w1 ⟨rfl, hb1⟩
  have HB1 := hide (HA0.out.trans (hb1.mono HA0.out.size))
  replace K2 := hide (Boxed.keptL K2.out hb1)
  replace K3 := hide (Boxed.keptL K3.out hb1)
  clear hb1
  have y3 := K3.out.cell
  go_wp2_with fail
  refine (Check_any _ _ P (HVP.out.below HB1.out) hP).mono ?_
  rw [HD.out]
  rintro e w2 ⟨rfl, hb2⟩
  have HB2 := hide (HB1.out.trans (hb2.mono HB1.out.size))
  replace K2 := hide (Boxed.keptL K2.out hb2)
  replace K3 := hide (Boxed.keptL K3.out hb2)
  clear hb2 y3
  go_wp2_with fail
  go_ret2
  exact ⟨rfl, HB2.out⟩

set_option maxRecDepth 100000 in
set_option maxHeartbeats 4000000 in
theorem pune_tol (w : World) (v : Value) (L : List S2) (vp : Value) (P : List S2) (n m : Int) (hv : Pts w v L) (hvp : Pts w vp P) (hL : L.length ≤ 1000000000000) (hP : P.length ≤ 1000000000000) (hs : Std w) (he : chkP L true = 0) (hd : chkPtsN P = 0) (ht : ¬ (Tl n ∧ Tl m)) :
    Calls Tryz.prog 21 #[v, vp, .int .i64 n, .int .i64 m] w fun e w' => e = .returned (.tuple #[.slice none 0 0, .int .i64 2]) ∧ Below w.heap.size w w' := by
  have HV := hide hv
  have HVP := hide hvp
  have HS := hide hs
  obtain ⟨A, c, rfl, _⟩ := id hv
  obtain ⟨A2, c2, rfl, _⟩ := id hvp
  clear hv hvp hs
  have hA0 : Below w.heap.size w ((w.alloc (.cells #[.slice A L.length c] 22)).alloc (.cells #[.slice A2 P.length c2] 22)) := allocs_below w [_, _]
  have HA0 := hide hA0
  have HV0 := hide (HV.out.below hA0)
  have kx2 : Boxed ((w.alloc (.cells #[.slice A L.length c] 22)).alloc (.cells #[.slice A2 P.length c2] 22)) w.heap.size 22 (.slice A L.length c) := (Boxed.new w 22 (.slice A L.length c)).alloc _
  have kx3 : Boxed ((w.alloc (.cells #[.slice A L.length c] 22)).alloc (.cells #[.slice A2 P.length c2] 22)) (w.heap.size + 1) 22 (.slice A2 P.length c2) := by have h := Boxed.new (w.alloc (.cells #[.slice A L.length c] 22)) 22 (.slice A2 P.length c2); rwa [World.size_alloc] at h
  have K2 := hide kx2
  have K3 := hide kx3
  clear hA0 kx2 kx3
  have HE := hide he
  have HD := hide hd
  have HT := hide ((tol_all2 n m).trans (if_neg ht))
  have y2 := K2.out.cell
  clear he hd ht
  go_enter Tryz.func21, Tryz.ntmps21
  go_wp2_with fail
  clear y2
  refine (pcheck_any _ _ L true HV0.out hL).mono ?_
  rw [HE.out]
  rintro e w1 ⟨rfl, hb1⟩
  have HB1 := hide (HA0.out.trans (hb1.mono HA0.out.size))
  replace K2 := hide (Boxed.keptL K2.out hb1)
  replace K3 := hide (Boxed.keptL K3.out hb1)
  clear hb1
  have y3 := K3.out.cell
  go_wp2_with fail
  refine (Check_any _ _ P (HVP.out.below HB1.out) hP).mono ?_
  rw [HD.out]
  rintro e w2 ⟨rfl, hb2⟩
  have HB2 := hide (HB1.out.trans (hb2.mono HB1.out.size))
  replace K2 := hide (Boxed.keptL K2.out hb2)
  replace K3 := hide (Boxed.keptL K3.out hb2)
  clear hb2 y3
  go_wp2_with fail
  refine (ptol_any _ _ _ [n, m] (by simp) (tol_two w2 n m)).mono ?_
  rw [HT.out]
  rintro e w3 ⟨rfl, hb3⟩
  have hb3' := (allocs_below w2 [.cells #[.int .i64 n, .int .i64 m] 3]).trans (hb3.mono (by simp))
  have HB3 := hide (HB2.out.trans (hb3'.mono HB2.out.size))
  replace K2 := hide (Boxed.keptL K2.out hb3')
  replace K3 := hide (Boxed.keptL K3.out hb3')
  clear hb3 hb3'
  go_wp2_with fail
  go_ret2
  exact ⟨rfl, HB3.out⟩

set_option maxRecDepth 100000 in
set_option maxHeartbeats 4000000 in
theorem pune_ok (w : World) (v : Value) (L : List S2) (vp : Value) (P : List S2) (n m : Int) (hv : Pts w v L) (hvp : Pts w vp P) (hL : L.length ≤ 1000000000000) (hP : P.length ≤ 1000000000000) (hs : Std w) (he : chkP L true = 0) (hd : chkPtsN P = 0) (ht : Tl n ∧ Tl m) :
    Calls Tryz.prog 21 #[v, vp, .int .i64 n, .int .i64 m] w fun e w' => (∃ u, e = .returned (.tuple #[u, .int .i64 0]) ∧ IxL w' u (fl (uneF L P n m) P.length)) ∧ Below w.heap.size w w' := by
  have hp3 : P.length ≤ 64 ∧ RightS P := by
    rcases chkPtsN_cases P with h | h | ⟨_, h2, h3⟩
    · rw [h] at hd; exact absurd hd (by decide)
    · rw [h] at hd; exact absurd hd (by decide)
    · exact ⟨h2, rightS_of_all h3⟩
  obtain ⟨hp1, hp2⟩ := hp3
  have HV := hide hv
  have HVP := hide hvp
  have HS := hide hs
  obtain ⟨A, c, rfl, _⟩ := id hv
  obtain ⟨A2, c2, rfl, _⟩ := id hvp
  clear hv hvp hs
  have hA0 : Below w.heap.size w ((w.alloc (.cells #[.slice A L.length c] 22)).alloc (.cells #[.slice A2 P.length c2] 22)) := allocs_below w [_, _]
  have HA0 := hide hA0
  have HV0 := hide (HV.out.below hA0)
  have kx2 : Boxed ((w.alloc (.cells #[.slice A L.length c] 22)).alloc (.cells #[.slice A2 P.length c2] 22)) w.heap.size 22 (.slice A L.length c) := (Boxed.new w 22 (.slice A L.length c)).alloc _
  have kx3 : Boxed ((w.alloc (.cells #[.slice A L.length c] 22)).alloc (.cells #[.slice A2 P.length c2] 22)) (w.heap.size + 1) 22 (.slice A2 P.length c2) := by have h := Boxed.new (w.alloc (.cells #[.slice A L.length c] 22)) 22 (.slice A2 P.length c2); rwa [World.size_alloc] at h
  have K2 := hide kx2
  have K3 := hide kx3
  clear hA0 kx2 kx3
  have HE := hide he
  have HD := hide hd
  have HT := hide ((tol_all2 n m).trans (if_pos ht))
  have HTL := hide ht
  have HPR := hide hp2
  have y2 := K2.out.cell
  clear he hd ht hp2
  go_enter Tryz.func21, Tryz.ntmps21
  go_wp2_with fail
  clear y2
  refine (pcheck_any _ _ L true HV0.out hL).mono ?_
  rw [HE.out]
  rintro e w1 ⟨rfl, hb1⟩
  have HB1 := hide (HA0.out.trans (hb1.mono HA0.out.size))
  replace K2 := hide (Boxed.keptL K2.out hb1)
  replace K3 := hide (Boxed.keptL K3.out hb1)
  clear hb1
  have y3 := K3.out.cell
  go_wp2_with fail
  refine (Check_any _ _ P (HVP.out.below HB1.out) hP).mono ?_
  rw [HD.out]
  rintro e w2 ⟨rfl, hb2⟩
  have HB2 := hide (HB1.out.trans (hb2.mono HB1.out.size))
  replace K2 := hide (Boxed.keptL K2.out hb2)
  replace K3 := hide (Boxed.keptL K3.out hb2)
  clear hb2 y3
  go_wp2_with fail
  refine (ptol_any _ _ _ [n, m] (by simp) (tol_two w2 n m)).mono ?_
  rw [HT.out]
  rintro e w3 ⟨rfl, hb3⟩
  have hb3' := (allocs_below w2 [.cells #[.int .i64 n, .int .i64 m] 3]).trans (hb3.mono (by simp))
  have HB3 := hide (HB2.out.trans (hb3'.mono HB2.out.size))
  replace K2 := hide (Boxed.keptL K2.out hb3')
  replace K3 := hide (Boxed.keptL K3.out hb3')
  clear hb3 hb3'
  go_wp2_with fail
  refine (pbeyond_any _ n 1 HTL.out.1 (by decide) (HS.out.below HB3.out (Nat.le_refl _))).mono ?_
  rintro e w4 ⟨⟨B4, rfl, hB1, hB2⟩, hb4⟩
  have HB4 := hide (HB3.out.trans (hb4.mono HB3.out.size))
  replace K2 := hide (Boxed.keptL K2.out hb4)
  replace K3 := hide (Boxed.keptL K3.out hb4)
  have M4 := hide hB2
  clear hb4 hB1 hB2
  go_wp2_with fail
  refine (pbeyond_any _ m 1 HTL.out.2 (by decide) (HS.out.below HB4.out (Nat.le_refl _))).mono ?_
  rintro e w5 ⟨⟨B5, rfl, hB1, hB2⟩, hb5⟩
  have HB5 := hide (HB4.out.trans (hb5.mono HB4.out.size))
  replace K2 := hide (Boxed.keptL K2.out hb5)
  replace K3 := hide (Boxed.keptL K3.out hb5)
  replace M4 := hide (Boxed.keptL M4.out hb5)
  have M5 := hide hB2
  clear hb5 hB1 hB2
  go_upto_region 11 with (fail)
  have hA5 : Below w5.heap.size w5 ((w5.alloc (.cells #[.func (.func 97) #[] #[.pointer (some ⟨B4, 0, none⟩)]] 94)).alloc (.cells #[.func (.func 97) #[] #[.pointer (some ⟨B5, 0, none⟩)]] 94)) := allocs_below w5 [_, _]
  have k4 : Boxed ((w5.alloc (.cells #[.func (.func 97) #[] #[.pointer (some ⟨B4, 0, none⟩)]] 94)).alloc (.cells #[.func (.func 97) #[] #[.pointer (some ⟨B5, 0, none⟩)]] 94)) w5.heap.size 94 (.func (.func 97) #[] #[.pointer (some ⟨B4, 0, none⟩)]) := (Boxed.new w5 94 (.func (.func 97) #[] #[.pointer (some ⟨B4, 0, none⟩)])).alloc _
  have k5 : Boxed ((w5.alloc (.cells #[.func (.func 97) #[] #[.pointer (some ⟨B4, 0, none⟩)]] 94)).alloc (.cells #[.func (.func 97) #[] #[.pointer (some ⟨B5, 0, none⟩)]] 94)) (w5.heap.size + 1) 94 (.func (.func 97) #[] #[.pointer (some ⟨B5, 0, none⟩)]) := by have h := Boxed.new (w5.alloc (.cells #[.func (.func 97) #[] #[.pointer (some ⟨B4, 0, none⟩)]] 94)) 94 (.func (.func 97) #[] #[.pointer (some ⟨B5, 0, none⟩)]); rwa [World.size_alloc] at h
  have k2 : Boxed ((w5.alloc (.cells #[.func (.func 97) #[] #[.pointer (some ⟨B4, 0, none⟩)]] 94)).alloc (.cells #[.func (.func 97) #[] #[.pointer (some ⟨B5, 0, none⟩)]] 94)) w.heap.size 22 (.slice A L.length c) := (K2.out.alloc _).alloc _
  have k3 : Boxed ((w5.alloc (.cells #[.func (.func 97) #[] #[.pointer (some ⟨B4, 0, none⟩)]] 94)).alloc (.cells #[.func (.func 97) #[] #[.pointer (some ⟨B5, 0, none⟩)]] 94)) (w.heap.size + 1) 22 (.slice A2 P.length c2) := (K3.out.alloc _).alloc _
  have j4 : Boxed ((w5.alloc (.cells #[.func (.func 97) #[] #[.pointer (some ⟨B4, 0, none⟩)]] 94)).alloc (.cells #[.func (.func 97) #[] #[.pointer (some ⟨B5, 0, none⟩)]] 94)) B4 35 (.string ⟨(RT (mostQ n 1)).toArray⟩) := (M4.out.alloc _).alloc _
  have j5 : Boxed ((w5.alloc (.cells #[.func (.func 97) #[] #[.pointer (some ⟨B4, 0, none⟩)]] 94)).alloc (.cells #[.func (.func 97) #[] #[.pointer (some ⟨B5, 0, none⟩)]] 94)) B5 35 (.string ⟨(RT (mostQ m 1)).toArray⟩) := (M5.out.alloc _).alloc _
  have hb6 : Below w.heap.size w ((w5.alloc (.cells #[.func (.func 97) #[] #[.pointer (some ⟨B4, 0, none⟩)]] 94)).alloc (.cells #[.func (.func 97) #[] #[.pointer (some ⟨B5, 0, none⟩)]] 94)) := HB5.out.trans (hA5.mono HB5.out.size)
  obtain ⟨bx, hbx⟩ : ∃ bx, w5.heap.size = bx := ⟨_, rfl⟩
  rw [hbx] at k4 k5 ⊢
  generalize ((w5.alloc (.cells #[.func (.func 97) #[] #[.pointer (some ⟨B4, 0, none⟩)]] 94)).alloc (.cells #[.func (.func 97) #[] #[.pointer (some ⟨B5, 0, none⟩)]] 94)) = w6 at *
  have y2 := k2.cell
  have y3 := k3.cell
  have HB6 := hide hb6
  have HK2 := hide k2
  have HK3 := hide k3
  have HK4 := hide k4
  have HK5 := hide k5
  have HM4 := hide j4
  have HM5 := hide j5
  have cl : ∀ {W : World} {b : Nat} {t : TypeId} {u : Value}, Below w6.heap.size w6 W → Boxed w6 b t u → W.cell? ⟨b, 0, none⟩ = some u := fun hW hk => (bcell hW _ _ (block_lt_of_cell hk.cell)).trans hk.cell
  have HFL := hide (failing_any w6 (.slice A L.length c) L true (.slice A2 P.length c2) P 59 #[.pointer (some ⟨w.heap.size, 0, none⟩), .pointer (some ⟨w.heap.size + 1, 0, none⟩), .pointer (some ⟨bx, 0, none⟩), .pointer (some ⟨bx + 1, 0, none⟩)] w6.heap.size w6.heap.size (uneF L P n m) (fun _ W => Below w6.heap.size w6 W)
    (enters_of Tryz.func59 (by kernel_rfl) rfl) (Nat.le_refl _) (Nat.le_refl _) (fun W hW => HS.out.below (HB6.out.trans (hW.mono HB6.out.size)) (Nat.le_refl _)) (PtB.of (HV.out.below HB6.out)) (PtB.of (HVP.out.below HB6.out)) HE.out hp1 HPR.out
    (fun i W W' h h2 => h.trans h2)
    (fun j W hj hJ hb hz => (pune1_any W j A A2 c c2 L P n m (gP P j).1 (gP P j).2 _ _ _ _ B4 B5 (cl hJ HK2.out) (cl hJ HK3.out) (cl hJ HK4.out) (cl hJ HK5.out) (cl hJ HM4.out) (cl hJ HM5.out) (HV.out.below (HB6.out.trans (hJ.mono HB6.out.size))) (HVP.out.below (HB6.out.trans (hJ.mono HB6.out.size))) hj hp1 rfl HE.out (HPR.out j) HTL.out.1 HTL.out.2 (HS.out.below (HB6.out.trans (hJ.mono HB6.out.size)) (Nat.le_refl _))).mono (by
      rintro e W' ⟨rfl, hbW⟩
      exact ⟨rfl, hJ.trans (hbW.mono hb.size), KX.of_below hbW hz⟩))
    (Below.refl _ _))
  clear k2 k3 k4 k5 j4 j5 hA5 hb6 hbx cl
  go_wp2_with fail
  refine HFL.out.mono ?_
  rintro e w7 ⟨⟨u, rfl, hin⟩, _, hb7⟩
  obtain ⟨A3, c3, rfl⟩ := hin.shape
  have HB7 := hide (HB6.out.trans (hb7.mono HB6.out.size))
  have HIN := hide hin
  clear hin hb7 HFL y2 y3
  go_wp2_with fail
  go_ret2
  exact ⟨⟨_, rfl, HIN.out⟩, HB7.out⟩

theorem pune_any (w : World) (v : Value) (L : List S2) (vp : Value) (P : List S2) (n m : Int) (hv : Pts w v L) (hvp : Pts w vp P) (hL : L.length ≤ 1000000000000) (hP : P.length ≤ 1000000000000) (hs : Std w) :
    Calls Tryz.prog 21 #[v, vp, .int .i64 n, .int .i64 m] w fun e w' => (∃ u, e = .returned (.tuple #[u, .int .i64 (uneE L P n m)]) ∧ IxL w' u (uneL L P n m)) ∧ Below w.heap.size w w' := by
  have nl : ∀ k, k ≠ 0 → uneE L P n m = k → uneL L P n m = [] := fun k hk h => by unfold uneL; rw [if_neg (by rw [h]; exact hk)]
  by_cases h : chkP L true = 0
  · by_cases hd : chkPtsN P = 0
    · by_cases ht : Tl n ∧ Tl m
      · have e0 : uneE L P n m = 0 := by unfold uneE; rw [if_pos h, if_pos hd, if_pos ht]
        have e1 : uneL L P n m = fl (uneF L P n m) P.length := by unfold uneL; rw [if_pos e0]
        rw [e0, e1]
        exact pune_ok w v L vp P n m hv hvp hL hP hs h hd ht
      · have e0 : uneE L P n m = 2 := by unfold uneE; rw [if_pos h, if_pos hd, if_neg ht]
        rw [e0, nl 2 (by decide) e0]
        exact (pune_tol w v L vp P n m hv hvp hL hP hs h hd ht).mono (by rintro e W' ⟨rfl, hb⟩; exact ⟨⟨_, rfl, IxL.nil _⟩, hb⟩)
    · have e0 : uneE L P n m = chkPtsN P := by unfold uneE; rw [if_pos h, if_neg hd]
      rw [nl _ hd e0, e0]
      exact (pune_bad2 w v L vp P n m hv hvp hL hP hs _ hd h rfl).mono (by rintro e W' ⟨rfl, hb⟩; exact ⟨⟨_, rfl, IxL.nil _⟩, hb⟩)
  · have e0 : uneE L P n m = chkP L true := by unfold uneE; rw [if_neg h]
    rw [nl _ h e0, e0]
    exact (pune_bad w v L vp P n m hv hvp hL hP hs _ h rfl).mono (by rintro e W' ⟨rfl, hb⟩; exact ⟨⟨_, rfl, IxL.nil _⟩, hb⟩)
end Go.Proofs.YtendaaghmeoddaaGreatDoor
