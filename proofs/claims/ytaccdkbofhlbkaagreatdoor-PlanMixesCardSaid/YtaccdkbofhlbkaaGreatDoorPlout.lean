/- Products of two and three texts; plan.outgoing, plan.Outgoing. -/
import Derived.Test.YtaccdkbofhlbkaaGreatDoorPlacc
namespace Go.Proofs.YtaccdkbofhlbkaaGreatDoor
open Go.RowKit Go.Shelf MLab

theorem product2_any (w : World) (g c m : Nat) (a b : Int) (hg : Blk w g 63 #[tx a, tx b]) (hm : m ≤ 1024) (ha : a.natAbs < 10 ^ m) (hb : b.natAbs < 10 ^ m) (hab : (a * b).natAbs < 10 ^ m) (hs : Std w) :
    Calls Tryz.prog 65 #[.slice (some ⟨g, 0, none⟩) 2 c] w fun e w' => e = .returned (.tuple #[tx (a * b), .int .i64 0]) ∧ Below w.heap.size w w' := by
  have hB : ∀ {x : Int}, x.natAbs < 10 ^ m → x.natAbs < Big := fun h => Nat.lt_of_lt_of_le h (pow_big hm)
  have h := product_any w g c 63 [a, b] hg (by intro z hz; simp at hz; rcases hz with rfl | rfl <;> exact hB (by assumption))
    (by intro j hj; match j, hj with | 0, _ => (show (1 : Int).natAbs < Big; exact small30 (n := 1) (by decide)) | 1, _ => (show ((1 : Int) * a).natAbs < Big; rw [Int.one_mul]; exact hB ha) | 2, _ => (show ((1 : Int) * a * b).natAbs < Big; rw [Int.one_mul]; exact hB hab)) (by simp) hs
  rw [show [a, b].length = 2 from rfl, show prodP [a, b] 2 = a * b from by simp [prodP]] at h
  exact h
theorem product3_any (w : World) (g c m : Nat) (a b d : Int) (hg : Blk w g 63 #[tx a, tx b, tx d]) (hm : m ≤ 1024) (ha : a.natAbs < 10 ^ m) (hb : b.natAbs < 10 ^ m) (hd : d.natAbs < 10 ^ m) (hab : (a * b).natAbs < 10 ^ m) (habd : (a * b * d).natAbs < 10 ^ m) (hs : Std w) :
    Calls Tryz.prog 65 #[.slice (some ⟨g, 0, none⟩) 3 c] w fun e w' => e = .returned (.tuple #[tx (a * b * d), .int .i64 0]) ∧ Below w.heap.size w w' := by
  have hB : ∀ {x : Int}, x.natAbs < 10 ^ m → x.natAbs < Big := fun h => Nat.lt_of_lt_of_le h (pow_big hm)
  have h := product_any w g c 63 [a, b, d] hg (by intro z hz; simp at hz; rcases hz with rfl | rfl | rfl <;> exact hB (by assumption))
    (by intro j hj; match j, hj with | 0, _ => (show (1 : Int).natAbs < Big; exact small30 (n := 1) (by decide)) | 1, _ => (show ((1 : Int) * a).natAbs < Big; rw [Int.one_mul]; exact hB ha) | 2, _ => (show ((1 : Int) * a * b).natAbs < Big; rw [Int.one_mul]; exact hB hab) | 3, _ => (show ((1 : Int) * a * b * d).natAbs < Big; rw [Int.one_mul]; exact hB habd)) (by simp) hs
  rw [show [a, b, d].length = 3 from rfl, show prodP [a, b, d] 3 = a * b * d from by simp [prodP]] at h
  exact h
theorem bin2_lt {n k m j : Nat} (hn : n ≤ 64) (hm : m ≤ 64) : bin n k * bin m j < 10 ^ 40 := by
  have s1 := bin64 (n := n) (k := k) hn
  have s2 := bin64 (n := m) (k := j) hm
  have h1 : bin n k * bin m j ≤ 10 ^ 20 * bin m j := Nat.mul_le_mul_right _ (by omega)
  have h2 : 10 ^ 20 * bin m j < 10 ^ 20 * 10 ^ 20 := Nat.mul_lt_mul_of_pos_left s2 (by decide)
  have h3 : (10 : Nat) ^ 20 * 10 ^ 20 = 10 ^ 40 := by decide
  omega

set_option maxRecDepth 100000 in
set_option maxHeartbeats 2000000 in
theorem outgoing1_any (w : World) (N C lot bad k b1 b2 b3 : Nat) (h1 : Blk w b1 30 #[.int .i64 (N : Int), .int .i64 (C : Int)]) (h2 : Blk w b2 3 #[.int .i64 (lot : Int)]) (h3 : Blk w b3 3 #[.int .i64 (bad : Int)]) (hb : bad ≤ lot) (hl : lot ≤ 64) (hk : k ≤ N) (hkb : k ≤ bad) (hN : N ≤ 64) (hs : Std w) :
    Calls Tryz.prog 96 #[.int .i64 (k : Int), .pointer (some ⟨b1, 0, none⟩), .pointer (some ⟨b2, 0, none⟩), .pointer (some ⟨b3, 0, none⟩)] w fun e w' => e = .returned (.tuple #[tx ((bin bad k * bin (lot - bad) (N - k) * (bad - k) : Nat) : Int), .int .i64 0]) ∧ Below w.heap.size w w' := by
  have HS := hide hs
  have hw : IntKind.i64.wrap ((bad : Int) - (k : Int)) = ((bad - k : Nat) : Int) := (IntWalk.i64_in _ (by omega)).trans (by omega)
  have s1 := bin2_lt (n := bad) (k := k) (m := lot - bad) (j := N - k) (by omega) (by omega)
  have HC := hide (samples_any w N C lot bad k hb hl hk hN hs)
  have C2 := hide (fun W (hS : Std W) => of_any ((bad - k : Nat) : Int) (by omega) (by omega) W hS)
  obtain ⟨s, hs1⟩ : ∃ s, bin bad k * bin (lot - bad) (N - k) = s := ⟨_, rfl⟩
  rw [hs1] at HC s1 ⊢
  have hss : s * (bad - k) < 10 ^ 42 := by
    have h1 : s * (bad - k) ≤ s * 64 := Nat.mul_le_mul_left _ (by omega)
    have h2 : (10 : Nat) ^ 40 * 64 < 10 ^ 42 := by decide
    omega
  have p40 : (10 : Nat) ^ 40 < 10 ^ 42 := by decide
  have p2 : 64 < (10 : Nat) ^ 42 := by decide
  have C3 := hide (fun W g (hg : Blk W g 63 #[tx ((s : Nat) : Int), tx ((bad - k : Nat) : Int)]) (hS : Std W) => product2_any W g 2 42 ((s : Nat) : Int) ((bad - k : Nat) : Int) hg (by decide) (by omega) (by omega) (by rw [← Int.natCast_mul]; omega) hS)
  rw [← Int.natCast_mul] at C3
  clear s1 hss p40 p2
  obtain ⟨d, hd⟩ : ∃ d, bad - k = d := ⟨_, rfl⟩
  rw [hd] at C2 C3 hw ⊢
  have a0 := Blk.cell h1 0
  have a1 := Blk.cell h1 1
  have a2 := Blk.cell h2 0
  have a3 := Blk.cell h3 0
  have K3 := hide h3
  clear h1 h2 h3 hs hs1 hd
  go_enter Tryz.func96, Tryz.ntmps96
  go_wp2_with fail
  refine HC.out.mono ?_
  rintro e w1 ⟨rfl, hb1⟩
  have HB := hide hb1
  have k3 := (Blk.cell (Blk.below K3.out hb1 (Blk.lt K3.out)) 0).trans (rfl : _ = some (Value.int .i64 (bad : Int)))
  clear hb1 a0 a1 a2 a3
  go_wp2_with fail
  refine (C2.out _ (HS.out.below HB.out (Nat.le_refl _))).mono ?_
  rintro e w2 ⟨rfl, hb2⟩
  replace HB := hide (HB.out.trans (hb2.mono HB.out.size))
  clear hb2 k3 C2
  go_wp2_with fail
  have K_m := Blk.new w2 63 #[tx ((s : Nat) : Int), tx ((d : Nat) : Int)]
  replace HB := hide (HB.out.alloc HB.out.size (.cells #[tx ((s : Nat) : Int), tx ((d : Nat) : Int)] 63))
  generalize w2.alloc (.cells #[tx ((s : Nat) : Int), tx ((d : Nat) : Int)] 63) = wb at *
  refine (C3.out _ _ K_m (HS.out.below HB.out (Nat.le_refl _))).mono ?_
  rintro e w9 ⟨rfl, hb⟩
  replace HB := hide (HB.out.trans (hb.mono HB.out.size))
  clear hb K_m
  go_wp2_with fail
  go_ret2
  exact ⟨rfl, HB.out⟩

set_option maxRecDepth 100000 in
set_option maxHeartbeats 4000000 in
theorem outgoing_any (w : World) (N C lot bad : Nat) (h1N : 1 ≤ N) (hC : C ≤ N) (hNl : N ≤ lot) (hbl : bad ≤ lot) (hl : lot ≤ 64) (hN : N ≤ 64) (hs : Std w) :
    Calls Tryz.prog 47 #[.agg #[.int .i64 (N : Int), .int .i64 (C : Int)], .int .i64 (lot : Int), .int .i64 (bad : Int)] w fun e w' => RetRat (outQ bad (lot - bad) N C) e ∧ Below w.heap.size w w' := by
  have HS := hide hs
  clear hs
  have s1 := bin64 (n := lot) (k := N) (by omega)
  have hbp := bin_pos (n := lot) (k := N) (by omega)
  have p20 : (10 : Nat) ^ 20 * 64 < 10 ^ 30 := by decide
  have hsum : outN bad (lot - bad) N C < 10 ^ 30 := by
    have h0 := outN_le bad (lot - bad) N C
    have h1 := accN_monoC bad (lot - bad) N hC
    rw [accN_all, show bad + (lot - bad) = lot by omega] at h1
    have h2 : bad * accN bad (lot - bad) N C ≤ 64 * 10 ^ 20 := Nat.mul_le_mul (by omega) (by omega)
    omega
  have HQ : Hid (outQ bad (lot - bad) N C = Rat.divInt ((sumN (fun k => bin bad k * bin (lot - bad) (N - k) * (bad - k)) (min C bad + 1) : Nat) : Int) ((bin lot N * lot : Nat) : Int)) := hide (by unfold outQ outN; rw [show bad + (lot - bad) = lot by omega])
  have hml : bin lot N * lot < 10 ^ 30 := by
    have h1 : bin lot N * lot ≤ 10 ^ 20 * 64 := Nat.mul_le_mul (by omega) hl
    omega
  have hmp : 0 < bin lot N * lot := Nat.mul_pos hbp (by omega)
  have C1 := hide (fun W (hS : Std W) => chosen_any W lot N (by omega) (by omega) hS)
  have C2 := hide (fun W (hS : Std W) => of_any (lot : Int) (by omega) (by omega) W hS)
  have C3 := hide (fun W (hS : Std W) => mulT_any W ((bin lot N : Nat) : Int) (lot : Int) (small30 (by omega)) (small30 (by omega)) (by rw [← Int.natCast_mul]; exact small30 hml) hS)
  rw [← Int.natCast_mul] at C3
  have hb0 : ((bin lot N * lot : Nat) : Int) ≠ 0 := by omega
  have hb1 := small30 hml
  obtain ⟨AL, hAL⟩ : ∃ AL : Int, ((bin lot N * lot : Nat) : Int) = AL := ⟨_, rfl⟩
  rw [hAL] at C3 hb0 hb1 HQ
  clear hAL
  obtain ⟨d, hd⟩ : ∃ d, bin lot N = d := ⟨_, rfl⟩
  rw [hd] at C1 C3
  have HB0 := hide hb0
  have HB1 := hide hb1
  have HSM : Hid (sumN (fun k => bin bad k * bin (lot - bad) (N - k) * (bad - k)) (min C bad + 1) < 10 ^ 30) := hide hsum
  clear s1 hbp p20 hsum hb0 hb1 hd hml hmp
  obtain ⟨R, hR⟩ : ∃ R, outQ bad (lot - bad) N C = R := ⟨_, rfl⟩
  rw [hR] at HQ ⊢
  clear hR
  by_cases hcb : C ≤ bad
  · have hmn : min (C : Int) (bad : Int) = (C : Int) := by omega
    have hm : min C bad = C := by omega
    rw [hm] at HQ HSM
    clear hm
    have HCB := hide hcb
    clear hcb
    have HB := allocs_below w [.cells #[.int .i64 (N : Int), .int .i64 (C : Int)] 30, .cells #[.int .i64 (lot : Int)] 3, .cells #[.int .i64 (bad : Int)] 3]
    have K_p : Blk (allocs w [.cells #[.int .i64 (N : Int), .int .i64 (C : Int)] 30, .cells #[.int .i64 (lot : Int)] 3, .cells #[.int .i64 (bad : Int)] 3]) (w.heap.size + 0) 30 #[.int .i64 (N : Int), .int .i64 (C : Int)] := allocs_at w [.cells #[.int .i64 (N : Int), .int .i64 (C : Int)] 30, .cells #[.int .i64 (lot : Int)] 3, .cells #[.int .i64 (bad : Int)] 3] 0 rfl
    have K_l : Blk (allocs w [.cells #[.int .i64 (N : Int), .int .i64 (C : Int)] 30, .cells #[.int .i64 (lot : Int)] 3, .cells #[.int .i64 (bad : Int)] 3]) (w.heap.size + 1) 3 #[.int .i64 (lot : Int)] := allocs_at w [.cells #[.int .i64 (N : Int), .int .i64 (C : Int)] 30, .cells #[.int .i64 (lot : Int)] 3, .cells #[.int .i64 (bad : Int)] 3] 1 rfl
    have K_b : Blk (allocs w [.cells #[.int .i64 (N : Int), .int .i64 (C : Int)] 30, .cells #[.int .i64 (lot : Int)] 3, .cells #[.int .i64 (bad : Int)] 3]) (w.heap.size + 2) 3 #[.int .i64 (bad : Int)] := allocs_at w [.cells #[.int .i64 (N : Int), .int .i64 (C : Int)] 30, .cells #[.int .i64 (lot : Int)] 3, .cells #[.int .i64 (bad : Int)] 3] 2 rfl
    unfold allocs at HB K_p K_l K_b
    simp only [List.foldl_cons, List.foldl_nil] at HB K_p K_l K_b
    rw [Nat.add_zero] at K_p
    go_enter Tryz.func47, Tryz.ntmps47
    go_upto_region 1 with (fail)
    generalize (((w.alloc (.cells #[.int .i64 (N : Int), .int .i64 (C : Int)] 30)).alloc (.cells #[.int .i64 (lot : Int)] 3)).alloc (.cells #[.int .i64 (bad : Int)] 3)) = w0 at *
    replace K_p := hide K_p
    replace K_l := hide K_l
    replace K_b := hide K_b
    replace HB := hide HB
    have p0 := (Blk.cell K_p.out 0).trans (rfl : _ = some (Value.int .i64 (N : Int)))
    have p1 := (Blk.cell K_p.out 1).trans (rfl : _ = some (Value.int .i64 (C : Int)))
    have l0 := (Blk.cell K_l.out 0).trans (rfl : _ = some (Value.int .i64 (lot : Int)))
    go_wp2_with fail
    refine (C1.out _ (HS.out.below HB.out (Nat.le_refl _))).mono ?_
    rintro e w1 ⟨rfl, hb⟩
    clear p0 p1 l0
    replace K_p := hide (Blk.below K_p.out hb (Blk.lt K_p.out))
    replace K_l := hide (Blk.below K_l.out hb (Blk.lt K_l.out))
    replace K_b := hide (Blk.below K_b.out hb (Blk.lt K_b.out))
    replace HB := hide (HB.out.trans (hb.mono HB.out.size))
    clear hb
    have p0 := (Blk.cell K_p.out 0).trans (rfl : _ = some (Value.int .i64 (N : Int)))
    have p1 := (Blk.cell K_p.out 1).trans (rfl : _ = some (Value.int .i64 (C : Int)))
    have l0 := (Blk.cell K_l.out 0).trans (rfl : _ = some (Value.int .i64 (lot : Int)))
    go_wp2_with fail
    refine (C2.out _ (HS.out.below HB.out (Nat.le_refl _))).mono ?_
    rintro e w2 ⟨rfl, hb⟩
    clear p0 p1 l0
    replace K_p := hide (Blk.below K_p.out hb (Blk.lt K_p.out))
    replace K_l := hide (Blk.below K_l.out hb (Blk.lt K_l.out))
    replace K_b := hide (Blk.below K_b.out hb (Blk.lt K_b.out))
    replace HB := hide (HB.out.trans (hb.mono HB.out.size))
    clear hb
    go_wp2_with fail
    refine (C3.out _ (HS.out.below HB.out (Nat.le_refl _))).mono ?_
    rintro e w3 ⟨rfl, hb⟩
    replace K_p := hide (Blk.below K_p.out hb (Blk.lt K_p.out))
    replace K_l := hide (Blk.below K_l.out hb (Blk.lt K_l.out))
    replace K_b := hide (Blk.below K_b.out hb (Blk.lt K_b.out))
    replace HB := hide (HB.out.trans (hb.mono HB.out.size))
    clear hb
    have HCT := hide (total_any w3 C 30 AL 96 #[.pointer (some ⟨w.heap.size, 0, none⟩), .pointer (some ⟨(w.heap.size + 1), 0, none⟩), .pointer (some ⟨(w.heap.size + 2), 0, none⟩)] (enters_of Tryz.func96 (by kernel_rfl) rfl) (fun k => bin bad k * bin (lot - bad) (N - k) * (bad - k)) (fun k hk W' hb => outgoing1_any W' N C lot bad k _ _ _ (Blk.below K_p.out hb (Blk.lt K_p.out)) (Blk.below K_l.out hb (Blk.lt K_l.out)) (Blk.below K_b.out hb (Blk.lt K_b.out)) hbl hl (by omega) (by have := HCB.out; omega) hN ((HS.out.below HB.out (Nat.le_refl _)).below hb (Nat.le_refl _))) (by decide) HSM.out HB0.out HB1.out (by omega) (HS.out.below HB.out (Nat.le_refl _)))
    rw [← HQ.out] at HCT
    clear HQ HSM HB0 HB1
    have p0 := (Blk.cell K_p.out 0).trans (rfl : _ = some (Value.int .i64 (N : Int)))
    have p1 := (Blk.cell K_p.out 1).trans (rfl : _ = some (Value.int .i64 (C : Int)))
    have b0 := (Blk.cell K_b.out 0).trans (rfl : _ = some (Value.int .i64 (bad : Int)))
    go_wp2_with fail
    refine HCT.out.mono ?_
    rintro e w9 ⟨rfl, hb⟩
    clear HCT
    clear p0 p1 b0
    replace K_p := hide (Blk.below K_p.out hb (Blk.lt K_p.out))
    replace K_l := hide (Blk.below K_l.out hb (Blk.lt K_l.out))
    replace K_b := hide (Blk.below K_b.out hb (Blk.lt K_b.out))
    replace HB := hide (HB.out.trans (hb.mono HB.out.size))
    clear hb
    go_wp2_with fail
    go_ret2
    exact ⟨rfl, HB.out⟩
  · have hmn : min (C : Int) (bad : Int) = (bad : Int) := by omega
    have hm : min C bad = bad := by omega
    rw [hm] at HQ HSM
    clear hm
    have HCB := hide hcb
    clear hcb
    have HB := allocs_below w [.cells #[.int .i64 (N : Int), .int .i64 (C : Int)] 30, .cells #[.int .i64 (lot : Int)] 3, .cells #[.int .i64 (bad : Int)] 3]
    have K_p : Blk (allocs w [.cells #[.int .i64 (N : Int), .int .i64 (C : Int)] 30, .cells #[.int .i64 (lot : Int)] 3, .cells #[.int .i64 (bad : Int)] 3]) (w.heap.size + 0) 30 #[.int .i64 (N : Int), .int .i64 (C : Int)] := allocs_at w [.cells #[.int .i64 (N : Int), .int .i64 (C : Int)] 30, .cells #[.int .i64 (lot : Int)] 3, .cells #[.int .i64 (bad : Int)] 3] 0 rfl
    have K_l : Blk (allocs w [.cells #[.int .i64 (N : Int), .int .i64 (C : Int)] 30, .cells #[.int .i64 (lot : Int)] 3, .cells #[.int .i64 (bad : Int)] 3]) (w.heap.size + 1) 3 #[.int .i64 (lot : Int)] := allocs_at w [.cells #[.int .i64 (N : Int), .int .i64 (C : Int)] 30, .cells #[.int .i64 (lot : Int)] 3, .cells #[.int .i64 (bad : Int)] 3] 1 rfl
    have K_b : Blk (allocs w [.cells #[.int .i64 (N : Int), .int .i64 (C : Int)] 30, .cells #[.int .i64 (lot : Int)] 3, .cells #[.int .i64 (bad : Int)] 3]) (w.heap.size + 2) 3 #[.int .i64 (bad : Int)] := allocs_at w [.cells #[.int .i64 (N : Int), .int .i64 (C : Int)] 30, .cells #[.int .i64 (lot : Int)] 3, .cells #[.int .i64 (bad : Int)] 3] 2 rfl
    unfold allocs at HB K_p K_l K_b
    simp only [List.foldl_cons, List.foldl_nil] at HB K_p K_l K_b
    rw [Nat.add_zero] at K_p
    go_enter Tryz.func47, Tryz.ntmps47
    go_upto_region 1 with (fail)
    generalize (((w.alloc (.cells #[.int .i64 (N : Int), .int .i64 (C : Int)] 30)).alloc (.cells #[.int .i64 (lot : Int)] 3)).alloc (.cells #[.int .i64 (bad : Int)] 3)) = w0 at *
    replace K_p := hide K_p
    replace K_l := hide K_l
    replace K_b := hide K_b
    replace HB := hide HB
    have p0 := (Blk.cell K_p.out 0).trans (rfl : _ = some (Value.int .i64 (N : Int)))
    have p1 := (Blk.cell K_p.out 1).trans (rfl : _ = some (Value.int .i64 (C : Int)))
    have l0 := (Blk.cell K_l.out 0).trans (rfl : _ = some (Value.int .i64 (lot : Int)))
    go_wp2_with fail
    refine (C1.out _ (HS.out.below HB.out (Nat.le_refl _))).mono ?_
    rintro e w1 ⟨rfl, hb⟩
    clear p0 p1 l0
    replace K_p := hide (Blk.below K_p.out hb (Blk.lt K_p.out))
    replace K_l := hide (Blk.below K_l.out hb (Blk.lt K_l.out))
    replace K_b := hide (Blk.below K_b.out hb (Blk.lt K_b.out))
    replace HB := hide (HB.out.trans (hb.mono HB.out.size))
    clear hb
    have p0 := (Blk.cell K_p.out 0).trans (rfl : _ = some (Value.int .i64 (N : Int)))
    have p1 := (Blk.cell K_p.out 1).trans (rfl : _ = some (Value.int .i64 (C : Int)))
    have l0 := (Blk.cell K_l.out 0).trans (rfl : _ = some (Value.int .i64 (lot : Int)))
    go_wp2_with fail
    refine (C2.out _ (HS.out.below HB.out (Nat.le_refl _))).mono ?_
    rintro e w2 ⟨rfl, hb⟩
    clear p0 p1 l0
    replace K_p := hide (Blk.below K_p.out hb (Blk.lt K_p.out))
    replace K_l := hide (Blk.below K_l.out hb (Blk.lt K_l.out))
    replace K_b := hide (Blk.below K_b.out hb (Blk.lt K_b.out))
    replace HB := hide (HB.out.trans (hb.mono HB.out.size))
    clear hb
    go_wp2_with fail
    refine (C3.out _ (HS.out.below HB.out (Nat.le_refl _))).mono ?_
    rintro e w3 ⟨rfl, hb⟩
    replace K_p := hide (Blk.below K_p.out hb (Blk.lt K_p.out))
    replace K_l := hide (Blk.below K_l.out hb (Blk.lt K_l.out))
    replace K_b := hide (Blk.below K_b.out hb (Blk.lt K_b.out))
    replace HB := hide (HB.out.trans (hb.mono HB.out.size))
    clear hb
    have HCT := hide (total_any w3 bad 30 AL 96 #[.pointer (some ⟨w.heap.size, 0, none⟩), .pointer (some ⟨(w.heap.size + 1), 0, none⟩), .pointer (some ⟨(w.heap.size + 2), 0, none⟩)] (enters_of Tryz.func96 (by kernel_rfl) rfl) (fun k => bin bad k * bin (lot - bad) (N - k) * (bad - k)) (fun k hk W' hb => outgoing1_any W' N C lot bad k _ _ _ (Blk.below K_p.out hb (Blk.lt K_p.out)) (Blk.below K_l.out hb (Blk.lt K_l.out)) (Blk.below K_b.out hb (Blk.lt K_b.out)) hbl hl (by omega) (by have := HCB.out; omega) hN ((HS.out.below HB.out (Nat.le_refl _)).below hb (Nat.le_refl _))) (by decide) HSM.out HB0.out HB1.out (by omega) (HS.out.below HB.out (Nat.le_refl _)))
    rw [← HQ.out] at HCT
    clear HQ HSM HB0 HB1
    have p0 := (Blk.cell K_p.out 0).trans (rfl : _ = some (Value.int .i64 (N : Int)))
    have p1 := (Blk.cell K_p.out 1).trans (rfl : _ = some (Value.int .i64 (C : Int)))
    have b0 := (Blk.cell K_b.out 0).trans (rfl : _ = some (Value.int .i64 (bad : Int)))
    go_wp2_with fail
    refine HCT.out.mono ?_
    rintro e w9 ⟨rfl, hb⟩
    clear HCT
    clear p0 p1 b0
    replace K_p := hide (Blk.below K_p.out hb (Blk.lt K_p.out))
    replace K_l := hide (Blk.below K_l.out hb (Blk.lt K_l.out))
    replace K_b := hide (Blk.below K_b.out hb (Blk.lt K_b.out))
    replace HB := hide (HB.out.trans (hb.mono HB.out.size))
    clear hb
    go_wp2_with fail
    go_ret2
    exact ⟨rfl, HB.out⟩

set_option maxRecDepth 100000 in
set_option maxHeartbeats 1000000 in
theorem plOut_bad (w : World) (N C lot bad : Int) (h : ckG N C lot bad = 2) :
    Calls Tryz.prog 16 #[.agg #[.int .i64 N, .int .i64 C], .int .i64 lot, .int .i64 bad] w fun e w' => e = .returned (.tuple #[.string ⟨#[]⟩, .int .i64 2]) ∧ Below w.heap.size w w' := by
  have HC := hide (plgv_any (w.alloc (.cells #[.int .i64 N, .int .i64 C] 30)) N C lot bad)
  have BW := hide ((Below.refl w.heap.size w).alloc (Nat.le_refl _) (.cells #[.int .i64 N, .int .i64 C] 30))
  rw [h] at HC
  go_enter Tryz.func16, Tryz.ntmps16
  go_wp2_with fail
  refine HC.out.mono ?_
  rintro e w1 ⟨rfl, hb⟩
  have HB := hide (BW.out.trans (hb.mono BW.out.size))
  clear HC hb
  go_wp2_with fail
  go_ret2
  exact ⟨rfl, HB.out⟩

set_option maxRecDepth 100000 in
set_option maxHeartbeats 1000000 in
theorem plOut_any (w : World) (N C lot bad : Nat) (h1 : 1 ≤ N) (hC : C ≤ N) (hNl : N ≤ lot) (hbl : bad ≤ lot) (hl : lot ≤ 64) (hs : Std w) :
    Calls Tryz.prog 16 #[.agg #[.int .i64 (N : Int), .int .i64 (C : Int)], .int .i64 (lot : Int), .int .i64 (bad : Int)] w fun e w' => RetRat (outQ bad (lot - bad) N C) e ∧ Below w.heap.size w w' := by
  have HC := hide (fun W => plgv_any W (N : Int) (C : Int) (lot : Int) (bad : Int))
  rw [ckG_zero.2 (by omega)] at HC
  have HA := hide (fun W (hS : Std W) => outgoing_any W N C lot bad h1 hC hNl hbl hl (by omega) hS)
  have HS := hide hs
  clear h1 hC hNl hbl hl hs
  have HB := allocs_below w [.cells #[.int .i64 (N : Int), .int .i64 (C : Int)] 30]
  have K_p : Blk (allocs w [.cells #[.int .i64 (N : Int), .int .i64 (C : Int)] 30]) (w.heap.size + 0) 30 #[.int .i64 (N : Int), .int .i64 (C : Int)] := allocs_at w [.cells #[.int .i64 (N : Int), .int .i64 (C : Int)] 30] 0 rfl
  unfold allocs at HB K_p
  simp only [List.foldl_cons, List.foldl_nil] at HB K_p
  rw [Nat.add_zero] at K_p
  go_enter Tryz.func16, Tryz.ntmps16
  go_upto_region 1 with (fail)
  generalize (w.alloc (.cells #[.int .i64 (N : Int), .int .i64 (C : Int)] 30)) = w0 at *
  replace K_p := hide K_p
  replace HB := hide HB
  have p0 := (Blk.cell K_p.out 0).trans (rfl : _ = some (Value.int .i64 (N : Int)))
  have p1 := (Blk.cell K_p.out 1).trans (rfl : _ = some (Value.int .i64 (C : Int)))
  go_wp2_with fail
  refine (HC.out _).mono ?_
  rintro e w1 ⟨rfl, hb⟩
  clear p0 p1
  replace K_p := hide (Blk.below K_p.out hb (Blk.lt K_p.out))
  replace HB := hide (HB.out.trans (hb.mono HB.out.size))
  clear hb
  have p0 := (Blk.cell K_p.out 0).trans (rfl : _ = some (Value.int .i64 (N : Int)))
  have p1 := (Blk.cell K_p.out 1).trans (rfl : _ = some (Value.int .i64 (C : Int)))
  go_wp2_with fail
  refine (HA.out _ (HS.out.below HB.out (Nat.le_refl _))).mono ?_
  rintro e w2 ⟨rfl, hb⟩
  clear p0 p1
  replace K_p := hide (Blk.below K_p.out hb (Blk.lt K_p.out))
  replace HB := hide (HB.out.trans (hb.mono HB.out.size))
  clear hb
  go_wp2_with fail
  go_ret2
  exact ⟨rfl, HB.out⟩

end Go.Proofs.YtaccdkbofhlbkaaGreatDoor
