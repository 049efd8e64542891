/- PlanLeaves: the outgoing quality is at most the fraction of bad parts times the probability of acceptance, and the worst one is at least that of any lot. -/
import Derived.Test.YtaccdkbofhlbkaaGreatDoorPlopp
import Derived.Test.YtaccdkbofhlbkaaGreatDoorPlcurve
namespace Go.Proofs.YtaccdkbofhlbkaaGreatDoor
open Go.RowKit Go.Shelf MLab

theorem mulS_any (w : World) (a b : ByteArray) (p q : Rat) (m : Nat) (ha : a.data.toList = RT p) (hb : b.data.toList = RT q) (hm : m ≤ 500) (hp : Sz m m p) (hq : Sz m m q) (hs : Std w) :
    Calls Tryz.prog 37 #[.string a, .string b] w fun e w' => RetRat (p * q) e ∧ Below w.heap.size w w' :=
  rmulq_any w a b p q ha hb (hp.fit (by omega) (by omega)) (hq.fit (by omega) (by omega)) (big_of_pow (nums_lt hp hq) (by omega)) (big_of_le (dens_le hp hq) (by omega)) hs
theorem dW_eq {N C lot k : Nat} (h : k ≤ lot) : dW N C lot k = outQ k (lot - k) N C := by unfold dW; rw [Nat.min_eq_left h]

set_option maxRecDepth 100000 in
set_option maxHeartbeats 2000000 in
theorem leav_wrong (w : World) (N C lot bad : Int) (h : rightB N C lot = false) (hs : Std w) :
    Calls Tryz.prog 9 #[.agg #[.int .i64 N, .int .i64 C], .int .i64 lot, .int .u8 bad] w fun e w' => e = .returned (.bool true) ∧ Below w.heap.size w w' := by
  have HS := hide hs
  have HR := hide (fun W => right54_any W N C lot)
  rw [h] at HR
  have HA := hide (fun W (hS : Std W) => awake54_any W hS)
  clear hs h
  have HB := allocs_below w [.cells #[.int .i64 N, .int .i64 C] 23]
  have K_p : Blk (allocs w [.cells #[.int .i64 N, .int .i64 C] 23]) (w.heap.size + 0) 23 #[.int .i64 N, .int .i64 C] := allocs_at w [.cells #[.int .i64 N, .int .i64 C] 23] 0 rfl
  unfold allocs at HB K_p
  simp only [List.foldl_cons, List.foldl_nil] at HB K_p
  rw [Nat.add_zero] at K_p
  go_enter Tryz.func9, Tryz.ntmps9
  go_upto_region 1 with (fail)
  generalize (w.alloc (.cells #[.int .i64 N, .int .i64 C] 23)) = w0 at *
  replace K_p := hide K_p
  replace HB := hide HB
  have p0 := (Blk.cell K_p.out 0).trans (rfl : _ = some (Value.int .i64 N))
  have p1 := (Blk.cell K_p.out 1).trans (rfl : _ = some (Value.int .i64 C))
  go_wp2_with fail
  refine (HR.out _).mono ?_
  rintro e w1 ⟨rfl, hb⟩
  clear p0 p1
  replace K_p := hide (Blk.below K_p.out hb (Blk.lt K_p.out))
  replace HB := hide (HB.out.trans (hb.mono HB.out.size))
  clear hb
  go_wp2_with fail
  refine (HA.out _ (HS.out.below HB.out (Nat.le_refl _))).mono ?_
  rintro e w2 ⟨rfl, hb⟩
  replace K_p := hide (Blk.below K_p.out hb (Blk.lt K_p.out))
  replace HB := hide (HB.out.trans (hb.mono HB.out.size))
  clear hb
  go_wp2_with fail
  go_ret
  exact ⟨rfl, HB.out⟩

set_option maxRecDepth 100000 in
set_option maxHeartbeats 8000000 in
theorem leav_main (w : World) (n c l k : Nat) (b : Int) (hb0 : 0 ≤ b) (hb1 : b < 256) (hmod : b.tmod ((l + 1 : Nat) : Int) = (k : Int)) (hk : k ≤ l) (h1 : 1 ≤ n) (hcl : c ≤ n) (hnl : n ≤ l) (hl40 : l ≤ 40) (hs : Std w) :
    Calls Tryz.prog 9 #[.agg #[.int .i64 (n : Int), .int .i64 (c : Int)], .int .i64 (l : Int), .int .u8 b] w fun e w' => e = .returned (.bool true) ∧ Below w.heap.size w w' := by
  have HS := hide hs
  have HR := hide (fun W => right54_any W (n : Int) (c : Int) (l : Int))
  rw [rightB_iff.2 (by omega)] at HR
  have HA := hide (fun W (hS : Std W) => awake54_any W hS)
  have HSE := hide (fun W => sent_any W (n : Int) (c : Int))
  have hwl : IntKind.i64.wrap ((l : Int) + 1) = ((l + 1 : Nat) : Int) := (IntWalk.i64_in _ (by omega)).trans (by omega)
  have hl0 : ¬ ((l + 1 : Nat) : Int) = 0 := by omega
  have hwb : IntKind.i64.wrap b = b := IntWalk.i64_in _ (by omega)
  obtain ⟨u0, u1, ud, u2⟩ := frac_parts (k := k) (l := l) hk (by omega)
  have hsz1 : Sz 23 23 (outQ k (l - k) n c) := by rw [← dW_eq hk]; exact dW_sz h1 hcl hnl (by omega) k
  have hsz2 : Sz 23 23 (accQ k (l - k) n c) := accQ_sz hcl (by omega) (by omega) (by omega)
  have hsz3 : Sz 23 23 (Rat.divInt (k : Int) (l : Int)) := divi_sz (by omega) (by omega) (by omega)
  have hsz4 : Sz 46 46 (accQ k (l - k) n c * Rat.divInt (k : Int) (l : Int)) := hsz2.mul hsz3
  have hat := wstF_at (dW n c l) l
  have hge := wstF_ge (dW n c l) l k hk
  have hgt := wstF_gt (dW n c l) l k
  rw [dW_eq hk] at hge hgt
  have hsz5 : Sz 23 23 (wstF (dW n c l) l).1 := by rw [hat.2]; exact dW_sz h1 hcl hnl (by omega) _
  have hole := outQ_le (b := k) (g := l - k) (N := n) (C := c) (by omega) (by omega)
  rw [show k + (l - k) = l by omega] at hole
  have hx7 := hat.2
  rw [dW_eq hat.1] at hx7
  have H1 := hide (fun W (hS : Std W) => plOut_any W n c l k h1 hcl hnl hk (by omega) hS)
  have H2 := hide (fun W (hS : Std W) => plAccept_any W n c l k h1 hcl hnl hk (by omega) hS)
  have H3 := hide (fun W => over_any W (k : Int) (l : Int) (by omega) (by omega) (by omega) (by omega) (by omega))
  have H4 := hide (fun W (hS : Std W) => mulS_any W ⟨(RT (accQ k (l - k) n c)).toArray⟩ ⟨(RT (Rat.divInt (k : Int) (l : Int))).toArray⟩ _ _ 23 rfl rfl (by omega) hsz2 hsz3 hS)
  have H5 := hide (fun W (hS : Std W) => worst_any W n c l h1 hcl hnl (by omega) hS)
  have H6 := hide (fun W (hS : Std W) => cmpS_any W ⟨(RT (outQ k (l - k) n c)).toArray⟩ ⟨(RT (accQ k (l - k) n c * Rat.divInt (k : Int) (l : Int))).toArray⟩ _ _ 46 rfl rfl (by omega) (hsz1.mono (by omega) (by omega)) hsz4 hS)
  have H7 := hide (fun W (hS : Std W) => cmpS_any W ⟨(RT (outQ k (l - k) n c)).toArray⟩ ⟨(RT (wstF (dW n c l) l).1).toArray⟩ _ _ 23 rfl rfl (by omega) hsz1 hsz5 hS)
  have H8 := hide (fun W (hS : Std W) => plOut_any W n c l (wstF (dW n c l) l).2 h1 hcl hnl hat.1 (by omega) hS)
  rw [← hx7] at H8
  have s6 := sgn_le (p := outQ k (l - k) n c) (q := accQ k (l - k) n c * Rat.divInt (k : Int) (l : Int)) |>.2 hole
  have s7 := sgn_le (p := outQ k (l - k) n c) (q := (wstF (dW n c l) l).1) |>.2 hge
  have s8 : k < (wstF (dW n c l) l).2 → sgn (outQ k (l - k) n c) (wstF (dW n c l) l).1 < 0 := fun h => sgn_neg.2 (hgt h)
  have hal := hat.1
  clear hs u0 u1 ud u2 hsz1 hsz2 hsz3 hsz4 hsz5 hat hge hgt hole hx7
  unfold RetRat at H1 H2 H4 H8
  obtain ⟨g6, hg6⟩ : ∃ q, sgn (outQ k (l - k) n c) (accQ k (l - k) n c * Rat.divInt (k : Int) (l : Int)) = q := ⟨_, rfl⟩
  rw [hg6] at H6 s6
  clear hg6
  obtain ⟨g7, hg7⟩ : ∃ q, sgn (outQ k (l - k) n c) (wstF (dW n c l) l).1 = q := ⟨_, rfl⟩
  rw [hg7] at H7 s7 s8
  clear hg7
  obtain ⟨q4, hq4⟩ : ∃ q, accQ k (l - k) n c * Rat.divInt (k : Int) (l : Int) = q := ⟨_, rfl⟩
  rw [hq4] at H4 H6
  clear hq4
  obtain ⟨q1, hq1⟩ : ∃ q, outQ k (l - k) n c = q := ⟨_, rfl⟩
  rw [hq1] at H1 H6 H7
  clear hq1
  obtain ⟨q2, hq2⟩ : ∃ q, accQ k (l - k) n c = q := ⟨_, rfl⟩
  rw [hq2] at H2 H4
  clear hq2
  obtain ⟨q3, hq3⟩ : ∃ q, Rat.divInt (k : Int) (l : Int) = q := ⟨_, rfl⟩
  rw [hq3] at H3 H4
  clear hq3
  obtain ⟨q5, hq5⟩ : ∃ q, (wstF (dW n c l) l).1 = q := ⟨_, rfl⟩
  rw [hq5] at H5 H7 H8
  clear hq5
  obtain ⟨at_, hat_⟩ : ∃ q, (wstF (dW n c l) l).2 = q := ⟨_, rfl⟩
  rw [hat_] at H5 H8 s8 hal
  clear hat_
  obtain ⟨l1, hl1⟩ : ∃ d, l + 1 = d := ⟨_, rfl⟩
  rw [hl1] at hwl hl0 hmod
  clear hl1
  have a1 : ¬ ((at_ : Nat) : Int) < 0 := by omega
  have a2 : ¬ (l : Int) < ((at_ : Nat) : Int) := by omega
  have HB := allocs_below w [.cells #[.int .i64 (n : Int), .int .i64 (c : Int)] 23]
  have K_p : Blk (allocs w [.cells #[.int .i64 (n : Int), .int .i64 (c : Int)] 23]) (w.heap.size + 0) 23 #[.int .i64 (n : Int), .int .i64 (c : Int)] := allocs_at w [.cells #[.int .i64 (n : Int), .int .i64 (c : Int)] 23] 0 rfl
  unfold allocs at HB K_p
  simp only [List.foldl_cons, List.foldl_nil] at HB K_p
  rw [Nat.add_zero] at K_p
  go_enter Tryz.func9, Tryz.ntmps9
  go_upto_region 1 with (fail)
  generalize (w.alloc (.cells #[.int .i64 (n : Int), .int .i64 (c : Int)] 23)) = w0 at *
  replace K_p := hide K_p
  replace HB := hide HB
  have p0 := (Blk.cell K_p.out 0).trans (rfl : _ = some (Value.int .i64 (n : Int)))
  have p1 := (Blk.cell K_p.out 1).trans (rfl : _ = some (Value.int .i64 (c : Int)))
  go_wp2_with fail
  refine (HR.out _).mono ?_
  rintro e w1 ⟨rfl, hb⟩
  clear p0 p1
  replace K_p := hide (Blk.below K_p.out hb (Blk.lt K_p.out))
  replace HB := hide (HB.out.trans (hb.mono HB.out.size))
  clear hb
  have p0 := (Blk.cell K_p.out 0).trans (rfl : _ = some (Value.int .i64 (n : Int)))
  have p1 := (Blk.cell K_p.out 1).trans (rfl : _ = some (Value.int .i64 (c : Int)))
  go_wp2_with fail
  refine (HSE.out _).mono ?_
  rintro e w2 ⟨rfl, hb⟩
  clear p0 p1
  replace K_p := hide (Blk.below K_p.out hb (Blk.lt K_p.out))
  replace HB := hide (HB.out.trans (hb.mono HB.out.size))
  clear hb
  go_wp2_with fail
  refine (H1.out _ (HS.out.below HB.out (Nat.le_refl _))).mono ?_
  rintro e w3 ⟨rfl, hb⟩
  replace K_p := hide (Blk.below K_p.out hb (Blk.lt K_p.out))
  replace HB := hide (HB.out.trans (hb.mono HB.out.size))
  clear hb
  have p0 := (Blk.cell K_p.out 0).trans (rfl : _ = some (Value.int .i64 (n : Int)))
  have p1 := (Blk.cell K_p.out 1).trans (rfl : _ = some (Value.int .i64 (c : Int)))
  go_wp2_with fail
  refine (HSE.out _).mono ?_
  rintro e w4 ⟨rfl, hb⟩
  clear p0 p1
  replace K_p := hide (Blk.below K_p.out hb (Blk.lt K_p.out))
  replace HB := hide (HB.out.trans (hb.mono HB.out.size))
  clear hb
  go_wp2_with fail
  refine (H2.out _ (HS.out.below HB.out (Nat.le_refl _))).mono ?_
  rintro e w5 ⟨rfl, hb⟩
  replace K_p := hide (Blk.below K_p.out hb (Blk.lt K_p.out))
  replace HB := hide (HB.out.trans (hb.mono HB.out.size))
  clear hb
  go_wp2_with fail
  refine (H3.out _).mono ?_
  rintro e w6 ⟨rfl, hb⟩
  replace K_p := hide (Blk.below K_p.out hb (Blk.lt K_p.out))
  replace HB := hide (HB.out.trans (hb.mono HB.out.size))
  clear hb
  go_wp2_with fail
  refine (H4.out _ (HS.out.below HB.out (Nat.le_refl _))).mono ?_
  rintro e w7 ⟨rfl, hb⟩
  replace K_p := hide (Blk.below K_p.out hb (Blk.lt K_p.out))
  replace HB := hide (HB.out.trans (hb.mono HB.out.size))
  clear hb
  have p0 := (Blk.cell K_p.out 0).trans (rfl : _ = some (Value.int .i64 (n : Int)))
  have p1 := (Blk.cell K_p.out 1).trans (rfl : _ = some (Value.int .i64 (c : Int)))
  go_wp2_with fail
  refine (HSE.out _).mono ?_
  rintro e w8 ⟨rfl, hb⟩
  clear p0 p1
  replace K_p := hide (Blk.below K_p.out hb (Blk.lt K_p.out))
  replace HB := hide (HB.out.trans (hb.mono HB.out.size))
  clear hb
  go_wp2_with fail
  refine (H5.out _ (HS.out.below HB.out (Nat.le_refl _))).mono ?_
  rintro e w9 ⟨rfl, hb⟩
  replace K_p := hide (Blk.below K_p.out hb (Blk.lt K_p.out))
  replace HB := hide (HB.out.trans (hb.mono HB.out.size))
  clear hb
  go_wp2_with fail
  refine (H6.out _ (HS.out.below HB.out (Nat.le_refl _))).mono ?_
  rintro e w10 ⟨rfl, hb⟩
  replace K_p := hide (Blk.below K_p.out hb (Blk.lt K_p.out))
  replace HB := hide (HB.out.trans (hb.mono HB.out.size))
  clear hb
  go_wp2_with fail
  refine (H7.out _ (HS.out.below HB.out (Nat.le_refl _))).mono ?_
  rintro e w11 ⟨rfl, hb⟩
  replace K_p := hide (Blk.below K_p.out hb (Blk.lt K_p.out))
  replace HB := hide (HB.out.trans (hb.mono HB.out.size))
  clear hb
  have p0 := (Blk.cell K_p.out 0).trans (rfl : _ = some (Value.int .i64 (n : Int)))
  have p1 := (Blk.cell K_p.out 1).trans (rfl : _ = some (Value.int .i64 (c : Int)))
  go_wp2_with fail
  refine (HSE.out _).mono ?_
  rintro e w12 ⟨rfl, hb⟩
  clear p0 p1
  replace K_p := hide (Blk.below K_p.out hb (Blk.lt K_p.out))
  replace HB := hide (HB.out.trans (hb.mono HB.out.size))
  clear hb
  go_wp2_with fail
  refine (H8.out _ (HS.out.below HB.out (Nat.le_refl _))).mono ?_
  rintro e w13 ⟨rfl, hb⟩
  replace K_p := hide (Blk.below K_p.out hb (Blk.lt K_p.out))
  replace HB := hide (HB.out.trans (hb.mono HB.out.size))
  clear hb
  by_cases hlt : at_ ≤ k
  · have a3 : ((at_ : Nat) : Int) ≤ (k : Int) := by omega
    by_cases hs7 : g7 < 0
    · skip
      clear s8 hlt
      go_wp2_with fail
      refine (HA.out _ (HS.out.below HB.out (Nat.le_refl _))).mono ?_
      rintro e wz ⟨rfl, hb⟩
      replace K_p := hide (Blk.below K_p.out hb (Blk.lt K_p.out))
      replace HB := hide (HB.out.trans (hb.mono HB.out.size))
      clear hb
      go_wp2_with fail
      go_ret
      exact ⟨rfl, HB.out⟩
    · skip
      clear s8 hlt
      go_wp2_with fail
      refine (HA.out _ (HS.out.below HB.out (Nat.le_refl _))).mono ?_
      rintro e wz ⟨rfl, hb⟩
      replace K_p := hide (Blk.below K_p.out hb (Blk.lt K_p.out))
      replace HB := hide (HB.out.trans (hb.mono HB.out.size))
      clear hb
      go_wp2_with fail
      go_ret
      exact ⟨rfl, HB.out⟩
  · have hs7 : g7 < 0 := s8 (by omega)
    clear s8 hlt
    go_wp2_with fail
    refine (HA.out _ (HS.out.below HB.out (Nat.le_refl _))).mono ?_
    rintro e wz ⟨rfl, hb⟩
    replace K_p := hide (Blk.below K_p.out hb (Blk.lt K_p.out))
    replace HB := hide (HB.out.trans (hb.mono HB.out.size))
    clear hb
    go_wp2_with fail
    go_ret
    exact ⟨rfl, HB.out⟩


theorem leaves_any (w : World) (N C lot bad : Int) (hr : 0 ≤ bad ∧ bad < 256) (hs : Std w) :
    Calls Tryz.prog 9 #[.agg #[.int .i64 N, .int .i64 C], .int .i64 lot, .int .u8 bad] w fun e w' => e = .returned (.bool true) ∧ Below w.heap.size w w' := by
  rcases hR : rightB N C lot with _ | _
  · exact leav_wrong w N C lot bad hR hs
  · obtain ⟨h1, h2, h3, h4, h5⟩ := rightB_iff.1 hR
    obtain ⟨n, rfl⟩ : ∃ n : Nat, N = (n : Int) := ⟨N.toNat, by omega⟩
    obtain ⟨c, rfl⟩ : ∃ c : Nat, C = (c : Int) := ⟨C.toNat, by omega⟩
    obtain ⟨l, rfl⟩ : ∃ l : Nat, lot = (l : Int) := ⟨lot.toNat, by omega⟩
    obtain ⟨k, hk, hkt⟩ : ∃ k : Nat, k < l + 1 ∧ bad.tmod ((l + 1 : Nat) : Int) = (k : Int) := by
      refine ⟨bad.toNat % (l + 1), Nat.mod_lt _ (by omega), ?_⟩
      rw [Int.tmod_eq_emod_of_nonneg hr.1, Int.natCast_emod, Int.toNat_of_nonneg hr.1]
    exact leav_main w n c l k bad hr.1 hr.2 hkt (by omega) (by omega) (by omega) (by omega) (by omega) hs
end Go.Proofs.YtaccdkbofhlbkaaGreatDoor
