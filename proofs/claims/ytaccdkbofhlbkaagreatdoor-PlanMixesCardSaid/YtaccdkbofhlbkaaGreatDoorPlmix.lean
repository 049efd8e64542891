/- PlanMixes: the probability for a process is the mean of those of the lots that it makes. -/
import Derived.Test.YtaccdkbofhlbkaaGreatDoorPlopp
import Derived.Test.YtaccdkbofhlbkaaGreatDoorPlfall
import Derived.Test.YtaccdkbofhlbkaaGreatDoorRtri
import Derived.Test.YtaccdkbofhlbkaaGreatDoorRrck
namespace Go.Proofs.YtaccdkbofhlbkaaGreatDoor
open Go.RowKit Go.Shelf MLab

def tmN (n N C : Nat) (L : List (Nat × Nat)) : Nat := (L.map fun p => p.2 * accN p.1 (n - p.1) N C).sum
theorem tmN_snoc (n N C : Nat) (L : List (Nat × Nat)) (p : Nat × Nat) : tmN n N C (L ++ [p]) = tmN n N C L + p.2 * accN p.1 (n - p.1) N C := by simp [tmN]
theorem tmN_take (n N C : Nat) (L : List (Nat × Nat)) (j : Nat) : tmN n N C (L.take j) ≤ tmN n N C L := by
  have h : tmN n N C (L.take j ++ L.drop j) = tmN n N C (L.take j) + tmN n N C (L.drop j) := by unfold tmN; rw [List.map_append, List.sum_append]
  rw [List.take_append_drop] at h
  omega
theorem tmN_trL (n x y N C : Nat) : ∀ m, tmN n N C (trL n x y m) = sumN (fun k => trW n x y k * accN k (n - k) N C) m
  | 0 => rfl
  | m + 1 => by
    rw [sumN_succ, ← tmN_trL n x y N C m, trL]
    split
    · rename_i h
      rw [List.append_nil, h, Nat.zero_mul, Nat.add_zero]
    · rw [tmN_snoc]
theorem wsum_trL (n x y : Nat) : ∀ m, wsum (trL n x y m) = sumN (trW n x y) m
  | 0 => rfl
  | m + 1 => by
    rw [sumN_succ, ← wsum_trL n x y m, trL]
    split
    · rename_i h
      rw [List.append_nil, h, Nat.add_zero]
    · rw [wsum_snoc]
theorem wsum_all (n x y : Nat) : wsum (trL n x y (n + 1)) = (x + y) ^ n := by
  rw [wsum_trL, ← proN_all]; rfl
theorem tmN_all {n x y N C : Nat} (hC : C ≤ N) (hN : N ≤ n) : tmN n N C (trL n x y (n + 1)) = bin n N * ((x + y) ^ (n - N) * proN x y N C) := by
  rw [tmN_trL]
  have h := mix_acc x y n N C hC hN
  rw [mixN_sum] at h
  exact h
theorem tmN_le {n x y N C : Nat} (hC : C ≤ N) (hN : N ≤ n) : tmN n N C (trL n x y (n + 1)) ≤ (x + y) ^ n * bin n N := by
  rw [tmN_all hC hN, Nat.mul_comm]
  refine Nat.mul_le_mul_right _ ?_
  have h := Nat.mul_le_mul_left ((x + y) ^ (n - N)) (proN_lt (x := x) (y := y) hC)
  rwa [← Nat.pow_add, show n - N + N = n by omega] at h
theorem divi_plus {a b c : Int} (hc : c ≠ 0) : Rat.divInt a c + Rat.divInt b c = Rat.divInt (a + b) c := by
  rw [Rat.divInt_eq_div, Rat.divInt_eq_div, Rat.divInt_eq_div]
  have hc' : (c : Rat) ≠ 0 := by simpa using hc
  push_cast
  grind
/-- The mean over the first lots. -/
def psQ (n x y N C : Nat) (L : List (Nat × Nat)) : Rat := Rat.divInt (tmN n N C L : Int) (((x + y) ^ n * bin n N : Nat) : Int)
theorem psQ_step {n x y N C : Nat} {L : List (Nat × Nat)} {p : Nat × Nat} (h0 : 0 < x + y) (hN : N ≤ n) (hp : p.1 ≤ n) :
    psQ n x y N C L + Rat.divInt (p.2 : Int) (((x + y) ^ n : Nat) : Int) * dC N C n p.1 = psQ n x y N C (L ++ [p]) := by
  have h1 : 0 < (x + y) ^ n * bin n N := Nat.mul_pos (Nat.pow_pos h0) (bin_pos hN)
  unfold psQ dC accQ
  rw [Rat.divInt_mul_divInt, show p.1 + (n - p.1) = n by omega, ← Int.natCast_mul, ← Int.natCast_mul, divi_plus (by omega), tmN_snoc, Int.natCast_add]
theorem psQ_all {n x y N C : Nat} (h0 : 0 < x + y) (hC : C ≤ N) (hN : N ≤ n) : psQ n x y N C (trL n x y (n + 1)) = proQ x y N C := by
  unfold psQ proQ
  rw [tmN_all hC hN]
  have h1 : (((x + y) ^ (n - N) * bin n N : Nat) : Int) ≠ 0 := by
    have := Nat.mul_pos (Nat.pow_pos (n := n - N) h0) (bin_pos hN); omega
  rw [show bin n N * ((x + y) ^ (n - N) * proN x y N C) = ((x + y) ^ (n - N) * bin n N) * proN x y N C by grind,
    show (x + y) ^ n * bin n N = ((x + y) ^ (n - N) * bin n N) * (x + y) ^ N by
      rw [Nat.mul_right_comm, ← Nat.pow_add, show n - N + N = n by omega], Int.natCast_mul, Int.natCast_mul ((x + y) ^ (n - N) * bin n N)]
  exact Rat.divInt_mul_left h1
theorem psQ_sz {n x y N C : Nat} (h0 : 0 < x + y) (h4 : x + y ≤ 4) (hn : n ≤ 12) (hC : C ≤ N) (hN : N ≤ n) (j : Nat) : Sz 61 61 (psQ n x y N C ((trL n x y (n + 1)).take j)) := by
  have h1 := tmN_take n N C (trL n x y (n + 1)) j
  have h2 := tmN_le (x := x) (y := y) hC hN
  have h3 : (x + y) ^ n ≤ 4 ^ 12 := Nat.le_trans (Nat.pow_le_pow_left h4 n) (Nat.pow_le_pow_right (by omega) hn)
  have h5 := bin_le_pow n N
  have h6 : 2 ^ n ≤ 2 ^ 12 := Nat.pow_le_pow_right (by omega) hn
  have h7 : (x + y) ^ n * bin n N ≤ 4 ^ 12 * 2 ^ 12 := Nat.mul_le_mul h3 (by omega)
  have h8 : 0 < (x + y) ^ n * bin n N := Nat.mul_pos (Nat.pow_pos h0) (bin_pos hN)
  have h9 : (4 : Nat) ^ 12 * 2 ^ 12 ≤ 10 ^ 30 := by decide
  have h10 : (10 : Nat) ^ 30 < 10 ^ 61 := Nat.pow_lt_pow_right (by omega) (by omega)
  exact divi_sz (by omega) (by omega) (by omega)
theorem frac4 {x : Nat} (h : x < 5) : ∃ a b k : Nat, 0 < k ∧ (Rat.divInt (x : Int) 4).num = (a : Int) ∧ (Rat.divInt (x : Int) 4).den = a + b ∧ x = k * a ∧ 4 - x = k * b := by
  match x, h with
  | 0, _ => exact ⟨0, 1, 4, by decide, by decide, by decide, by decide, by decide⟩
  | 1, _ => exact ⟨1, 3, 1, by decide, by decide, by decide, by decide, by decide⟩
  | 2, _ => exact ⟨1, 1, 2, by decide, by decide, by decide, by decide, by decide⟩
  | 3, _ => exact ⟨3, 1, 1, by decide, by decide, by decide, by decide, by decide⟩
  | 4, _ => exact ⟨1, 0, 4, by decide, by decide, by decide, by decide, by decide⟩
  | n + 5, h => omega

set_option maxRecDepth 100000 in
set_option maxHeartbeats 2000000 in
theorem mix_wrong (w : World) (N C lot num : Int) (h : rightB N C lot = false) (hs : Std w) :
    Calls Tryz.prog 8 #[.agg #[.int .i64 N, .int .i64 C], .int .i64 lot, .int .u8 num] w fun e w' => e = .returned (.bool true) ∧ Below w.heap.size w w' := by
  have HS := hide hs
  have HR := hide (fun W => right54_any W N C lot)
  rw [h] at HR
  have HA := hide (fun W (hS : Std W) => awake54_any W hS)
  clear hs h
  have HB := allocs_below w [.cells #[.int .i64 N, .int .i64 C] 23]
  have K_p : Blk (allocs w [.cells #[.int .i64 N, .int .i64 C] 23]) (w.heap.size + 0) 23 #[.int .i64 N, .int .i64 C] := allocs_at w [.cells #[.int .i64 N, .int .i64 C] 23] 0 rfl
  unfold allocs at HB K_p
  simp only [List.foldl_cons, List.foldl_nil] at HB K_p
  rw [Nat.add_zero] at K_p
  go_enter Tryz.func8, Tryz.ntmps8
  go_upto_region 1 with (fail)
  generalize (w.alloc (.cells #[.int .i64 N, .int .i64 C] 23)) = w0 at *
  replace K_p := hide K_p
  replace HB := hide HB
  have p0 := (Blk.cell K_p.out 0).trans (rfl : _ = some (Value.int .i64 N))
  have p1 := (Blk.cell K_p.out 1).trans (rfl : _ = some (Value.int .i64 C))
  go_wp2_with fail
  refine (HR.out _).mono ?_
  rintro e w1 ⟨rfl, hb⟩
  clear p0 p1
  replace K_p := hide (Blk.below K_p.out hb (Blk.lt K_p.out))
  replace HB := hide (HB.out.trans (hb.mono HB.out.size))
  clear hb
  go_wp2_with fail
  refine (HA.out _ (HS.out.below HB.out (Nat.le_refl _))).mono ?_
  rintro e w2 ⟨rfl, hb⟩
  replace K_p := hide (Blk.below K_p.out hb (Blk.lt K_p.out))
  replace HB := hide (HB.out.trans (hb.mono HB.out.size))
  clear hb
  go_wp2_with fail
  go_ret
  exact ⟨rfl, HB.out⟩

set_option maxRecDepth 100000 in
set_option maxHeartbeats 2000000 in
theorem mix_many (w : World) (N C lot num : Int) (h : rightB N C lot = true) (h12 : 12 < lot) (hs : Std w) :
    Calls Tryz.prog 8 #[.agg #[.int .i64 N, .int .i64 C], .int .i64 lot, .int .u8 num] w fun e w' => e = .returned (.bool true) ∧ Below w.heap.size w w' := by
  have HS := hide hs
  have HR := hide (fun W => right54_any W N C lot)
  rw [h] at HR
  have HA := hide (fun W (hS : Std W) => awake54_any W hS)
  clear hs h
  have HB := allocs_below w [.cells #[.int .i64 N, .int .i64 C] 23]
  have K_p : Blk (allocs w [.cells #[.int .i64 N, .int .i64 C] 23]) (w.heap.size + 0) 23 #[.int .i64 N, .int .i64 C] := allocs_at w [.cells #[.int .i64 N, .int .i64 C] 23] 0 rfl
  unfold allocs at HB K_p
  simp only [List.foldl_cons, List.foldl_nil] at HB K_p
  rw [Nat.add_zero] at K_p
  go_enter Tryz.func8, Tryz.ntmps8
  go_upto_region 1 with (fail)
  generalize (w.alloc (.cells #[.int .i64 N, .int .i64 C] 23)) = w0 at *
  replace K_p := hide K_p
  replace HB := hide HB
  have p0 := (Blk.cell K_p.out 0).trans (rfl : _ = some (Value.int .i64 N))
  have p1 := (Blk.cell K_p.out 1).trans (rfl : _ = some (Value.int .i64 C))
  go_wp2_with fail
  refine (HR.out _).mono ?_
  rintro e w1 ⟨rfl, hb⟩
  clear p0 p1
  replace K_p := hide (Blk.below K_p.out hb (Blk.lt K_p.out))
  replace HB := hide (HB.out.trans (hb.mono HB.out.size))
  clear hb
  go_wp2_with fail
  refine (HA.out _ (HS.out.below HB.out (Nat.le_refl _))).mono ?_
  rintro e w2 ⟨rfl, hb⟩
  replace K_p := hide (Blk.below K_p.out hb (Blk.lt K_p.out))
  replace HB := hide (HB.out.trans (hb.mono HB.out.size))
  clear hb
  go_wp2_with fail
  go_ret
  exact ⟨rfl, HB.out⟩

set_option maxRecDepth 100000 in
set_option maxHeartbeats 8000000 in
theorem mix_main (w : World) (n c l x : Nat) (num : Int) (hx : num.tmod 5 = (x : Int)) (hx5 : x < 5) (h1 : 1 ≤ n) (hcl : c ≤ n) (hnl : n ≤ l) (h12 : l ≤ 12) (hs : Std w) :
    Calls Tryz.prog 8 #[.agg #[.int .i64 (n : Int), .int .i64 (c : Int)], .int .i64 (l : Int), .int .u8 num] w fun e w' => e = .returned (.bool true) ∧ Below w.heap.size w w' := by
  have HS := hide hs
  have HR := hide (fun W => right54_any W (n : Int) (c : Int) (l : Int))
  rw [rightB_iff.2 (by omega)] at HR
  have HA := hide (fun W (hS : Std W) => awake54_any W hS)
  have HSE := hide (fun W => sent_any W (n : Int) (c : Int))
  have hl12 : ¬ (12 : Int) < (l : Int) := by omega
  have hwl : IntKind.i64.wrap ((l : Int) + 1) = ((l + 1 : Nat) : Int) := (IntWalk.i64_in _ (by omega)).trans (by omega)
  have hwx : IntKind.i64.wrap (x : Int) = (x : Int) := IntWalk.i64_in _ (by omega)
  have hwu : IntKind.u8.wrap (x : Int) = (x : Int) := by simp only [IntKind.wrap, IntKind.signed, IntKind.bits]; simp; omega
  have hxy : x + (4 - x) = 4 := by omega
  obtain ⟨y, hy⟩ : ∃ y, 4 - x = y := ⟨_, rfl⟩
  rw [hy] at hxy
  have H1 := hide (fun W (hS : Std W) => curve_any W n c l h1 hcl hnl (by omega) hS)
  have HO := hide (fun W => over_any W (x : Int) 4 (by omega) (by omega) (by omega) (by omega) (by omega))
  obtain ⟨a, b, k, hk, hq1, hq2, hxa, hyb⟩ := frac4 (x := x) (by omega)
  rw [hy] at hyb
  have hab : a + b ≤ 10 ^ 1 := by
    have h2 : x + y = k * (a + b) := by rw [hxa, hyb, Nat.mul_add]
    have h3 : a + b ≤ k * (a + b) := Nat.le_mul_of_pos_left _ hk
    omega
  have HP := hide (fun W (hS : Std W) => plBin_any W n c a b 1 ⟨(RT (Rat.divInt (x : Int) 4)).toArray⟩ (Rat.divInt (x : Int) 4) rfl hq1 hq2 hab (by omega) h1 hcl (by omega) hS)
  have hpr : proQ a b n c = proQ x y n c := by
    have h := proQ_scale (k := k) (x := a) (y := b) (N := n) (C := c) hk hcl
    rw [← hxa, ← hyb] at h
    exact h.symm
  rw [hpr, ← psQ_all (by omega) hcl hnl] at HP
  unfold RetRat at HP
  have HT := hide (fun W => rtrials_any W l x y (by omega) (by omega) (by omega))
  rw [hxy] at HT
  have hTL := trL_len l x y (l + 1)
  have hws : wsum (trL l x y (l + 1)) = (x + y) ^ l := wsum_all l x y
  rw [hxy] at hws
  have hmem : ∀ p ∈ trL l x y (l + 1), p.1 ≤ l ∧ p.2 ≤ 10 ^ 30 := fun p hp => by
    obtain ⟨m1, m2, m3⟩ := trL_mem hp
    obtain ⟨t1, t2, t3, t4⟩ := trW_le (n := l) (x := x) (y := y) (k := p.1) (by omega) (by omega) (by omega) (by omega)
    refine ⟨by omega, ?_⟩
    rw [m2]
    have h1 := Nat.mul_le_mul t4 t3
    have h2 : (4096 : Nat) * 10 ^ 24 ≤ 10 ^ 30 := by decide
    exact Nat.le_trans h1 h2
  have hps : ∀ j, Sz 61 61 (psQ l x y n c ((trL l x y (l + 1)).take j)) := fun j => psQ_sz (by omega) (by omega) (by omega) hcl hnl j
  have hst : ∀ (L : List (Nat × Nat)) (p : Nat × Nat), p.1 ≤ l → psQ l x y n c L + Rat.divInt (p.2 : Int) ((4 ^ l : Nat) : Int) * dC n c l p.1 = psQ l x y n c (L ++ [p]) := fun L p hp => by
    have h := psQ_step (n := l) (x := x) (y := y) (N := n) (C := c) (L := L) (p := p) (by omega) hnl hp
    rwa [hxy] at h
  have z1 : ∀ i, i ≤ l → Sz 21 21 (dC n c l i) := fun i hi => by unfold dC; exact accQ_sz hcl (by omega) (by omega) (by omega)
  have h4l : 0 < 4 ^ l ∧ 4 ^ l ≤ 10 ^ 30 := by
    have h1 : 4 ^ l ≤ 4 ^ 12 := Nat.pow_le_pow_right (by omega) (by omega)
    have h2 : (4 : Nat) ^ 12 ≤ 10 ^ 30 := by decide
    exact ⟨Nat.pow_pos (by omega), Nat.le_trans h1 h2⟩
  obtain ⟨Q, hQ⟩ : ∃ Q, psQ l x y n c = Q := ⟨_, rfl⟩
  rw [hQ] at HP hst hps
  have hQ0 : Q [] = 0 := by rw [← hQ]; unfold psQ; show Rat.divInt 0 _ = 0; exact Rat.zero_divInt _
  obtain ⟨D, hD⟩ : ∃ D, dC n c l = D := ⟨_, rfl⟩
  rw [hD] at H1 hst z1
  obtain ⟨F, hF⟩ : ∃ F, 4 ^ l = F := ⟨_, rfl⟩
  rw [hF] at hst hws h4l
  obtain ⟨l1, hl1⟩ : ∃ d, l + 1 = d := ⟨_, rfl⟩
  rw [hl1] at hwl H1 HP HT hTL hws hmem hps
  obtain ⟨L, hL⟩ : ∃ L, trL l x y l1 = L := ⟨_, rfl⟩
  rw [hL] at HP HT hTL hws hmem hps
  obtain ⟨fr, hfr⟩ : ∃ fr, Rat.divInt (x : Int) 4 = fr := ⟨_, rfl⟩
  rw [hfr] at HO HP
  have HPS := hide hps
  have HST := hide hst
  have HMEM := hide hmem
  have HZ := hide z1
  have HWS := hide hws
  have HF4 := hide h4l
  have HQ0 := hide hQ0
  have HL1 := hide hl1
  have hl1p : 0 < l1 := by omega
  have hTL13 : L.length ≤ 13 := by omega
  clear hs hy hk hq1 hq2 hxa hyb hab hpr hTL hws hmem hps hst z1 h4l hQ hQ0 hD hF hL hfr hxy hl1
  have HB := allocs_below w [.cells #[.int .i64 (n : Int), .int .i64 (c : Int)] 23]
  have K_p : Blk (allocs w [.cells #[.int .i64 (n : Int), .int .i64 (c : Int)] 23]) (w.heap.size + 0) 23 #[.int .i64 (n : Int), .int .i64 (c : Int)] := allocs_at w [.cells #[.int .i64 (n : Int), .int .i64 (c : Int)] 23] 0 rfl
  unfold allocs at HB K_p
  simp only [List.foldl_cons, List.foldl_nil] at HB K_p
  rw [Nat.add_zero] at K_p
  go_enter Tryz.func8, Tryz.ntmps8
  go_upto_region 1 with (fail)
  generalize (w.alloc (.cells #[.int .i64 (n : Int), .int .i64 (c : Int)] 23)) = w0 at *
  replace K_p := hide K_p
  replace HB := hide HB
  have p0 := (Blk.cell K_p.out 0).trans (rfl : _ = some (Value.int .i64 (n : Int)))
  have p1 := (Blk.cell K_p.out 1).trans (rfl : _ = some (Value.int .i64 (c : Int)))
  go_wp2_with fail
  refine (HR.out _).mono ?_
  rintro e w1 ⟨rfl, hb⟩
  clear p0 p1
  replace K_p := hide (Blk.below K_p.out hb (Blk.lt K_p.out))
  replace HB := hide (HB.out.trans (hb.mono HB.out.size))
  clear hb
  have p0 := (Blk.cell K_p.out 0).trans (rfl : _ = some (Value.int .i64 (n : Int)))
  have p1 := (Blk.cell K_p.out 1).trans (rfl : _ = some (Value.int .i64 (c : Int)))
  go_wp2_with fail
  refine (HSE.out _).mono ?_
  rintro e w2 ⟨rfl, hb⟩
  clear p0 p1
  replace K_p := hide (Blk.below K_p.out hb (Blk.lt K_p.out))
  replace HB := hide (HB.out.trans (hb.mono HB.out.size))
  clear hb
  go_wp2_with fail
  refine (H1.out _ (HS.out.below HB.out (Nat.le_refl _))).mono ?_
  rintro e wc ⟨v1, rfl, hst1, hb⟩
  obtain ⟨b1, o1, k1, rfl, hx1⟩ := curve_shape hl1p hst1
  have X1 := hide hx1
  clear hx1 hst1
  replace K_p := hide (Blk.below K_p.out hb (Blk.lt K_p.out))
  replace HB := hide (HB.out.trans (hb.mono HB.out.size))
  clear hb
  have p0 := (Blk.cell K_p.out 0).trans (rfl : _ = some (Value.int .i64 (n : Int)))
  have p1 := (Blk.cell K_p.out 1).trans (rfl : _ = some (Value.int .i64 (c : Int)))
  go_wp2_with fail
  refine (HSE.out _).mono ?_
  rintro e wd ⟨rfl, hb⟩
  replace X1 := hide (fun i hi => (bcell hb _ _ (block_lt_of_cell (X1.out i hi))).trans (X1.out i hi))
  clear p0 p1
  replace K_p := hide (Blk.below K_p.out hb (Blk.lt K_p.out))
  replace HB := hide (HB.out.trans (hb.mono HB.out.size))
  clear hb
  go_wp2_with fail
  refine (HO.out _).mono ?_
  rintro e we ⟨rfl, hb⟩
  replace X1 := hide (fun i hi => (bcell hb _ _ (block_lt_of_cell (X1.out i hi))).trans (X1.out i hi))
  replace K_p := hide (Blk.below K_p.out hb (Blk.lt K_p.out))
  replace HB := hide (HB.out.trans (hb.mono HB.out.size))
  clear hb
  go_wp2_with fail
  refine (HP.out _ (HS.out.below HB.out (Nat.le_refl _))).mono ?_
  rintro e wf ⟨rfl, hb⟩
  replace X1 := hide (fun i hi => (bcell hb _ _ (block_lt_of_cell (X1.out i hi))).trans (X1.out i hi))
  replace K_p := hide (Blk.below K_p.out hb (Blk.lt K_p.out))
  replace HB := hide (HB.out.trans (hb.mono HB.out.size))
  clear hb
  go_upto_region 8 with (fail)
  go_wp2_with fail
  refine (HT.out _).mono ?_
  rintro e wg ⟨vd, rfl, hwt, hb⟩
  replace X1 := hide (fun i hi => (bcell hb _ _ (block_lt_of_cell (X1.out i hi))).trans (X1.out i hi))
  have HV := hide hwt
  obtain ⟨A, cd, rfl, hc⟩ := hwt
  have HC := hide hc
  clear hc
  replace K_p := hide (Blk.below K_p.out hb (Blk.lt K_p.out))
  replace HB := hide (HB.out.trans (hb.mono HB.out.size))
  clear hb
  go_wp2_with fail
  have HB3 := HB
  go_loopg [11, 60] L.length (fun z ov iv wr => ∃ j : Nat, iv = .int .i64 (j : Int) ∧ z + j = L.length ∧ ov = .string ⟨(RT (Q (L.take j))).toArray⟩ ∧ Below wg.heap.size wg wr)
  case atStart => exact ⟨0, rfl, rfl, by rw [List.take_zero, HQ0.out, RT_zero], Below.refl _ _⟩
  case round =>
    obtain ⟨j, rfl, hq, rfl, hb⟩ := hrel
    have HQ := hide hq
    have HBL := hide hb
    have hjL : j ≤ L.length := by omega
    replace HB := hide (HB3.out.trans (hb.mono HB3.out.size))
    clear hq hb
    by_cases hlt : j < L.length
    · have hji : (j : Int) < (L.length : Int) := by omega
      have hj0 : (0 : Int) ≤ (j : Int) := by omega
      obtain ⟨p, hp⟩ : ∃ p, L[j]? = some p := ⟨_, List.getElem?_eq_getElem hlt⟩
      obtain ⟨g, rfl, c1, c2⟩ := HC.out j p hp
      obtain ⟨m1, m2⟩ := HMEM.out p (List.mem_of_getElem? hp)
      have HTK := hide (show Q (L.take j) + Rat.divInt (p.2 : Int) (F : Int) * D p.1 = Q (L.take (j + 1)) by
        rw [HST.out _ _ m1, List.take_add_one, hp]; rfl)
      have hw1 : IntKind.i64.wrap ((j : Int) + 1) = ((j + 1 : Nat) : Int) := (IntWalk.i64_in _ (by omega)).trans (by omega)
      have y1 := (bcell HBL.out _ _ (block_lt_of_cell c1)).trans c1
      have hx0 := X1.out p.1 (by have := HL1.out; omega)
      have y2 := (bcell HBL.out _ _ (block_lt_of_cell hx0)).trans hx0
      have hzD := HZ.out p.1 m1
      have hsP := HPS.out j
      have hsP1 := HPS.out (j + 1)
      have hdz := divi_sz (a := p.2) (b := F) (m := 61) (by have := HF4.out.1; omega) (Nat.lt_of_le_of_lt m2 (Nat.pow_lt_pow_right (by omega) (by omega))) (Nat.le_trans HF4.out.2 (Nat.pow_le_pow_right (by omega) (by omega)))
      have hpr := (Sz.mul hdz (hzD.mono (c := 61) (d := 61) (by omega) (by omega)))
      have HCK := hide (fun W => rrcheck_any W ⟨(RT (D p.1)).toArray⟩ _ rfl (Nat.le_trans (RT_size (m := 61) (by omega) rfl (hzD.mono (by omega) (by omega))) (by omega)))
      rw [show chkR (⟨(RT (D p.1)).toArray⟩ : ByteArray).data.toList = 0 from chkR_RT (hzD.fit (by omega) (by omega))] at HCK
      have HCH := hide (fun (W : World) (h : WtL W (.slice (some ⟨g, 0, none⟩) L.length cd) L) => chance26_any W _ L j p h (fun p hp => (HMEM.out p hp).2) (by omega) hp (by have := HF4.out.1; have := HWS.out; omega))
      rw [HWS.out] at HCH
      have HTI := hide (fun W => rqtimes_any W ⟨(RT (Rat.divInt (p.2 : Int) (F : Int))).toArray⟩ ⟨(RT (D p.1)).toArray⟩ _ _ rfl rfl (m := 61) (by omega) hdz (hzD.mono (by omega) (by omega)))
      have HPL := hide (fun W => rqplus_any W ⟨(RT (Q (L.take j))).toArray⟩ ⟨(RT (Rat.divInt (p.2 : Int) (F : Int) * D p.1)).toArray⟩ _ _ rfl rfl (m := 122) (by omega) (hsP.mono (by omega) (by omega)) (hpr.mono (by omega) (by omega)))
      rw [HTK.out] at HPL
      have hp0 : (0 : Int) ≤ (p.1 : Int) := by omega
      have hp1 : (p.1 : Int) < (l1 : Int) := by have := HL1.out; omega
      obtain ⟨i, hi⟩ : ∃ i, p.1 = i := ⟨_, rfl⟩
      rw [hi] at y1 y2 HCK HTI HPL hp0 hp1
      obtain ⟨q1, hq1⟩ : ∃ q, Rat.divInt (p.2 : Int) (F : Int) = q := ⟨_, rfl⟩
      rw [hq1] at HCH HTI HPL
      obtain ⟨q2, hq2⟩ : ∃ q, D i = q := ⟨_, rfl⟩
      rw [hq2] at y2 HCK HTI HPL
      obtain ⟨q3, hq3⟩ : ∃ q, q1 * q2 = q := ⟨_, rfl⟩
      rw [hq3] at HTI HPL
      obtain ⟨q4, hq4⟩ : ∃ q, Q (L.take j) = q := ⟨_, rfl⟩
      rw [hq4] at HPL ⊢
      have HV2 := hide (HV.out.below HBL.out)
      clear hp c1 c2 m1 m2 hx0 hzD hsP hsP1 hdz hpr hi hq1 hq2 hq3 hq4 HTK
      obtain ⟨M, hM⟩ : ∃ M, L.length = M := ⟨_, rfl⟩
      rw [hM] at hji HCH HV2 ⊢
      go_wp2_with fail
      refine (HCK.out _).mono ?_
      rintro e w7 ⟨rfl, hb⟩
      have x1 := (bcell hb _ _ (block_lt_of_cell y1)).trans y1
      have x2 := (bcell hb _ _ (block_lt_of_cell y2)).trans y2
      have HX := hide (HBL.out.trans (hb.mono HBL.out.size))
      have HV3 := hide (HV2.out.below hb)
      clear hb y1 y2
      have SK : ∀ w', Below w7.heap.size w7 w' → Below w7.heap.size w7 w' ∧ w'.cell? ⟨g, j * 2, none⟩ = some (.int .i64 (i : Int)) ∧ w'.cell? ⟨b1, o1 + i, none⟩ = some (.string ⟨(RT q2).toArray⟩) := fun w' h => ⟨h, (bcell h _ _ (block_lt_of_cell x1)).trans x1, (bcell h _ _ (block_lt_of_cell x2)).trans x2⟩
      have SV : ∀ {R : Prop} {W : World}, Below w7.heap.size w7 W ∧ R → WtL W (.slice (some ⟨g, 0, none⟩) M cd) L := fun h => HV3.out.below h.1
      go_upto_region 14 with (fail)
      go_region_held3 (fun w' => Below w7.heap.size w7 w' ∧ w'.cell? ⟨g, j * 2, none⟩ = some (.int .i64 (i : Int)) ∧ w'.cell? ⟨b1, o1 + i, none⟩ = some (.string ⟨(RT q2).toArray⟩)) (first | exact SK _ (Below.refl _ _).drew | exact SK _ (Below.refl _ _) | exact SK _ (bel_next (by assumption) (by assumption) (Nat.le_refl _)))
        (first
          | (go_at_call 36; refine (HCH.out _ (SV (by assumption))).mono ?_; rintro e wx ⟨rfl, hbW⟩)
          | (go_at_call 35; refine (HTI.out _).mono ?_; rintro e wx ⟨rfl, hbW⟩)
          | (go_at_call 34; refine (HPL.out _).mono ?_; rintro e wx ⟨rfl, hbW⟩))
      obtain ⟨hbx, _⟩ : Below w7.heap.size w7 _ ∧ _ := by assumption
      have HY := hide (HX.out.trans (hbx.mono HX.out.size))
      clear hbx SK SV x1 x2
      go_wp2_with fail
      subst hM
      go_roundg (gk - 1)
      case measure => have := HQ.out; omega
      case rel => exact ⟨j + 1, by go_num, by have := HQ.out; omega, rfl, HY.out⟩
    · have hji : ¬ (j : Int) < (L.length : Int) := by omega
      have hjL2 : j = L.length := by omega
      subst hjL2
      rw [List.take_length]
      go_wp2_with fail
      refine (HA.out _ (HS.out.below HB.out (Nat.le_refl _))).mono ?_
      rintro e wz ⟨rfl, hb⟩
      replace HB := hide (HB.out.trans (hb.mono HB.out.size))
      clear hb
      go_wp2_with fail
      go_ret
      exact ⟨rfl, HB.out⟩


theorem mixes_any (w : World) (N C lot num : Int) (hr : 0 ≤ num ∧ num < 256) (hs : Std w) :
    Calls Tryz.prog 8 #[.agg #[.int .i64 N, .int .i64 C], .int .i64 lot, .int .u8 num] w fun e w' => e = .returned (.bool true) ∧ Below w.heap.size w w' := by
  rcases hR : rightB N C lot with _ | _
  · exact mix_wrong w N C lot num hR hs
  · by_cases h12 : 12 < lot
    · exact mix_many w N C lot num hR h12 hs
    · obtain ⟨h1, h2, h3, h4, h5⟩ := rightB_iff.1 hR
      obtain ⟨n, rfl⟩ : ∃ n : Nat, N = (n : Int) := ⟨N.toNat, by omega⟩
      obtain ⟨c, rfl⟩ : ∃ c : Nat, C = (c : Int) := ⟨C.toNat, by omega⟩
      obtain ⟨l, rfl⟩ : ∃ l : Nat, lot = (l : Int) := ⟨lot.toNat, by omega⟩
      have t1 := Int.tmod_nonneg 5 hr.1
      have t2 := Int.tmod_lt_of_pos num (b := 5) (by omega)
      obtain ⟨x, hx⟩ : ∃ x : Nat, num.tmod 5 = (x : Int) := ⟨(num.tmod 5).toNat, by omega⟩
      exact mix_main w n c l x num hx (by omega) (by omega) (by omega) (by omega) (by omega) hs
end Go.Proofs.YtaccdkbofhlbkaaGreatDoor
