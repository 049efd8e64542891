/- PlanOpposites: accepting few bad parts and accepting few good ones are opposite events. -/
import Derived.Test.YtaccdkbofhlbkaaGreatDoorPlawake
namespace Go.Proofs.YtaccdkbofhlbkaaGreatDoor
open Go.RowKit Go.Shelf MLab

theorem over_any (w : World) (a b : Int) (h0 : -9223372036854775808 ≤ a) (h1 : a ≤ 9223372036854775807) (h2 : -9223372036854775808 ≤ b) (h3 : b ≤ 9223372036854775807) (hb : b ≠ 0) :
    Calls Tryz.prog 26 #[.int .i64 a, .int .i64 b] w fun e w' => e = .returned (.string ⟨(RT (Rat.divInt a b)).toArray⟩) ∧ Below w.heap.size w w' := by
  have hla := T_len19 h0 h1
  have hlb := T_len19 h2 h3
  have C1 := hide (fun W => rof_any a h0 h1 W)
  have C2 := hide (fun W => rof_any b h2 h3 W)
  have C3 := hide (fun W => rlowest_any W ⟨(T a).toArray⟩ ⟨(T b).toArray⟩ a b (rtwo_of (k := 20) (l := 20) (by omega) (by omega) (by omega) (by omega)) hb (by rw [Lib.size_eq]; show (T a).length ≤ 200000; omega) (by rw [Lib.size_eq]; show (T b).length ≤ 200000; omega))
  have HB := hide (Below.refl w.heap.size w)
  clear h0 h1 h2 h3 hb hla hlb
  go_enter Tryz.func26, Tryz.ntmps26
  go_wp2_with fail
  refine (C1.out _).mono ?_
  rintro e w1 ⟨rfl, hb⟩
  replace HB := hide (HB.out.trans (hb.mono HB.out.size))
  clear hb
  go_wp2_with fail
  refine (C2.out _).mono ?_
  rintro e w2 ⟨rfl, hb⟩
  replace HB := hide (HB.out.trans (hb.mono HB.out.size))
  clear hb
  go_wp2_with fail
  refine (C3.out _).mono ?_
  rintro e w3 ⟨rfl, hb⟩
  replace HB := hide (HB.out.trans (hb.mono HB.out.size))
  clear hb
  go_wp2_with fail
  go_ret
  exact ⟨rfl, HB.out⟩
/-- A fraction of parts of a lot. -/
theorem frac_parts {k l : Nat} (h : k ≤ l) (hl : 0 < l) : 0 ≤ Rat.divInt (k : Int) (l : Int) ∧ Rat.divInt (k : Int) (l : Int) ≤ 1 ∧ (Rat.divInt (k : Int) (l : Int)).den ≤ l ∧ Rat.divInt ((l - k : Nat) : Int) (l : Int) = 1 - Rat.divInt (k : Int) (l : Int) := by
  refine ⟨Rat.divInt_nonneg (by omega) (by omega), ?_, ?_, ?_⟩
  · rw [← divi_one (c := (l : Int)) (by omega)]
    exact divi_le (by omega) (by omega)
  · have := (low_le (k : Int) (y := (l : Int)) (by omega)).2
    simpa using this
  · have h1 := divi_add (a := ((l - k : Nat) : Int)) (b := (k : Int)) (c := (l : Int)) (by omega) (by omega)
    grind
theorem proQ_sz {x y N C d m : Nat} (hxy : x + y ≤ 10 ^ d) (h0 : 0 < x + y) (hC : C ≤ N) (hm : d * N + 1 ≤ m) : Sz m m (proQ x y N C) := by
  have h1 := proN_lt (x := x) (y := y) hC
  have h2 : (x + y) ^ N ≤ 10 ^ (d * N) := powle hxy (Nat.le_refl _)
  have h3 : (10 : Nat) ^ (d * N) < 10 ^ (d * N + 1) := Nat.pow_lt_pow_right (by omega) (by omega)
  have h4 : (10 : Nat) ^ (d * N + 1) ≤ 10 ^ m := Nat.pow_le_pow_right (by omega) hm
  exact divi_sz (by have := Nat.pow_pos (n := N) h0; omega) (by omega) (by omega)
theorem addS_any (w : World) (a b : ByteArray) (p q : Rat) (m : Nat) (ha : a.data.toList = RT p) (hb : b.data.toList = RT q) (hm : m ≤ 500) (hp : Sz m m p) (hq : Sz m m q) (hs : Std w) :
    Calls Tryz.prog 24 #[.string a, .string b] w fun e w' => RetRat (p + q) e ∧ Below w.heap.size w w' :=
  radd_any w a b p q ha hb (hp.fit (by omega) (by omega)) (hq.fit (by omega) (by omega)) (big_of_pow (cross_lt hp hq) (by omega)) (big_of_pow (cross_lt hq hp) (by omega)) (big_of_pow (sum_lt hp hq (Nat.le_refl (m + m)) (Nat.le_refl _)) (by omega)) (big_of_le (dens_le hp hq) (by omega)) hs
theorem add_one (w : World) (a b : ByteArray) (p q : Rat) (m : Nat) (ha : a.data.toList = RT p) (hb : b.data.toList = RT q) (hm : m ≤ 500) (hp : Sz m m p) (hq : Sz m m q) (h1 : p + q = 1) (hs : Std w) :
    Calls Tryz.prog 24 #[.string a, .string b] w fun e w' => e = .returned (.tuple #[.string ⟨#[49]⟩, .int .i64 0]) ∧ Below w.heap.size w w' := by
  have h := addS_any w a b p q m ha hb hm hp hq hs
  rw [h1] at h
  refine h.mono ?_
  rintro e w' ⟨h, hb⟩
  rw [RetRat, RT_one] at h
  exact ⟨h, hb⟩

set_option maxRecDepth 100000 in
set_option maxHeartbeats 2000000 in
theorem opp_wrong (w : World) (N C lot bad : Int) (h : rightB N C lot = false) (hs : Std w) :
    Calls Tryz.prog 5 #[.agg #[.int .i64 N, .int .i64 C], .int .i64 lot, .int .u8 bad] w fun e w' => e = .returned (.bool true) ∧ Below w.heap.size w w' := by
  have HS := hide hs
  have HR := hide (fun W => right54_any W N C lot)
  rw [h] at HR
  have HA := hide (fun W (hS : Std W) => awake54_any W hS)
  clear hs h
  have HB := allocs_below w [.cells #[.int .i64 N, .int .i64 C] 23]
  have K_p : Blk (allocs w [.cells #[.int .i64 N, .int .i64 C] 23]) (w.heap.size + 0) 23 #[.int .i64 N, .int .i64 C] := allocs_at w [.cells #[.int .i64 N, .int .i64 C] 23] 0 rfl
  unfold allocs at HB K_p
  simp only [List.foldl_cons, List.foldl_nil] at HB K_p
  rw [Nat.add_zero] at K_p
  go_enter Tryz.func5, Tryz.ntmps5
  go_upto_region 1 with (fail)
  generalize (w.alloc (.cells #[.int .i64 N, .int .i64 C] 23)) = w0 at *
  replace K_p := hide K_p
  replace HB := hide HB
  have p0 := (Blk.cell K_p.out 0).trans (rfl : _ = some (Value.int .i64 N))
  have p1 := (Blk.cell K_p.out 1).trans (rfl : _ = some (Value.int .i64 C))
  go_wp2_with fail
  refine (HR.out _).mono ?_
  rintro e w1 ⟨rfl, hb⟩
  clear p0 p1
  replace K_p := hide (Blk.below K_p.out hb (Blk.lt K_p.out))
  replace HB := hide (HB.out.trans (hb.mono HB.out.size))
  clear hb
  have p0 := (Blk.cell K_p.out 0).trans (rfl : _ = some (Value.int .i64 N))
  have p1 := (Blk.cell K_p.out 1).trans (rfl : _ = some (Value.int .i64 C))
  go_wp2_with fail
  refine (HA.out _ (HS.out.below HB.out (Nat.le_refl _))).mono ?_
  rintro e w2 ⟨rfl, hb⟩
  clear p0 p1
  replace K_p := hide (Blk.below K_p.out hb (Blk.lt K_p.out))
  replace HB := hide (HB.out.trans (hb.mono HB.out.size))
  clear hb
  go_wp2_with fail
  go_ret
  exact ⟨rfl, HB.out⟩

set_option maxRecDepth 100000 in
set_option maxHeartbeats 2000000 in
theorem opp_same (w : World) (N C lot bad : Int) (h : rightB N C lot = true) (hCN : C = N) (hs : Std w) :
    Calls Tryz.prog 5 #[.agg #[.int .i64 N, .int .i64 C], .int .i64 lot, .int .u8 bad] w fun e w' => e = .returned (.bool true) ∧ Below w.heap.size w w' := by
  obtain rfl := hCN
  have HS := hide hs
  have HR := hide (fun W => right54_any W C C lot)
  rw [h] at HR
  have HA := hide (fun W (hS : Std W) => awake54_any W hS)
  clear hs h
  have HB := allocs_below w [.cells #[.int .i64 C, .int .i64 C] 23]
  have K_p : Blk (allocs w [.cells #[.int .i64 C, .int .i64 C] 23]) (w.heap.size + 0) 23 #[.int .i64 C, .int .i64 C] := allocs_at w [.cells #[.int .i64 C, .int .i64 C] 23] 0 rfl
  unfold allocs at HB K_p
  simp only [List.foldl_cons, List.foldl_nil] at HB K_p
  rw [Nat.add_zero] at K_p
  go_enter Tryz.func5, Tryz.ntmps5
  go_upto_region 1 with (fail)
  generalize (w.alloc (.cells #[.int .i64 C, .int .i64 C] 23)) = w0 at *
  replace K_p := hide K_p
  replace HB := hide HB
  have p0 := (Blk.cell K_p.out 0).trans (rfl : _ = some (Value.int .i64 C))
  have p1 := (Blk.cell K_p.out 1).trans (rfl : _ = some (Value.int .i64 C))
  go_wp2_with fail
  refine (HR.out _).mono ?_
  rintro e w1 ⟨rfl, hb⟩
  clear p0 p1
  replace K_p := hide (Blk.below K_p.out hb (Blk.lt K_p.out))
  replace HB := hide (HB.out.trans (hb.mono HB.out.size))
  clear hb
  have p0 := (Blk.cell K_p.out 0).trans (rfl : _ = some (Value.int .i64 C))
  have p1 := (Blk.cell K_p.out 1).trans (rfl : _ = some (Value.int .i64 C))
  go_wp2_with fail
  refine (HA.out _ (HS.out.below HB.out (Nat.le_refl _))).mono ?_
  rintro e w2 ⟨rfl, hb⟩
  clear p0 p1
  replace K_p := hide (Blk.below K_p.out hb (Blk.lt K_p.out))
  replace HB := hide (HB.out.trans (hb.mono HB.out.size))
  clear hb
  go_wp2_with fail
  go_ret
  exact ⟨rfl, HB.out⟩

set_option maxRecDepth 100000 in
set_option maxHeartbeats 8000000 in
theorem opp_main (w : World) (n c l k : Nat) (b : Int) (hb0 : 0 ≤ b) (hb1 : b < 256) (hmod : b.tmod ((l + 1 : Nat) : Int) = (k : Int)) (hk : k ≤ l) (h1 : 1 ≤ n) (hcl : c < n) (hnl : n ≤ l) (hl40 : l ≤ 40) (hs : Std w) :
    Calls Tryz.prog 5 #[.agg #[.int .i64 (n : Int), .int .i64 (c : Int)], .int .i64 (l : Int), .int .u8 b] w fun e w' => e = .returned (.bool true) ∧ Below w.heap.size w w' := by
  have HS := hide hs
  have HR := hide (fun W => right54_any W (n : Int) (c : Int) (l : Int))
  rw [rightB_iff.2 (by omega)] at HR
  have HA := hide (fun W (hS : Std W) => awake54_any W hS)
  have HSE := hide (fun W => sent_any W (n : Int) (c : Int))
  have hcn : ¬ (c : Int) = (n : Int) := by omega
  have hwl : IntKind.i64.wrap ((l : Int) + 1) = ((l + 1 : Nat) : Int) := (IntWalk.i64_in _ (by omega)).trans (by omega)
  have hl0 : ¬ ((l + 1 : Nat) : Int) = 0 := by omega
  have hw1 : IntKind.i64.wrap ((n : Int) - (c : Int)) = ((n - c : Nat) : Int) := (IntWalk.i64_in _ (by omega)).trans (by omega)
  have hw2 : IntKind.i64.wrap (((n - c : Nat) : Int) - 1) = ((n - c - 1 : Nat) : Int) := (IntWalk.i64_in _ (by omega)).trans (by omega)
  have hw3 : IntKind.i64.wrap ((l : Int) - (k : Int)) = ((l - k : Nat) : Int) := (IntWalk.i64_in _ (by omega)).trans (by omega)
  have hwb : IntKind.i64.wrap b = b := IntWalk.i64_in _ (by omega)
  obtain ⟨u0, u1, ud, u2⟩ := frac_parts (k := k) (l := l) hk (by omega)
  obtain ⟨x, y, hx, hy, hx2, hy2⟩ := unit_parts u0 u1
  have hxy : x + y ≤ 10 ^ 2 := by rw [← hy]; exact Nat.le_trans ud (by omega)
  have hxy0 : 0 < x + y := by rw [← hy]; exact Nat.pos_of_ne_zero (Rat.den_nz _)
  have H1 := hide (fun W (hS : Std W) => plAccept_any W n c l k (by omega) (by omega) (by omega) hk (by omega) hS)
  have H2 := hide (fun W (hS : Std W) => plAccept_any W n (n - c - 1) l (l - k) (by omega) (by omega) (by omega) (by omega) (by omega) hS)
  rw [show l - (l - k) = k by omega] at H2
  have H3 := hide (fun W (hS : Std W) => add_one W ⟨(RT (accQ k (l - k) n c)).toArray⟩ ⟨(RT (accQ (l - k) k n (n - c - 1))).toArray⟩ _ _ 21 rfl rfl (by omega) (accQ_sz (by omega) (by omega) (by omega) (by omega)) (accQ_sz (by omega) (by omega) (by omega) (by omega)) (accQ_opp hcl (by omega)) hS)
  have HO1 := hide (fun W => over_any W (k : Int) (l : Int) (by omega) (by omega) (by omega) (by omega) (by omega))
  have HO2 := hide (fun W => over_any W ((l - k : Nat) : Int) (l : Int) (by omega) (by omega) (by omega) (by omega) (by omega))
  rw [u2] at HO2
  have H4 := hide (fun W (hS : Std W) => plBin_any W n c x y 2 ⟨(RT (Rat.divInt (k : Int) (l : Int))).toArray⟩ (Rat.divInt (k : Int) (l : Int)) rfl hx hy hxy (by omega) (by omega) (by omega) (by omega) hS)
  have H5 := hide (fun W (hS : Std W) => plBin_any W n (n - c - 1) y x 2 ⟨(RT (1 - Rat.divInt (k : Int) (l : Int))).toArray⟩ (1 - Rat.divInt (k : Int) (l : Int)) rfl hx2 (by rw [hy2]; omega) (by omega) (by omega) (by omega) (by omega) (by omega) hS)
  have H6 := hide (fun W (hS : Std W) => add_one W ⟨(RT (proQ x y n c)).toArray⟩ ⟨(RT (proQ y x n (n - c - 1))).toArray⟩ _ _ 81 rfl rfl (by omega) (proQ_sz (d := 2) hxy hxy0 (by omega) (by omega)) (proQ_sz (d := 2) (by omega) (by omega) (by omega) (by omega)) (proQ_opp hcl hxy0) hS)
  obtain ⟨q0, hq0⟩ : ∃ q, accQ k (l - k) n c = q := ⟨_, rfl⟩
  rw [hq0] at H1
  rw [hq0] at H3
  obtain ⟨q1, hq1⟩ : ∃ q, accQ (l - k) k n (n - c - 1) = q := ⟨_, rfl⟩
  rw [hq1] at H2
  rw [hq1] at H3
  obtain ⟨q2, hq2⟩ : ∃ q, proQ x y n c = q := ⟨_, rfl⟩
  rw [hq2] at H4
  rw [hq2] at H6
  obtain ⟨q3, hq3⟩ : ∃ q, proQ y x n (n - c - 1) = q := ⟨_, rfl⟩
  rw [hq3] at H5
  rw [hq3] at H6
  obtain ⟨q4, hq4⟩ : ∃ q, 1 - Rat.divInt (k : Int) (l : Int) = q := ⟨_, rfl⟩
  rw [hq4] at HO2
  rw [hq4] at H5
  obtain ⟨q5, hq5⟩ : ∃ q, Rat.divInt (k : Int) (l : Int) = q := ⟨_, rfl⟩
  rw [hq5] at HO1
  rw [hq5] at H4
  unfold RetRat at H1 H2 H4 H5
  clear hs hq0 hq1 hq2 hq3 hq4 hq5 u0 u1 ud u2 hx hy hx2 hy2 hxy hxy0
  obtain ⟨d1, hd1⟩ : ∃ d, n - c = d := ⟨_, rfl⟩
  rw [hd1] at hw1 hw2 H2 H5
  obtain ⟨d2, hd2⟩ : ∃ d, d1 - 1 = d := ⟨_, rfl⟩
  rw [hd2] at hw2 H2 H5
  obtain ⟨d3, hd3⟩ : ∃ d, l - k = d := ⟨_, rfl⟩
  rw [hd3] at hw3 HO2 H2
  obtain ⟨l1, hl1⟩ : ∃ d, l + 1 = d := ⟨_, rfl⟩
  rw [hl1] at hwl hl0 hmod
  clear hd1 hd2 hd3 hl1
  have HB := allocs_below w [.cells #[.int .i64 (n : Int), .int .i64 (c : Int)] 23]
  have K_p : Blk (allocs w [.cells #[.int .i64 (n : Int), .int .i64 (c : Int)] 23]) (w.heap.size + 0) 23 #[.int .i64 (n : Int), .int .i64 (c : Int)] := allocs_at w [.cells #[.int .i64 (n : Int), .int .i64 (c : Int)] 23] 0 rfl
  unfold allocs at HB K_p
  simp only [List.foldl_cons, List.foldl_nil] at HB K_p
  rw [Nat.add_zero] at K_p
  go_enter Tryz.func5, Tryz.ntmps5
  go_upto_region 1 with (fail)
  generalize (w.alloc (.cells #[.int .i64 (n : Int), .int .i64 (c : Int)] 23)) = w0 at *
  replace K_p := hide K_p
  replace HB := hide HB
  have p0 := (Blk.cell K_p.out 0).trans (rfl : _ = some (Value.int .i64 (n : Int)))
  have p1 := (Blk.cell K_p.out 1).trans (rfl : _ = some (Value.int .i64 (c : Int)))
  go_wp2_with fail
  refine (HR.out _).mono ?_
  rintro e w1 ⟨rfl, hb⟩
  clear p0 p1
  replace K_p := hide (Blk.below K_p.out hb (Blk.lt K_p.out))
  replace HB := hide (HB.out.trans (hb.mono HB.out.size))
  clear hb
  have p0 := (Blk.cell K_p.out 0).trans (rfl : _ = some (Value.int .i64 (n : Int)))
  have p1 := (Blk.cell K_p.out 1).trans (rfl : _ = some (Value.int .i64 (c : Int)))
  go_upto_region 5 with (fail)
  clear p0 p1
  have lt_o_p : w.heap.size < w1.heap.size := Blk.lt K_p.out
  replace K_p := K_p.out.alloc (.cells #[.int .i64 (n : Int), .int .i64 ((d2 : Nat) : Int)] 30)
  replace HB := HB.out.alloc HB.out.size (.cells #[.int .i64 (n : Int), .int .i64 ((d2 : Nat) : Int)] 30)
  have K_o := Blk.new w1 30 #[.int .i64 (n : Int), .int .i64 ((d2 : Nat) : Int)]
  generalize w1.alloc (.cells #[.int .i64 (n : Int), .int .i64 ((d2 : Nat) : Int)] 30) = wa at *
  replace K_p := hide K_p
  replace K_o := hide K_o
  replace HB := hide HB
  have p0 := (Blk.cell K_p.out 0).trans (rfl : _ = some (Value.int .i64 (n : Int)))
  have p1 := (Blk.cell K_p.out 1).trans (rfl : _ = some (Value.int .i64 (c : Int)))
  go_wp2_with fail
  refine (HSE.out _).mono ?_
  rintro e w2 ⟨rfl, hb⟩
  clear p0 p1
  replace K_p := hide (Blk.below K_p.out hb (Blk.lt K_p.out))
  replace K_o := hide (Blk.below K_o.out hb (Blk.lt K_o.out))
  replace HB := hide (HB.out.trans (hb.mono HB.out.size))
  clear hb
  go_wp2_with fail
  refine (H1.out _ (HS.out.below HB.out (Nat.le_refl _))).mono ?_
  rintro e w3 ⟨rfl, hb⟩
  replace K_p := hide (Blk.below K_p.out hb (Blk.lt K_p.out))
  replace K_o := hide (Blk.below K_o.out hb (Blk.lt K_o.out))
  replace HB := hide (HB.out.trans (hb.mono HB.out.size))
  clear hb
  have o0 := (Blk.cell K_o.out 0).trans (rfl : _ = some (Value.int .i64 (n : Int)))
  have o1 := (Blk.cell K_o.out 1).trans (rfl : _ = some (Value.int .i64 ((d2 : Nat) : Int)))
  go_wp2_with fail
  refine (H2.out _ (HS.out.below HB.out (Nat.le_refl _))).mono ?_
  rintro e w4 ⟨rfl, hb⟩
  clear o0 o1
  replace K_p := hide (Blk.below K_p.out hb (Blk.lt K_p.out))
  replace K_o := hide (Blk.below K_o.out hb (Blk.lt K_o.out))
  replace HB := hide (HB.out.trans (hb.mono HB.out.size))
  clear hb
  go_wp2_with fail
  refine (H3.out _ (HS.out.below HB.out (Nat.le_refl _))).mono ?_
  rintro e w5 ⟨rfl, hb⟩
  replace K_p := hide (Blk.below K_p.out hb (Blk.lt K_p.out))
  replace K_o := hide (Blk.below K_o.out hb (Blk.lt K_o.out))
  replace HB := hide (HB.out.trans (hb.mono HB.out.size))
  clear hb
  have p0 := (Blk.cell K_p.out 0).trans (rfl : _ = some (Value.int .i64 (n : Int)))
  have p1 := (Blk.cell K_p.out 1).trans (rfl : _ = some (Value.int .i64 (c : Int)))
  go_wp2_with fail
  refine (HSE.out _).mono ?_
  rintro e w6 ⟨rfl, hb⟩
  clear p0 p1
  replace K_p := hide (Blk.below K_p.out hb (Blk.lt K_p.out))
  replace K_o := hide (Blk.below K_o.out hb (Blk.lt K_o.out))
  replace HB := hide (HB.out.trans (hb.mono HB.out.size))
  clear hb
  go_wp2_with fail
  refine (HO1.out _).mono ?_
  rintro e w7 ⟨rfl, hb⟩
  replace K_p := hide (Blk.below K_p.out hb (Blk.lt K_p.out))
  replace K_o := hide (Blk.below K_o.out hb (Blk.lt K_o.out))
  replace HB := hide (HB.out.trans (hb.mono HB.out.size))
  clear hb
  go_wp2_with fail
  refine (H4.out _ (HS.out.below HB.out (Nat.le_refl _))).mono ?_
  rintro e w8 ⟨rfl, hb⟩
  replace K_p := hide (Blk.below K_p.out hb (Blk.lt K_p.out))
  replace K_o := hide (Blk.below K_o.out hb (Blk.lt K_o.out))
  replace HB := hide (HB.out.trans (hb.mono HB.out.size))
  clear hb
  go_upto_region 9 with (fail)
  have o0 := (Blk.cell K_o.out 0).trans (rfl : _ = some (Value.int .i64 (n : Int)))
  have o1 := (Blk.cell K_o.out 1).trans (rfl : _ = some (Value.int .i64 ((d2 : Nat) : Int)))
  have SK : ∀ w', Below w8.heap.size w8 w' → Below w8.heap.size w8 w' ∧ w'.cell? ⟨w1.heap.size, 0, none⟩ = some (.int .i64 (n : Int)) ∧ w'.cell? ⟨w1.heap.size, 1, none⟩ = some (.int .i64 ((d2 : Nat) : Int)) := fun w' h => ⟨h, (bcell h _ _ (block_lt_of_cell o0)).trans o0, (bcell h _ _ (block_lt_of_cell o1)).trans o1⟩
  have SS' : ∀ {R : Prop} {W : World}, Below w8.heap.size w8 W ∧ R → Std W := fun h => (HS.out.below HB.out (Nat.le_refl _)).below h.1 (Nat.le_refl _)
  go_region_held3 (fun w' => Below w8.heap.size w8 w' ∧ w'.cell? ⟨w1.heap.size, 0, none⟩ = some (.int .i64 (n : Int)) ∧ w'.cell? ⟨w1.heap.size, 1, none⟩ = some (.int .i64 ((d2 : Nat) : Int))) (first | exact SK _ (Below.refl _ _).drew | exact SK _ (Below.refl _ _) | exact SK _ (bel_next (by assumption) (by assumption) (Nat.le_refl _)))
    (first
      | (go_at_call 26; refine (HO2.out _).mono ?_; rintro e wx ⟨rfl, hbW⟩)
      | (go_at_call 25; refine (H5.out _ (SS' (by assumption))).mono ?_; rintro e wx ⟨rfl, hbW⟩))
  obtain ⟨hbx, _⟩ : Below w8.heap.size w8 _ ∧ _ := by assumption
  have HX := hide (HB.out.trans (hbx.mono HB.out.size))
  clear hbx
  go_wp2_with fail
  refine (H6.out _ (HS.out.below HX.out (Nat.le_refl _))).mono ?_
  rintro e wy ⟨rfl, hb⟩
  replace HX := hide (HX.out.trans (hb.mono HX.out.size))
  clear hb
  go_wp2_with fail
  refine (HA.out _ (HS.out.below HX.out (Nat.le_refl _))).mono ?_
  rintro e wz ⟨rfl, hb⟩
  replace HX := hide (HX.out.trans (hb.mono HX.out.size))
  clear hb
  go_wp2_with fail
  go_ret
  exact ⟨rfl, HX.out⟩


theorem opposites_any (w : World) (N C lot bad : Int) (hr : 0 ≤ bad ∧ bad < 256) (hs : Std w) :
    Calls Tryz.prog 5 #[.agg #[.int .i64 N, .int .i64 C], .int .i64 lot, .int .u8 bad] w fun e w' => e = .returned (.bool true) ∧ Below w.heap.size w w' := by
  rcases hR : rightB N C lot with _ | _
  · exact opp_wrong w N C lot bad hR hs
  · by_cases hCN : C = N
    · exact opp_same w N C lot bad hR hCN hs
    · obtain ⟨h1, h2, h3, h4, h5⟩ := rightB_iff.1 hR
      obtain ⟨n, rfl⟩ : ∃ n : Nat, N = (n : Int) := ⟨N.toNat, by omega⟩
      obtain ⟨c, rfl⟩ : ∃ c : Nat, C = (c : Int) := ⟨C.toNat, by omega⟩
      obtain ⟨l, rfl⟩ : ∃ l : Nat, lot = (l : Int) := ⟨lot.toNat, by omega⟩
      obtain ⟨k, hk, hkt⟩ : ∃ k : Nat, k < l + 1 ∧ bad.tmod ((l + 1 : Nat) : Int) = (k : Int) := by
        refine ⟨bad.toNat % (l + 1), Nat.mod_lt _ (by omega), ?_⟩
        rw [Int.tmod_eq_emod_of_nonneg hr.1, Int.natCast_emod, Int.toNat_of_nonneg hr.1]
      exact opp_main w n c l k bad hr.1 hr.2 hkt (by omega) (by omega) (by omega) (by omega) (by omega) hs
end Go.Proofs.YtaccdkbofhlbkaaGreatDoor
