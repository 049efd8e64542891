/- plan.chosen, product, samples: how many samples have some bad parts. -/
import Derived.Test.YtaccdkbofhlbkaaGreatDoorTint
import Derived.Test.YtaccdkbofhlbkaaGreatDoorBinq
import Derived.Test.YtaccdkbofhlbkaaGreatDoorRtext
import Derived.Test.YtaccdkbofhlbkaaGreatDoorPts
namespace Go.Proofs.YtaccdkbofhlbkaaGreatDoor
open Go.RowKit MLab

theorem tx_zero : tx 0 = .string ⟨#[48]⟩ := by rw [tx, T_zero]
theorem tx_one : tx 1 = .string ⟨#[49]⟩ := by rw [tx, T_one]
theorem small30 {n : Nat} (h : n < 10 ^ 30) : ((n : Nat) : Int).natAbs < Big := by
  have := pow_big (k := 30) (by decide)
  rw [Int.natAbs_natCast]; omega
theorem bin64 {n k : Nat} (hn : n ≤ 64) : bin n k < 10 ^ 20 := by
  have h1 := bin_le_pow n k
  have h2 : 2 ^ n ≤ 2 ^ 64 := Nat.pow_le_pow_right (by omega) hn
  have h3 : (2 : Nat) ^ 64 < 10 ^ 20 := by decide
  omega

set_option maxRecDepth 100000 in
set_option maxHeartbeats 4000000 in
theorem chosen_any (w : World) (n k : Nat) (hn : n ≤ 64) (hk : k ≤ 1000) (hs : Std w) :
    Calls Tryz.prog 64 #[.int .i64 (n : Int), .int .i64 (k : Int)] w fun e w' => e = .returned (.tuple #[tx ((bin n k : Nat) : Int), .int .i64 0]) ∧ Below w.heap.size w w' := by
  have HS := hide hs
  have hk0 : ¬ (k : Int) < 0 := by omega
  clear hs
  by_cases h : n < k
  · have hkn : (n : Int) < (k : Int) := by omega
    rw [bin_far h]
    go_enter Tryz.func64, Tryz.ntmps64
    go_wp2_with fail
    go_ret2
    exact ⟨by show Ending.returned (Value.tuple #[.string ⟨#[48]⟩, .int .i64 0]) = Ending.returned (Value.tuple #[tx 0, .int .i64 0]); rw [tx_zero], Below.refl _ _⟩
  · by_cases hkk : k ≤ n - k
    · skip
      have hmn : (k : Int) ≤ ((n - k : Nat) : Int) := by omega
      have hkn : ¬ (n : Int) < (k : Int) := by omega
      have hw : IntKind.i64.wrap ((n : Int) - (k : Int)) = ((n - k : Nat) : Int) := (IntWalk.i64_in _ (by omega)).trans (by omega)
      obtain ⟨R, hR⟩ : ∃ R, bin n k = R := ⟨_, rfl⟩
      have HBK : Hid (bin n (k) = R) := hide (hR)
      rw [hR]
      clear hR
      have H1 : Hid (Value.string ⟨#[49]⟩ = tx ((bin n 0 : Nat) : Int)) := hide (by rw [bin_zero]; exact tx_one.symm)
      go_enter Tryz.func64, Tryz.ntmps64
      go_wp2_with fail
      go_loopg [6, 23] (k) (fun q ov iv wr => ∃ j : Nat, iv = .int .i64 (j : Int) ∧ q + j = k ∧ ov = tx ((bin n j : Nat) : Int) ∧ Below w.heap.size w wr)
      case atStart => exact ⟨0, rfl, by omega, H1.out, Below.refl _ _⟩
      case round =>
        obtain ⟨j, rfl, hq, rfl, hb⟩ := hrel
        have HQ := hide hq
        have HB := hide hb
        have hjK : j ≤ k := by omega
        clear hq hb
        by_cases hlt : j < k
        · have hji : (j : Int) < ((k : Nat) : Int) := by omega
          have hw1 : IntKind.i64.wrap ((n : Int) - (j : Int)) = ((n - j : Nat) : Int) := (IntWalk.i64_in _ (by omega)).trans (by omega)
          have hw2 : IntKind.i64.wrap ((j : Int) + 1) = ((j + 1 : Nat) : Int) := (IntWalk.i64_in _ (by omega)).trans (by omega)
          have s1 := bin64 (k := j) hn
          have s2 := bin64 (k := j + 1) hn
          have hst := bin_step n j
          have s3 : bin n j * (n - j) < 10 ^ 30 := by
            have : bin n j * (n - j) ≤ 10 ^ 20 * 64 := Nat.mul_le_mul (by omega) (by omega)
            have : (10 : Nat) ^ 20 * 64 < 10 ^ 30 := by decide
            omega
          have p20 : (10 : Nat) ^ 20 < 10 ^ 30 := by decide
          have C1 := hide (fun W (hS : Std W) => of_any ((n - j : Nat) : Int) (by omega) (by omega) W hS)
          have C2 := hide (fun W (hS : Std W) => mulT_any W ((bin n j : Nat) : Int) ((n - j : Nat) : Int) (small30 (by omega)) (small30 (by omega)) (by rw [← Int.natCast_mul]; exact small30 s3) hS)
          have C3 := hide (fun W (hS : Std W) => of_any ((j + 1 : Nat) : Int) (by omega) (by omega) W hS)
          have C4 := hide (fun W (hS : Std W) => quoT_any W (((bin n j : Nat) : Int) * ((n - j : Nat) : Int)) ((j + 1 : Nat) : Int) ((bin n (j + 1) : Nat) : Int) (by rw [← Int.natCast_mul]; exact small30 s3) (small30 (by omega)) (by omega) (by rw [← Int.natCast_mul, ← Int.natCast_mul, hst]) (small30 (by omega)) hS)
          clear s1 s2 hst s3 p20
          go_wp2_with fail
          refine (C1.out _ (HS.out.below HB.out (Nat.le_refl _))).mono ?_
          rintro e w1 ⟨rfl, hb1⟩
          have HB1 := hide (HB.out.trans (hb1.mono HB.out.size))
          clear hb1
          go_wp2_with fail
          refine (C2.out _ (HS.out.below HB1.out (Nat.le_refl _))).mono ?_
          rintro e w2 ⟨rfl, hb2⟩
          have HB2 := hide (HB1.out.trans (hb2.mono HB1.out.size))
          clear hb2
          go_wp2_with fail
          refine (C3.out _ (HS.out.below HB2.out (Nat.le_refl _))).mono ?_
          rintro e w3 ⟨rfl, hb3⟩
          have HB3 := hide (HB2.out.trans (hb3.mono HB2.out.size))
          clear hb3
          go_wp2_with fail
          refine (C4.out _ (HS.out.below HB3.out (Nat.le_refl _))).mono ?_
          rintro e w4 ⟨rfl, hb4⟩
          have HB4 := hide (HB3.out.trans (hb4.mono HB3.out.size))
          clear hb4 C1 C2 C3 C4
          go_wp2_with fail
          go_roundg (gk - 1)
          case measure => have := HQ.out; omega
          case rel => exact ⟨j + 1, by go_num, by have := HQ.out; omega, rfl, HB4.out⟩
        · have hji : ¬ (j : Int) < ((k : Nat) : Int) := by omega
          obtain rfl : j = k := by omega
          go_wp2_with fail
          go_ret2
          exact ⟨by rw [← HBK.out]; rfl, HB.out⟩
    · skip
      have hmn : ¬ (k : Int) ≤ ((n - k : Nat) : Int) := by omega
      have hmn2 : ((n - k : Nat) : Int) < (k : Int) := by omega
      have hkn : ¬ (n : Int) < (k : Int) := by omega
      have hw : IntKind.i64.wrap ((n : Int) - (k : Int)) = ((n - k : Nat) : Int) := (IntWalk.i64_in _ (by omega)).trans (by omega)
      obtain ⟨R, hR⟩ : ∃ R, bin n k = R := ⟨_, rfl⟩
      have HBK : Hid (bin n (n - k) = R) := hide ((bin_symm (by omega)).trans hR)
      rw [hR]
      clear hR
      have H1 : Hid (Value.string ⟨#[49]⟩ = tx ((bin n 0 : Nat) : Int)) := hide (by rw [bin_zero]; exact tx_one.symm)
      go_enter Tryz.func64, Tryz.ntmps64
      go_wp2_with fail
      go_loopg [6, 23] (n - k) (fun q ov iv wr => ∃ j : Nat, iv = .int .i64 (j : Int) ∧ q + j = n - k ∧ ov = tx ((bin n j : Nat) : Int) ∧ Below w.heap.size w wr)
      case atStart => exact ⟨0, rfl, by omega, H1.out, Below.refl _ _⟩
      case round =>
        obtain ⟨j, rfl, hq, rfl, hb⟩ := hrel
        have HQ := hide hq
        have HB := hide hb
        have hjK : j ≤ (n - k) := by omega
        clear hq hb
        by_cases hlt : j < (n - k)
        · have hji : (j : Int) < (((n - k) : Nat) : Int) := by omega
          have hw1 : IntKind.i64.wrap ((n : Int) - (j : Int)) = ((n - j : Nat) : Int) := (IntWalk.i64_in _ (by omega)).trans (by omega)
          have hw2 : IntKind.i64.wrap ((j : Int) + 1) = ((j + 1 : Nat) : Int) := (IntWalk.i64_in _ (by omega)).trans (by omega)
          have s1 := bin64 (k := j) hn
          have s2 := bin64 (k := j + 1) hn
          have hst := bin_step n j
          have s3 : bin n j * (n - j) < 10 ^ 30 := by
            have : bin n j * (n - j) ≤ 10 ^ 20 * 64 := Nat.mul_le_mul (by omega) (by omega)
            have : (10 : Nat) ^ 20 * 64 < 10 ^ 30 := by decide
            omega
          have p20 : (10 : Nat) ^ 20 < 10 ^ 30 := by decide
          have C1 := hide (fun W (hS : Std W) => of_any ((n - j : Nat) : Int) (by omega) (by omega) W hS)
          have C2 := hide (fun W (hS : Std W) => mulT_any W ((bin n j : Nat) : Int) ((n - j : Nat) : Int) (small30 (by omega)) (small30 (by omega)) (by rw [← Int.natCast_mul]; exact small30 s3) hS)
          have C3 := hide (fun W (hS : Std W) => of_any ((j + 1 : Nat) : Int) (by omega) (by omega) W hS)
          have C4 := hide (fun W (hS : Std W) => quoT_any W (((bin n j : Nat) : Int) * ((n - j : Nat) : Int)) ((j + 1 : Nat) : Int) ((bin n (j + 1) : Nat) : Int) (by rw [← Int.natCast_mul]; exact small30 s3) (small30 (by omega)) (by omega) (by rw [← Int.natCast_mul, ← Int.natCast_mul, hst]) (small30 (by omega)) hS)
          clear s1 s2 hst s3 p20
          go_wp2_with fail
          refine (C1.out _ (HS.out.below HB.out (Nat.le_refl _))).mono ?_
          rintro e w1 ⟨rfl, hb1⟩
          have HB1 := hide (HB.out.trans (hb1.mono HB.out.size))
          clear hb1
          go_wp2_with fail
          refine (C2.out _ (HS.out.below HB1.out (Nat.le_refl _))).mono ?_
          rintro e w2 ⟨rfl, hb2⟩
          have HB2 := hide (HB1.out.trans (hb2.mono HB1.out.size))
          clear hb2
          go_wp2_with fail
          refine (C3.out _ (HS.out.below HB2.out (Nat.le_refl _))).mono ?_
          rintro e w3 ⟨rfl, hb3⟩
          have HB3 := hide (HB2.out.trans (hb3.mono HB2.out.size))
          clear hb3
          go_wp2_with fail
          refine (C4.out _ (HS.out.below HB3.out (Nat.le_refl _))).mono ?_
          rintro e w4 ⟨rfl, hb4⟩
          have HB4 := hide (HB3.out.trans (hb4.mono HB3.out.size))
          clear hb4 C1 C2 C3 C4
          go_wp2_with fail
          go_roundg (gk - 1)
          case measure => have := HQ.out; omega
          case rel => exact ⟨j + 1, by go_num, by have := HQ.out; omega, rfl, HB4.out⟩
        · have hji : ¬ (j : Int) < (((n - k) : Nat) : Int) := by omega
          obtain rfl : j = (n - k) := by omega
          go_wp2_with fail
          go_ret2
          exact ⟨by rw [← HBK.out]; rfl, HB.out⟩

/-- The product of the first j numbers. -/
def prodP (zs : List Int) (j : Nat) : Int := (zs.take j).foldl (fun a b => a * b) 1
theorem prodP_succ {zs : List Int} {j : Nat} {z : Int} (h : zs[j]? = some z) : prodP zs (j + 1) = prodP zs j * z := by
  unfold prodP
  rw [List.take_add_one, h]
  simp
set_option maxRecDepth 100000 in
set_option maxHeartbeats 4000000 in
theorem product_any (w : World) (g c : Nat) (t : TypeId) (zs : List Int) (hg : Blk w g t ((zs.map tx).toArray)) (hz : ∀ z ∈ zs, z.natAbs < Big) (hp : ∀ j, j ≤ zs.length → (prodP zs j).natAbs < Big) (hL : zs.length ≤ 1000) (hs : Std w) :
    Calls Tryz.prog 65 #[.slice (some ⟨g, 0, none⟩) zs.length c] w fun e w' => e = .returned (.tuple #[tx (prodP zs zs.length), .int .i64 0]) ∧ Below w.heap.size w w' := by
  have HS := hide hs
  have HG := hide hg
  have HZ := hide hz
  have HP := hide hp
  have H1 : Hid (Value.string ⟨#[49]⟩ = tx (prodP zs 0)) := hide tx_one.symm
  clear hs hg hz hp
  go_enter Tryz.func65, Tryz.ntmps65
  go_wp2_with fail
  go_loopg [4, 10] zs.length (fun q ov iv wr => ∃ j : Nat, iv = .int .i64 (j : Int) ∧ q + j = zs.length ∧ ov = tx (prodP zs j) ∧ Below w.heap.size w wr)
  case atStart => exact ⟨0, rfl, by omega, H1.out, Below.refl _ _⟩
  case round =>
    obtain ⟨j, rfl, hq, rfl, hb⟩ := hrel
    have HQ := hide hq
    have HB := hide hb
    have hjK : j ≤ zs.length := by omega
    clear hq hb
    by_cases hlt : j < zs.length
    · have hji : (j : Int) < (zs.length : Int) := by omega
      have hj0 : (0 : Int) ≤ (j : Int) := by omega
      obtain ⟨z, hz⟩ : ∃ z, zs[j]? = some z := ⟨_, List.getElem?_eq_getElem hlt⟩
      have hzm := List.mem_of_getElem? hz
      have a0 : w.cell? ⟨g, j, none⟩ = some (tx z) := (Blk.cell HG.out j).trans (by simp [hz])
      have a1 := (bcell HB.out _ _ (block_lt_of_cell a0)).trans a0
      have hps := prodP_succ hz
      have hpb := HP.out (j + 1) (by omega)
      rw [hps] at hpb
      have C1 := hide (fun W (hS : Std W) => mulT_any W (prodP zs j) z (HP.out j hjK) (HZ.out z hzm) hpb hS)
      have HPS := hide hps
      clear a0 hz hzm hps hpb
      go_wp2_with fail
      refine (C1.out _ (HS.out.below HB.out (Nat.le_refl _))).mono ?_
      rintro e w1 ⟨rfl, hb1⟩
      have HB1 := hide (HB.out.trans (hb1.mono HB.out.size))
      clear hb1 a1 C1
      go_wp2_with fail
      go_roundg (gk - 1)
      case measure => have := HQ.out; omega
      case rel => exact ⟨j + 1, by go_num, by have := HQ.out; omega, by rw [HPS.out], HB1.out⟩
    · have hji : ¬ (j : Int) < (zs.length : Int) := by omega
      obtain rfl : j = zs.length := by omega
      go_wp2_with fail
      go_ret2
      exact ⟨rfl, HB.out⟩

theorem small40 {n : Nat} (h : n < 10 ^ 40) : ((n : Nat) : Int).natAbs < Big := by
  have := pow_big (k := 40) (by decide)
  rw [Int.natAbs_natCast]; omega
set_option maxRecDepth 100000 in
set_option maxHeartbeats 4000000 in
theorem samples_any (w : World) (N C lot bad k : Nat) (hb : bad ≤ lot) (hl : lot ≤ 64) (hk : k ≤ N) (hN : N ≤ 64) (hs : Std w) :
    Calls Tryz.prog 91 #[.agg #[.int .i64 (N : Int), .int .i64 (C : Int)], .int .i64 (lot : Int), .int .i64 (bad : Int), .int .i64 (k : Int)] w fun e w' => e = .returned (.tuple #[tx ((bin bad k * bin (lot - bad) (N - k) : Nat) : Int), .int .i64 0]) ∧ Below w.heap.size w w' := by
  have HS := hide hs
  clear hs
  have hw1 : IntKind.i64.wrap ((lot : Int) - (bad : Int)) = ((lot - bad : Nat) : Int) := (IntWalk.i64_in _ (by omega)).trans (by omega)
  have hw2 : IntKind.i64.wrap ((N : Int) - (k : Int)) = ((N - k : Nat) : Int) := (IntWalk.i64_in _ (by omega)).trans (by omega)
  have s1 := bin64 (n := bad) (k := k) (by omega)
  have s2 := bin64 (n := lot - bad) (k := N - k) (by omega)
  have p20 : (10 : Nat) ^ 20 < 10 ^ 30 := by decide
  have s3 : bin bad k * bin (lot - bad) (N - k) < 10 ^ 40 := by
    have : bin bad k * bin (lot - bad) (N - k) ≤ 10 ^ 20 * bin (lot - bad) (N - k) := Nat.mul_le_mul_right _ (by omega)
    have : 10 ^ 20 * bin (lot - bad) (N - k) < 10 ^ 20 * 10 ^ 20 := Nat.mul_lt_mul_of_pos_left s2 (by decide)
    have : (10 : Nat) ^ 20 * 10 ^ 20 = 10 ^ 40 := by decide
    omega
  obtain ⟨a, ha⟩ : ∃ a, bin bad k = a := ⟨_, rfl⟩
  obtain ⟨d, hd⟩ : ∃ d, bin (lot - bad) (N - k) = d := ⟨_, rfl⟩
  rw [ha, hd] at s3
  rw [ha] at s1
  rw [hd] at s2
  have C1 := hide (fun W (hS : Std W) => chosen_any W bad k (by omega) (by omega) hS)
  have C2 := hide (fun W (hS : Std W) => chosen_any W (lot - bad) (N - k) (by omega) (by omega) hS)
  rw [ha] at C1
  rw [hd] at C2
  have hpp : prodP [((a : Nat) : Int), ((d : Nat) : Int)] 2 = ((a * d : Nat) : Int) := by simp [prodP]
  have C3 := hide (fun W g (hg : Blk W g 63 #[tx ((a : Nat) : Int), tx ((d : Nat) : Int)]) (hS : Std W) => product_any W g 2 63 [((a : Nat) : Int), ((d : Nat) : Int)] hg (by intro z hz; simp at hz; rcases hz with rfl | rfl <;> exact small30 (by omega)) (by intro j hj; match j, hj with | 0, _ => (show (1 : Int).natAbs < Big; exact small30 (n := 1) (by decide)) | 1, _ => (show ((1 : Int) * (a : Int)).natAbs < Big; rw [Int.one_mul]; exact small30 (by omega)) | 2, _ => (rw [hpp]; exact small40 s3)) (by simp) hS)
  rw [show [((a : Nat) : Int), ((d : Nat) : Int)].length = 2 from rfl, hpp] at C3
  rw [ha, hd]
  clear ha hd s1 s2 s3 p20 hpp
  have HB := allocs_below w [.cells #[.int .i64 (N : Int), .int .i64 (C : Int)] 30]
  have K_p : Blk (allocs w [.cells #[.int .i64 (N : Int), .int .i64 (C : Int)] 30]) (w.heap.size + 0) 30 #[.int .i64 (N : Int), .int .i64 (C : Int)] := allocs_at w [.cells #[.int .i64 (N : Int), .int .i64 (C : Int)] 30] 0 rfl
  unfold allocs at HB K_p
  simp only [List.foldl_cons, List.foldl_nil] at HB K_p
  rw [Nat.add_zero] at K_p
  go_enter Tryz.func91, Tryz.ntmps91
  go_upto_region 1 with (fail)
  generalize (w.alloc (.cells #[.int .i64 (N : Int), .int .i64 (C : Int)] 30)) = w0 at *
  replace K_p := hide K_p
  replace HB := hide HB
  go_wp2_with fail
  refine (C1.out _ (HS.out.below HB.out (Nat.le_refl _))).mono ?_
  rintro e w1 ⟨rfl, hb⟩
  replace K_p := hide (Blk.below K_p.out hb (Blk.lt K_p.out))
  replace HB := hide (HB.out.trans (hb.mono HB.out.size))
  clear hb
  have p0 := (Blk.cell K_p.out 0).trans (rfl : _ = some (Value.int .i64 (N : Int)))
  have p1 := (Blk.cell K_p.out 1).trans (rfl : _ = some (Value.int .i64 (C : Int)))
  go_wp2_with fail
  refine (C2.out _ (HS.out.below HB.out (Nat.le_refl _))).mono ?_
  rintro e w2 ⟨rfl, hb⟩
  clear p0 p1
  replace K_p := hide (Blk.below K_p.out hb (Blk.lt K_p.out))
  replace HB := hide (HB.out.trans (hb.mono HB.out.size))
  clear hb
  go_wp2_with fail
  have lt_m_p : w.heap.size < w2.heap.size := Blk.lt K_p.out
  replace K_p := K_p.out.alloc (.cells #[tx ((a : Nat) : Int), tx ((d : Nat) : Int)] 63)
  replace HB := HB.out.alloc HB.out.size (.cells #[tx ((a : Nat) : Int), tx ((d : Nat) : Int)] 63)
  have K_m := Blk.new w2 63 #[tx ((a : Nat) : Int), tx ((d : Nat) : Int)]
  generalize w2.alloc (.cells #[tx ((a : Nat) : Int), tx ((d : Nat) : Int)] 63) = wb at *
  replace K_p := hide K_p
  replace K_m := hide K_m
  replace HB := hide HB
  refine (C3.out _ _ K_m.out (HS.out.below HB.out (Nat.le_refl _))).mono ?_
  rintro e w9 ⟨rfl, hb⟩
  replace K_p := hide (Blk.below K_p.out hb (Blk.lt K_p.out))
  replace K_m := hide (Blk.below K_m.out hb (Blk.lt K_m.out))
  replace HB := hide (HB.out.trans (hb.mono HB.out.size))
  clear hb
  go_wp2_with fail
  go_ret2
  exact ⟨rfl, HB.out⟩

end Go.Proofs.YtaccdkbofhlbkaaGreatDoor
