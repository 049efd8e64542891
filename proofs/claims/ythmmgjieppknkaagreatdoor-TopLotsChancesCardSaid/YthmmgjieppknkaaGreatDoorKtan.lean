/- Contracts and plain laws that the statements of this seat share (part Ktan). -/
import Derived.Test.YthmmgjieppknkaaGreatDoorKtaa
import Derived.Test.YthmmgjieppknkaaGreatDoorKtac
import Derived.Test.YthmmgjieppknkaaGreatDoorKtad
import Derived.Test.YthmmgjieppknkaaGreatDoorKtaf
import Derived.Test.YthmmgjieppknkaaGreatDoorKtal
import Derived.Test.YthmmgjieppknkaaGreatDoorKtam
import Derived.Shelf.Abstract
namespace Go.Proofs.YthmmgjieppknkaaGreatDoor
open Go.RowKit MLab
theorem tx_zero : tx 0 = .string ⟨#[48]⟩ := by rw [tx, T_zero]
theorem tx_one : tx 1 = .string ⟨#[49]⟩ := by rw [tx, T_one]
theorem small30 {n : Nat} (h : n < 10 ^ 30) : ((n : Nat) : Int).natAbs < Big := by
  have := pow_big (k := 30) (by decide)
  rw [Int.natAbs_natCast]; omega
theorem bin64 {n k : Nat} (hn : n ≤ 64) : bin n k < 10 ^ 20 := by
  have h1 := bin_le_pow n k
  have h2 : 2 ^ n ≤ 2 ^ 64 := Nat.pow_le_pow_right (by omega) hn
  have h3 : (2 : Nat) ^ 64 < 10 ^ 20 := by decide
  omega
set_option maxRecDepth 100000 in
set_option maxHeartbeats 4000000 in
theorem chosen_any (w : World) (n k : Nat) (hn : n ≤ 64) (hk : k ≤ 1000) (hs : Std w) :
    Calls Tryz.prog 85 #[.int .i64 (n : Int), .int .i64 (k : Int)] w fun e w' => e = .returned (.tuple #[tx ((bin n k : Nat) : Int), .int .i64 0]) ∧ Below w.heap.size w w' := by
  have HS := hide hs
  have hk0 : ¬ (k : Int) < 0 := by omega
  clear hs
  by_cases h : n < k
  · have hkn : (n : Int) < (k : Int) := by omega
    rw [bin_far h]
    go_enter Tryz.func85, Tryz.ntmps85
    go_wp2_with fail
    go_ret2
    exact ⟨by show Ending.returned (Value.tuple #[.string ⟨#[48]⟩, .int .i64 0]) = Ending.returned (Value.tuple #[tx 0, .int .i64 0]); rw [tx_zero], Below.refl _ _⟩
  · by_cases hkk : k ≤ n - k
    · skip
      have hmn : (k : Int) ≤ ((n - k : Nat) : Int) := by omega
      have hkn : ¬ (n : Int) < (k : Int) := by omega
      have hw : IntKind.i64.wrap ((n : Int) - (k : Int)) = ((n - k : Nat) : Int) := (IntWalk.i64_in _ (by omega)).trans (by omega)
      obtain ⟨R, hR⟩ : ∃ R, bin n k = R := ⟨_, rfl⟩
      have HBK : Hid (bin n (k) = R) := hide (hR)
      rw [hR]
      clear hR
      have H1 : Hid (Value.string ⟨#[49]⟩ = tx ((bin n 0 : Nat) : Int)) := hide (by rw [bin_zero]; exact tx_one.symm)
      go_enter Tryz.func85, Tryz.ntmps85
      go_wp2_with fail
      go_loopg [6, 23] (k) (fun q ov iv wr => ∃ j : Nat, iv = .int .i64 (j : Int) ∧ q + j = k ∧ ov = tx ((bin n j : Nat) : Int) ∧ Below w.heap.size w wr)
      case atStart => exact ⟨0, rfl, by omega, H1.out, Below.refl _ _⟩
      case round =>
        obtain ⟨j, rfl, hq, rfl, hb⟩ := hrel
        have HQ := hide hq
        have HB := hide hb
        have hjK : j ≤ k := by omega
        clear hq hb
        by_cases hlt : j < k
        · have hji : (j : Int) < ((k : Nat) : Int) := by omega
          have hw1 : IntKind.i64.wrap ((n : Int) - (j : Int)) = ((n - j : Nat) : Int) := (IntWalk.i64_in _ (by omega)).trans (by omega)
          have hw2 : IntKind.i64.wrap ((j : Int) + 1) = ((j + 1 : Nat) : Int) := (IntWalk.i64_in _ (by omega)).trans (by omega)
          have s1 := bin64 (k := j) hn
          have s2 := bin64 (k := j + 1) hn
          have hst := bin_step n j
          have s3 : bin n j * (n - j) < 10 ^ 30 := by
            have : bin n j * (n - j) ≤ 10 ^ 20 * 64 := Nat.mul_le_mul (by omega) (by omega)
            have : (10 : Nat) ^ 20 * 64 < 10 ^ 30 := by decide
            omega
          have p20 : (10 : Nat) ^ 20 < 10 ^ 30 := by decide
          have C1 := hide (fun W (hS : Std W) => of_any ((n - j : Nat) : Int) (by omega) (by omega) W hS)
          have C2 := hide (fun W (hS : Std W) => mulT_any W ((bin n j : Nat) : Int) ((n - j : Nat) : Int) (small30 (by omega)) (small30 (by omega)) (by rw [← Int.natCast_mul]; exact small30 s3) hS)
          have C3 := hide (fun W (hS : Std W) => of_any ((j + 1 : Nat) : Int) (by omega) (by omega) W hS)
          have C4 := hide (fun W (hS : Std W) => quoT_any W (((bin n j : Nat) : Int) * ((n - j : Nat) : Int)) ((j + 1 : Nat) : Int) ((bin n (j + 1) : Nat) : Int) (by rw [← Int.natCast_mul]; exact small30 s3) (small30 (by omega)) (by omega) (by rw [← Int.natCast_mul, ← Int.natCast_mul, hst]) (small30 (by omega)) hS)
          clear s1 s2 hst s3 p20
          go_wp2_with fail
          refine (C1.out _ (HS.out.below HB.out (Nat.le_refl _))).mono ?_
          rintro e w1 ⟨rfl, hb1⟩
          have HB1 := hide (HB.out.trans (hb1.mono HB.out.size))
          clear hb1
          go_wp2_with fail
          refine (C2.out _ (HS.out.below HB1.out (Nat.le_refl _))).mono ?_
          rintro e w2 ⟨rfl, hb2⟩
          have HB2 := hide (HB1.out.trans (hb2.mono HB1.out.size))
          clear hb2
          go_wp2_with fail
          refine (C3.out _ (HS.out.below HB2.out (Nat.le_refl _))).mono ?_
          rintro e w3 ⟨rfl, hb3⟩
          have HB3 := hide (HB2.out.trans (hb3.mono HB2.out.size))
          clear hb3
          go_wp2_with fail
          refine (C4.out _ (HS.out.below HB3.out (Nat.le_refl _))).mono ?_
          rintro e w4 ⟨rfl, hb4⟩
          have HB4 := hide (HB3.out.trans (hb4.mono HB3.out.size))
          clear hb4 C1 C2 C3 C4
          go_wp2_with fail
          go_roundg (gk - 1)
          case measure => have := HQ.out; omega
          case rel => exact ⟨j + 1, by go_num, by have := HQ.out; omega, rfl, HB4.out⟩
        · have hji : ¬ (j : Int) < ((k : Nat) : Int) := by omega
          obtain rfl : j = k := by omega
          go_wp2_with fail
          go_ret2
          exact ⟨by rw [← HBK.out]; rfl, HB.out⟩
    · skip
      have hmn : ¬ (k : Int) ≤ ((n - k : Nat) : Int) := by omega
      have hmn2 : ((n - k : Nat) : Int) < (k : Int) := by omega
      have hkn : ¬ (n : Int) < (k : Int) := by omega
      have hw : IntKind.i64.wrap ((n : Int) - (k : Int)) = ((n - k : Nat) : Int) := (IntWalk.i64_in _ (by omega)).trans (by omega)
      obtain ⟨R, hR⟩ : ∃ R, bin n k = R := ⟨_, rfl⟩
      have HBK : Hid (bin n (n - k) = R) := hide ((bin_symm (by omega)).trans hR)
      rw [hR]
      clear hR
      have H1 : Hid (Value.string ⟨#[49]⟩ = tx ((bin n 0 : Nat) : Int)) := hide (by rw [bin_zero]; exact tx_one.symm)
      go_enter Tryz.func85, Tryz.ntmps85
      go_wp2_with fail
      go_loopg [6, 23] (n - k) (fun q ov iv wr => ∃ j : Nat, iv = .int .i64 (j : Int) ∧ q + j = n - k ∧ ov = tx ((bin n j : Nat) : Int) ∧ Below w.heap.size w wr)
      case atStart => exact ⟨0, rfl, by omega, H1.out, Below.refl _ _⟩
      case round =>
        obtain ⟨j, rfl, hq, rfl, hb⟩ := hrel
        have HQ := hide hq
        have HB := hide hb
        have hjK : j ≤ (n - k) := by omega
        clear hq hb
        by_cases hlt : j < (n - k)
        · have hji : (j : Int) < (((n - k) : Nat) : Int) := by omega
          have hw1 : IntKind.i64.wrap ((n : Int) - (j : Int)) = ((n - j : Nat) : Int) := (IntWalk.i64_in _ (by omega)).trans (by omega)
          have hw2 : IntKind.i64.wrap ((j : Int) + 1) = ((j + 1 : Nat) : Int) := (IntWalk.i64_in _ (by omega)).trans (by omega)
          have s1 := bin64 (k := j) hn
          have s2 := bin64 (k := j + 1) hn
          have hst := bin_step n j
          have s3 : bin n j * (n - j) < 10 ^ 30 := by
            have : bin n j * (n - j) ≤ 10 ^ 20 * 64 := Nat.mul_le_mul (by omega) (by omega)
            have : (10 : Nat) ^ 20 * 64 < 10 ^ 30 := by decide
            omega
          have p20 : (10 : Nat) ^ 20 < 10 ^ 30 := by decide
          have C1 := hide (fun W (hS : Std W) => of_any ((n - j : Nat) : Int) (by omega) (by omega) W hS)
          have C2 := hide (fun W (hS : Std W) => mulT_any W ((bin n j : Nat) : Int) ((n - j : Nat) : Int) (small30 (by omega)) (small30 (by omega)) (by rw [← Int.natCast_mul]; exact small30 s3) hS)
          have C3 := hide (fun W (hS : Std W) => of_any ((j + 1 : Nat) : Int) (by omega) (by omega) W hS)
          have C4 := hide (fun W (hS : Std W) => quoT_any W (((bin n j : Nat) : Int) * ((n - j : Nat) : Int)) ((j + 1 : Nat) : Int) ((bin n (j + 1) : Nat) : Int) (by rw [← Int.natCast_mul]; exact small30 s3) (small30 (by omega)) (by omega) (by rw [← Int.natCast_mul, ← Int.natCast_mul, hst]) (small30 (by omega)) hS)
          clear s1 s2 hst s3 p20
          go_wp2_with fail
          refine (C1.out _ (HS.out.below HB.out (Nat.le_refl _))).mono ?_
          rintro e w1 ⟨rfl, hb1⟩
          have HB1 := hide (HB.out.trans (hb1.mono HB.out.size))
          clear hb1
          go_wp2_with fail
          refine (C2.out _ (HS.out.below HB1.out (Nat.le_refl _))).mono ?_
          rintro e w2 ⟨rfl, hb2⟩
          have HB2 := hide (HB1.out.trans (hb2.mono HB1.out.size))
          clear hb2
          go_wp2_with fail
          refine (C3.out _ (HS.out.below HB2.out (Nat.le_refl _))).mono ?_
          rintro e w3 ⟨rfl, hb3⟩
          have HB3 := hide (HB2.out.trans (hb3.mono HB2.out.size))
          clear hb3
          go_wp2_with fail
          refine (C4.out _ (HS.out.below HB3.out (Nat.le_refl _))).mono ?_
          rintro e w4 ⟨rfl, hb4⟩
          have HB4 := hide (HB3.out.trans (hb4.mono HB3.out.size))
          clear hb4 C1 C2 C3 C4
          go_wp2_with fail
          go_roundg (gk - 1)
          case measure => have := HQ.out; omega
          case rel => exact ⟨j + 1, by go_num, by have := HQ.out; omega, rfl, HB4.out⟩
        · have hji : ¬ (j : Int) < (((n - k) : Nat) : Int) := by omega
          obtain rfl : j = (n - k) := by omega
          go_wp2_with fail
          go_ret2
          exact ⟨by rw [← HBK.out]; rfl, HB.out⟩
def prodP (zs : List Int) (j : Nat) : Int := (zs.take j).foldl (fun a b => a * b) 1
theorem prodP_succ {zs : List Int} {j : Nat} {z : Int} (h : zs[j]? = some z) : prodP zs (j + 1) = prodP zs j * z := by
  unfold prodP
  rw [List.take_add_one, h]
  simp
set_option maxRecDepth 100000 in
set_option maxHeartbeats 4000000 in
theorem product_any (w : World) (g c : Nat) (t : TypeId) (zs : List Int) (hg : Blk w g t ((zs.map tx).toArray)) (hz : ∀ z ∈ zs, z.natAbs < Big) (hp : ∀ j, j ≤ zs.length → (prodP zs j).natAbs < Big) (hL : zs.length ≤ 1000) (hs : Std w) :
    Calls Tryz.prog 86 #[.slice (some ⟨g, 0, none⟩) zs.length c] w fun e w' => e = .returned (.tuple #[tx (prodP zs zs.length), .int .i64 0]) ∧ Below w.heap.size w w' := by
  have HS := hide hs
  have HG := hide hg
  have HZ := hide hz
  have HP := hide hp
  have H1 : Hid (Value.string ⟨#[49]⟩ = tx (prodP zs 0)) := hide tx_one.symm
  clear hs hg hz hp
  go_enter Tryz.func86, Tryz.ntmps86
  go_wp2_with fail
  go_loopg [4, 10] zs.length (fun q ov iv wr => ∃ j : Nat, iv = .int .i64 (j : Int) ∧ q + j = zs.length ∧ ov = tx (prodP zs j) ∧ Below w.heap.size w wr)
  case atStart => exact ⟨0, rfl, by omega, H1.out, Below.refl _ _⟩
  case round =>
    obtain ⟨j, rfl, hq, rfl, hb⟩ := hrel
    have HQ := hide hq
    have HB := hide hb
    have hjK : j ≤ zs.length := by omega
    clear hq hb
    by_cases hlt : j < zs.length
    · have hji : (j : Int) < (zs.length : Int) := by omega
      have hj0 : (0 : Int) ≤ (j : Int) := by omega
      obtain ⟨z, hz⟩ : ∃ z, zs[j]? = some z := ⟨_, List.getElem?_eq_getElem hlt⟩
      have hzm := List.mem_of_getElem? hz
      have a0 : w.cell? ⟨g, j, none⟩ = some (tx z) := (Blk.cell HG.out j).trans (by simp [hz])
      have a1 := (bcell HB.out _ _ (block_lt_of_cell a0)).trans a0
      have hps := prodP_succ hz
      have hpb := HP.out (j + 1) (by omega)
      rw [hps] at hpb
      have C1 := hide (fun W (hS : Std W) => mulT_any W (prodP zs j) z (HP.out j hjK) (HZ.out z hzm) hpb hS)
      have HPS := hide hps
      clear a0 hz hzm hps hpb
      go_wp2_with fail
      refine (C1.out _ (HS.out.below HB.out (Nat.le_refl _))).mono ?_
      rintro e w1 ⟨rfl, hb1⟩
      have HB1 := hide (HB.out.trans (hb1.mono HB.out.size))
      clear hb1 a1 C1
      go_wp2_with fail
      go_roundg (gk - 1)
      case measure => have := HQ.out; omega
      case rel => exact ⟨j + 1, by go_num, by have := HQ.out; omega, by rw [HPS.out], HB1.out⟩
    · have hji : ¬ (j : Int) < (zs.length : Int) := by omega
      obtain rfl : j = zs.length := by omega
      go_wp2_with fail
      go_ret2
      exact ⟨rfl, HB.out⟩
theorem small40 {n : Nat} (h : n < 10 ^ 40) : ((n : Nat) : Int).natAbs < Big := by
  have := pow_big (k := 40) (by decide)
  rw [Int.natAbs_natCast]; omega
set_option maxRecDepth 100000 in
set_option maxHeartbeats 4000000 in
theorem samples_any (w : World) (N C lot bad k : Nat) (hb : bad ≤ lot) (hl : lot ≤ 64) (hk : k ≤ N) (hN : N ≤ 64) (hs : Std w) :
    Calls Tryz.prog 134 #[.agg #[.int .i64 (N : Int), .int .i64 (C : Int)], .int .i64 (lot : Int), .int .i64 (bad : Int), .int .i64 (k : Int)] w fun e w' => e = .returned (.tuple #[tx ((bin bad k * bin (lot - bad) (N - k) : Nat) : Int), .int .i64 0]) ∧ Below w.heap.size w w' := by
  have HS := hide hs
  clear hs
  have hw1 : IntKind.i64.wrap ((lot : Int) - (bad : Int)) = ((lot - bad : Nat) : Int) := (IntWalk.i64_in _ (by omega)).trans (by omega)
  have hw2 : IntKind.i64.wrap ((N : Int) - (k : Int)) = ((N - k : Nat) : Int) := (IntWalk.i64_in _ (by omega)).trans (by omega)
  have s1 := bin64 (n := bad) (k := k) (by omega)
  have s2 := bin64 (n := lot - bad) (k := N - k) (by omega)
  have p20 : (10 : Nat) ^ 20 < 10 ^ 30 := by decide
  have s3 : bin bad k * bin (lot - bad) (N - k) < 10 ^ 40 := by
    have : bin bad k * bin (lot - bad) (N - k) ≤ 10 ^ 20 * bin (lot - bad) (N - k) := Nat.mul_le_mul_right _ (by omega)
    have : 10 ^ 20 * bin (lot - bad) (N - k) < 10 ^ 20 * 10 ^ 20 := Nat.mul_lt_mul_of_pos_left s2 (by decide)
    have : (10 : Nat) ^ 20 * 10 ^ 20 = 10 ^ 40 := by decide
    omega
  obtain ⟨a, ha⟩ : ∃ a, bin bad k = a := ⟨_, rfl⟩
  obtain ⟨d, hd⟩ : ∃ d, bin (lot - bad) (N - k) = d := ⟨_, rfl⟩
  rw [ha, hd] at s3
  rw [ha] at s1
  rw [hd] at s2
  have C1 := hide (fun W (hS : Std W) => chosen_any W bad k (by omega) (by omega) hS)
  have C2 := hide (fun W (hS : Std W) => chosen_any W (lot - bad) (N - k) (by omega) (by omega) hS)
  rw [ha] at C1
  rw [hd] at C2
  have hpp : prodP [((a : Nat) : Int), ((d : Nat) : Int)] 2 = ((a * d : Nat) : Int) := by simp [prodP]
  have C3 := hide (fun W g (hg : Blk W g 116 #[tx ((a : Nat) : Int), tx ((d : Nat) : Int)]) (hS : Std W) => product_any W g 2 116 [((a : Nat) : Int), ((d : Nat) : Int)] hg (by intro z hz; simp at hz; rcases hz with rfl | rfl <;> exact small30 (by omega)) (by intro j hj; match j, hj with | 0, _ => (show (1 : Int).natAbs < Big; exact small30 (n := 1) (by decide)) | 1, _ => (show ((1 : Int) * (a : Int)).natAbs < Big; rw [Int.one_mul]; exact small30 (by omega)) | 2, _ => (rw [hpp]; exact small40 s3)) (by simp) hS)
  rw [show [((a : Nat) : Int), ((d : Nat) : Int)].length = 2 from rfl, hpp] at C3
  rw [ha, hd]
  clear ha hd s1 s2 s3 p20 hpp
  have HB := allocs_below w [.cells #[.int .i64 (N : Int), .int .i64 (C : Int)] 91]
  have K_p : Blk (allocs w [.cells #[.int .i64 (N : Int), .int .i64 (C : Int)] 91]) (w.heap.size + 0) 91 #[.int .i64 (N : Int), .int .i64 (C : Int)] := allocs_at w [.cells #[.int .i64 (N : Int), .int .i64 (C : Int)] 91] 0 rfl
  unfold allocs at HB K_p
  simp only [List.foldl_cons, List.foldl_nil] at HB K_p
  rw [Nat.add_zero] at K_p
  go_enter Tryz.func134, Tryz.ntmps134
  go_upto_region 1 with (fail)
  generalize (w.alloc (.cells #[.int .i64 (N : Int), .int .i64 (C : Int)] 91)) = w0 at *
  replace K_p := hide K_p
  replace HB := hide HB
  go_wp2_with fail
  refine (C1.out _ (HS.out.below HB.out (Nat.le_refl _))).mono ?_
  rintro e w1 ⟨rfl, hb⟩
  replace K_p := hide (Blk.below K_p.out hb (Blk.lt K_p.out))
  replace HB := hide (HB.out.trans (hb.mono HB.out.size))
  clear hb
  have p0 := (Blk.cell K_p.out 0).trans (rfl : _ = some (Value.int .i64 (N : Int)))
  have p1 := (Blk.cell K_p.out 1).trans (rfl : _ = some (Value.int .i64 (C : Int)))
  go_wp2_with fail
  refine (C2.out _ (HS.out.below HB.out (Nat.le_refl _))).mono ?_
  rintro e w2 ⟨rfl, hb⟩
  clear p0 p1
  replace K_p := hide (Blk.below K_p.out hb (Blk.lt K_p.out))
  replace HB := hide (HB.out.trans (hb.mono HB.out.size))
  clear hb
  go_wp2_with fail
  have lt_m_p : w.heap.size < w2.heap.size := Blk.lt K_p.out
  replace K_p := K_p.out.alloc (.cells #[tx ((a : Nat) : Int), tx ((d : Nat) : Int)] 116)
  replace HB := HB.out.alloc HB.out.size (.cells #[tx ((a : Nat) : Int), tx ((d : Nat) : Int)] 116)
  have K_m := Blk.new w2 116 #[tx ((a : Nat) : Int), tx ((d : Nat) : Int)]
  generalize w2.alloc (.cells #[tx ((a : Nat) : Int), tx ((d : Nat) : Int)] 116) = wb at *
  replace K_p := hide K_p
  replace K_m := hide K_m
  replace HB := hide HB
  refine (C3.out _ _ K_m.out (HS.out.below HB.out (Nat.le_refl _))).mono ?_
  rintro e w9 ⟨rfl, hb⟩
  replace K_p := hide (Blk.below K_p.out hb (Blk.lt K_p.out))
  replace K_m := hide (Blk.below K_m.out hb (Blk.lt K_m.out))
  replace HB := hide (HB.out.trans (hb.mono HB.out.size))
  clear hb
  go_wp2_with fail
  go_ret2
  exact ⟨rfl, HB.out⟩
end Go.Proofs.YthmmgjieppknkaaGreatDoor

namespace Go.Proofs.YthmmgjieppknkaaGreatDoor
open Go.RowKit Go.Shelf MLab
theorem smallm {n m : Nat} (hm : m ≤ 1024) (h : n < 10 ^ m) : ((n : Nat) : Int).natAbs < Big := by
  have := pow_big hm
  rw [Int.natAbs_natCast]; omega
set_option maxRecDepth 100000 in
set_option maxHeartbeats 4000000 in
theorem total_any (w : World) (c m : Nat) (al : Int) (F : FuncId) (caps : Array Value) (hen : ∀ args w, (callFunc F args).run Tryz.prog w = .ok (.enter F args) w) (f : Nat → Nat)
    (hT : ∀ k, k ≤ c → ∀ W, Below w.heap.size w W → Calls Tryz.prog F (#[.int .i64 (k : Int)] ++ caps) W fun e W' => e = .returned (.tuple #[tx ((f k : Nat) : Int), .int .i64 0]) ∧ Below W.heap.size W W')
    (hm : m ≤ 1024) (hsm : sumN f (c + 1) < 10 ^ m) (h0 : al ≠ 0) (hal : al.natAbs < Big) (hc : c ≤ 1000) (hs : Std w) :
    Calls Tryz.prog 83 #[.int .i64 (c : Int), tx al, .func (.func F) #[] caps] w fun e w' => RetRat (Rat.divInt ((sumN f (c + 1) : Nat) : Int) al) e ∧ Below w.heap.size w w' := by
  have HS := hide hs
  have HT := hide hT
  have HM := hide hsm
  have HA := hide hal
  have hw : IntKind.i64.wrap ((c : Int) + 1) = ((c + 1 : Nat) : Int) := (IntWalk.i64_in _ (by omega)).trans (by omega)
  have H1 : Hid (Value.string ⟨#[48]⟩ = tx ((sumN f 0 : Nat) : Int)) := hide tx_zero.symm
  have HX := hide (fun W (hS : Std W) => make_any W _ _ ((sumN f (c + 1) : Nat) : Int) al (twoT (smallm hm hsm) hal) h0 hS)
  clear hs hT hsm hal h0
  go_enter Tryz.func83, Tryz.ntmps83
  go_wp2_with fail
  go_loopg [8, 14] (c + 1) (fun q ov iv wr => ∃ j : Nat, iv = .int .i64 (j : Int) ∧ q + j = c + 1 ∧ ov = tx ((sumN f j : Nat) : Int) ∧ Below w.heap.size w wr)
  case atStart => exact ⟨0, rfl, by omega, H1.out, Below.refl _ _⟩
  case round =>
    obtain ⟨j, rfl, hq, rfl, hb⟩ := hrel
    have HQ := hide hq
    have HB := hide hb
    have hjK : j ≤ c + 1 := by omega
    clear hq hb
    by_cases hlt : j < c + 1
    · have hji : (j : Int) < ((c + 1 : Nat) : Int) := by omega
      have hm1 := sumN_mono f (a := j + 1) (b := c + 1) (by omega)
      have hm2 : sumN f (j + 1) = sumN f j + f j := rfl
      have hsm := HM.out
      have C1 := hide (HT.out j (by omega))
      have C2 := hide (fun W (hS : Std W) => addT_any W ((sumN f j : Nat) : Int) ((f j : Nat) : Int) (smallm hm (by omega)) (smallm hm (by omega)) (by rw [← Int.natCast_add]; exact smallm hm (by omega)) hS)
      obtain ⟨s1, hs1⟩ : ∃ s, sumN f j = s := ⟨_, rfl⟩
      obtain ⟨s2, hs2⟩ : ∃ s, f j = s := ⟨_, rfl⟩
      rw [hs1, hs2] at C2
      rw [hs2] at C1
      have HE : Hid (((s1 : Nat) : Int) + ((s2 : Nat) : Int) = ((sumN f (j + 1) : Nat) : Int)) := hide (by rw [hm2, hs1, hs2, Int.natCast_add])
      rw [hs1]
      clear hm1 hm2 hsm hs1 hs2
      go_wp2_with fail
      refine (C1.out _ HB.out).mono ?_
      rintro e w1 ⟨rfl, hb1⟩
      have HB1 := hide (HB.out.trans (hb1.mono HB.out.size))
      clear hb1
      go_wp2_with fail
      refine (C2.out _ (HS.out.below HB1.out (Nat.le_refl _))).mono ?_
      rintro e w2 ⟨rfl, hb2⟩
      have HB2 := hide (HB1.out.trans (hb2.mono HB1.out.size))
      clear hb2 C1 C2
      go_wp2_with fail
      go_roundg (gk - 1)
      case measure => have := HQ.out; omega
      case rel => exact ⟨j + 1, by go_num, by have := HQ.out; omega, by rw [← HE.out], HB2.out⟩
    · have hji : ¬ (j : Int) < ((c + 1 : Nat) : Int) := by omega
      obtain rfl : j = c + 1 := by omega
      go_wp2_with fail
      refine (HX.out _ (HS.out.below HB.out (Nat.le_refl _))).mono ?_
      rintro e w1 ⟨rfl, hb1⟩
      have HB1 := hide (HB.out.trans (hb1.mono HB.out.size))
      clear hb1
      go_wp2_with fail
      go_ret2
      exact ⟨rfl, HB1.out⟩
set_option maxRecDepth 100000 in
set_option maxHeartbeats 2000000 in

theorem accept1_any (w : World) (N C lot bad k b1 b2 b3 : Nat) (h1 : Blk w b1 91 #[.int .i64 (N : Int), .int .i64 (C : Int)]) (h2 : Blk w b2 3 #[.int .i64 (lot : Int)]) (h3 : Blk w b3 3 #[.int .i64 (bad : Int)]) (hb : bad ≤ lot) (hl : lot ≤ 64) (hk : k ≤ N) (hN : N ≤ 64) (hs : Std w) :
    Calls Tryz.prog 133 #[.int .i64 (k : Int), .pointer (some ⟨b1, 0, none⟩), .pointer (some ⟨b2, 0, none⟩), .pointer (some ⟨b3, 0, none⟩)] w fun e w' => e = .returned (.tuple #[tx ((bin bad k * bin (lot - bad) (N - k) : Nat) : Int), .int .i64 0]) ∧ Below w.heap.size w w' := by
  have HC := hide (samples_any w N C lot bad k hb hl hk hN hs)
  have a0 := Blk.cell h1 0
  have a1 := Blk.cell h1 1
  have a2 := Blk.cell h2 0
  have a3 := Blk.cell h3 0
  obtain ⟨s, hs1⟩ : ∃ s, bin bad k * bin (lot - bad) (N - k) = s := ⟨_, rfl⟩
  rw [hs1] at HC ⊢
  clear h1 h2 h3 hs hs1
  go_enter Tryz.func133, Tryz.ntmps133
  go_wp2_with fail
  refine HC.out.mono ?_
  rintro e w1 ⟨rfl, hb1⟩
  have HB := hide hb1
  clear hb1 a0 a1 a2 a3
  go_wp2_with fail
  go_ret2
  exact ⟨rfl, HB.out⟩
set_option maxRecDepth 100000 in
set_option maxHeartbeats 4000000 in
theorem accept_any (w : World) (N C lot bad : Nat) (hC : C ≤ N) (hNl : N ≤ lot) (hbl : bad ≤ lot) (hl : lot ≤ 64) (hN : N ≤ 64) (hs : Std w) :
    Calls Tryz.prog 92 #[.agg #[.int .i64 (N : Int), .int .i64 (C : Int)], .int .i64 (lot : Int), .int .i64 (bad : Int)] w fun e w' => RetRat (accQ bad (lot - bad) N C) e ∧ Below w.heap.size w w' := by
  have HS := hide hs
  clear hs
  have s1 := bin64 (n := lot) (k := N) (by omega)
  have hbp := bin_pos (n := lot) (k := N) (by omega)
  have p20 : (10 : Nat) ^ 20 < 10 ^ 30 := by decide
  have hsum : accN bad (lot - bad) N C < 10 ^ 30 := by
    have h1 := accN_monoC bad (lot - bad) N hC
    rw [accN_all, show bad + (lot - bad) = lot by omega] at h1
    omega
  have HQ : Hid (accQ bad (lot - bad) N C = Rat.divInt ((sumN (fun k => bin bad k * bin (lot - bad) (N - k)) (C + 1) : Nat) : Int) ((bin lot N : Nat) : Int)) := hide (by unfold accQ accN; rw [show bad + (lot - bad) = lot by omega])
  have C1 := hide (fun W (hS : Std W) => chosen_any W lot N (by omega) (by omega) hS)
  have hb0 : ((bin lot N : Nat) : Int) ≠ 0 := by omega
  have hb1 := small30 (n := bin lot N) (by omega)
  obtain ⟨d, hd⟩ : ∃ d, bin lot N = d := ⟨_, rfl⟩
  rw [hd] at C1 hb0 hb1 HQ
  have HB0 := hide hb0
  have HB1 := hide hb1
  have HSM := hide hsum
  clear s1 hbp p20 hsum hb0 hb1 hd
  have HB := allocs_below w [.cells #[.int .i64 (N : Int), .int .i64 (C : Int)] 91, .cells #[.int .i64 (lot : Int)] 3, .cells #[.int .i64 (bad : Int)] 3]
  have K_p : Blk (allocs w [.cells #[.int .i64 (N : Int), .int .i64 (C : Int)] 91, .cells #[.int .i64 (lot : Int)] 3, .cells #[.int .i64 (bad : Int)] 3]) (w.heap.size + 0) 91 #[.int .i64 (N : Int), .int .i64 (C : Int)] := allocs_at w [.cells #[.int .i64 (N : Int), .int .i64 (C : Int)] 91, .cells #[.int .i64 (lot : Int)] 3, .cells #[.int .i64 (bad : Int)] 3] 0 rfl
  have K_l : Blk (allocs w [.cells #[.int .i64 (N : Int), .int .i64 (C : Int)] 91, .cells #[.int .i64 (lot : Int)] 3, .cells #[.int .i64 (bad : Int)] 3]) (w.heap.size + 1) 3 #[.int .i64 (lot : Int)] := allocs_at w [.cells #[.int .i64 (N : Int), .int .i64 (C : Int)] 91, .cells #[.int .i64 (lot : Int)] 3, .cells #[.int .i64 (bad : Int)] 3] 1 rfl
  have K_b : Blk (allocs w [.cells #[.int .i64 (N : Int), .int .i64 (C : Int)] 91, .cells #[.int .i64 (lot : Int)] 3, .cells #[.int .i64 (bad : Int)] 3]) (w.heap.size + 2) 3 #[.int .i64 (bad : Int)] := allocs_at w [.cells #[.int .i64 (N : Int), .int .i64 (C : Int)] 91, .cells #[.int .i64 (lot : Int)] 3, .cells #[.int .i64 (bad : Int)] 3] 2 rfl
  unfold allocs at HB K_p K_l K_b
  simp only [List.foldl_cons, List.foldl_nil] at HB K_p K_l K_b
  rw [Nat.add_zero] at K_p
  go_enter Tryz.func92, Tryz.ntmps92
  go_upto_region 1 with (fail)
  generalize (((w.alloc (.cells #[.int .i64 (N : Int), .int .i64 (C : Int)] 91)).alloc (.cells #[.int .i64 (lot : Int)] 3)).alloc (.cells #[.int .i64 (bad : Int)] 3)) = w0 at *
  replace K_p := hide K_p
  replace K_l := hide K_l
  replace K_b := hide K_b
  replace HB := hide HB
  have p0 := (Blk.cell K_p.out 0).trans (rfl : _ = some (Value.int .i64 (N : Int)))
  have p1 := (Blk.cell K_p.out 1).trans (rfl : _ = some (Value.int .i64 (C : Int)))
  have l0 := (Blk.cell K_l.out 0).trans (rfl : _ = some (Value.int .i64 (lot : Int)))
  go_wp2_with fail
  refine (C1.out _ (HS.out.below HB.out (Nat.le_refl _))).mono ?_
  rintro e w1 ⟨rfl, hb⟩
  clear p0 p1 l0
  replace K_p := hide (Blk.below K_p.out hb (Blk.lt K_p.out))
  replace K_l := hide (Blk.below K_l.out hb (Blk.lt K_l.out))
  replace K_b := hide (Blk.below K_b.out hb (Blk.lt K_b.out))
  replace HB := hide (HB.out.trans (hb.mono HB.out.size))
  clear hb
  have HCT := hide (total_any w1 C 30 ((d : Nat) : Int) 133 #[.pointer (some ⟨w.heap.size, 0, none⟩), .pointer (some ⟨(w.heap.size + 1), 0, none⟩), .pointer (some ⟨(w.heap.size + 2), 0, none⟩)] (enters_of Tryz.func133 (by kernel_rfl) rfl) (fun k => bin bad k * bin (lot - bad) (N - k)) (fun k hk W' hb => accept1_any W' N C lot bad k _ _ _ (Blk.below K_p.out hb (Blk.lt K_p.out)) (Blk.below K_l.out hb (Blk.lt K_l.out)) (Blk.below K_b.out hb (Blk.lt K_b.out)) hbl hl (by omega) hN ((HS.out.below HB.out (Nat.le_refl _)).below hb (Nat.le_refl _))) (by decide) HSM.out HB0.out HB1.out (by omega) (HS.out.below HB.out (Nat.le_refl _)))
  have p0 := (Blk.cell K_p.out 0).trans (rfl : _ = some (Value.int .i64 (N : Int)))
  have p1 := (Blk.cell K_p.out 1).trans (rfl : _ = some (Value.int .i64 (C : Int)))
  go_wp2_with fail
  refine HCT.out.mono ?_
  rintro e w9 ⟨rfl, hb⟩
  clear HCT
  clear p0 p1
  replace K_p := hide (Blk.below K_p.out hb (Blk.lt K_p.out))
  replace K_l := hide (Blk.below K_l.out hb (Blk.lt K_l.out))
  replace K_b := hide (Blk.below K_b.out hb (Blk.lt K_b.out))
  replace HB := hide (HB.out.trans (hb.mono HB.out.size))
  clear hb
  go_wp2_with fail
  go_ret2
  exact ⟨by rw [HQ.out]; rfl, HB.out⟩
end Go.Proofs.YthmmgjieppknkaaGreatDoor

namespace Go.Proofs.YthmmgjieppknkaaGreatDoor
open Go.RowKit Go.Shelf MLab
def ckP (N C : Int) : Int := if 1 ≤ N ∧ N ≤ 256 ∧ 0 ≤ C ∧ C ≤ N then 0 else 2
def ckL (N C lot : Int) : Int := if (1 ≤ N ∧ N ≤ 256 ∧ 0 ≤ C ∧ C ≤ N) ∧ N ≤ lot ∧ lot ≤ 4096 then 0 else 2
def ckG (N C lot bad : Int) : Int := if ((1 ≤ N ∧ N ≤ 256 ∧ 0 ≤ C ∧ C ≤ N) ∧ N ≤ lot ∧ lot ≤ 4096) ∧ 0 ≤ bad ∧ bad ≤ lot then 0 else 2
theorem ckP_zero {N C : Int} : ckP N C = 0 ↔ 1 ≤ N ∧ N ≤ 256 ∧ 0 ≤ C ∧ C ≤ N := by unfold ckP; split <;> simp_all
theorem ckP_two {N C : Int} : ckP N C = 2 ↔ ¬ (1 ≤ N ∧ N ≤ 256 ∧ 0 ≤ C ∧ C ≤ N) := by unfold ckP; split <;> simp_all
theorem ckL_zero {N C lot : Int} : ckL N C lot = 0 ↔ (1 ≤ N ∧ N ≤ 256 ∧ 0 ≤ C ∧ C ≤ N) ∧ N ≤ lot ∧ lot ≤ 4096 := by unfold ckL; split <;> simp_all
theorem ckL_two {N C lot : Int} : ckL N C lot = 2 ↔ ¬ ((1 ≤ N ∧ N ≤ 256 ∧ 0 ≤ C ∧ C ≤ N) ∧ N ≤ lot ∧ lot ≤ 4096) := by unfold ckL; split <;> simp_all
theorem ckG_zero {N C lot bad : Int} : ckG N C lot bad = 0 ↔ ((1 ≤ N ∧ N ≤ 256 ∧ 0 ≤ C ∧ C ≤ N) ∧ N ≤ lot ∧ lot ≤ 4096) ∧ 0 ≤ bad ∧ bad ≤ lot := by unfold ckG; split <;> simp_all
theorem ckG_two {N C lot bad : Int} : ckG N C lot bad = 2 ↔ ¬ (((1 ≤ N ∧ N ≤ 256 ∧ 0 ≤ C ∧ C ≤ N) ∧ N ≤ lot ∧ lot ≤ 4096) ∧ 0 ≤ bad ∧ bad ≤ lot) := by unfold ckG; split <;> simp_all
set_option maxRecDepth 100000 in
set_option maxHeartbeats 1000000 in
theorem plck_any (w : World) (N C : Int) :
    Calls Tryz.prog 78 #[.agg #[.int .i64 N, .int .i64 C]] w fun e w' => e = .returned (.int .i64 (ckP N C)) ∧ Below w.heap.size w w' := by
  by_cases h1 : N < 1
  · have hr : ckP N C = 2 := ckP_two.2 (by omega)
    rw [hr]
    clear hr
    go_enter Tryz.func78, Tryz.ntmps78
    go_wp2_with fail
    go_ret
    exact ⟨rfl, (Below.refl _ _).alloc (Nat.le_refl _) _⟩
  · by_cases h2 : 256 < N
    · have hr : ckP N C = 2 := ckP_two.2 (by omega)
      rw [hr]
      clear hr
      go_enter Tryz.func78, Tryz.ntmps78
      go_wp2_with fail
      go_ret
      exact ⟨rfl, (Below.refl _ _).alloc (Nat.le_refl _) _⟩
    · by_cases h3 : C < 0
      · have hr : ckP N C = 2 := ckP_two.2 (by omega)
        rw [hr]
        clear hr
        go_enter Tryz.func78, Tryz.ntmps78
        go_wp2_with fail
        go_ret
        exact ⟨rfl, (Below.refl _ _).alloc (Nat.le_refl _) _⟩
      · by_cases h4 : N < C
        · have hr : ckP N C = 2 := ckP_two.2 (by omega)
          rw [hr]
          clear hr
          go_enter Tryz.func78, Tryz.ntmps78
          go_wp2_with fail
          go_ret
          exact ⟨rfl, (Below.refl _ _).alloc (Nat.le_refl _) _⟩
        · have hr : ckP N C = 0 := ckP_zero.2 (by omega)
          rw [hr]
          clear hr
          go_enter Tryz.func78, Tryz.ntmps78
          go_wp2_with fail
          go_ret
          exact ⟨rfl, (Below.refl _ _).alloc (Nat.le_refl _) _⟩
set_option maxRecDepth 100000 in
set_option maxHeartbeats 1000000 in
theorem plsz_any (w : World) (N C lot : Int) :
    Calls Tryz.prog 131 #[.agg #[.int .i64 N, .int .i64 C], .int .i64 lot] w fun e w' => e = .returned (.int .i64 (ckL N C lot)) ∧ Below w.heap.size w w' := by
  by_cases h0 : ¬ (1 ≤ N ∧ N ≤ 256 ∧ 0 ≤ C ∧ C ≤ N)
  · have HC := hide (fun W => plck_any W N C)
    rw [ckP_two.2 h0] at HC
    have hr : ckL N C lot = 2 := ckL_two.2 (by omega)
    rw [hr]
    clear hr h0
    have HB := allocs_below w [.cells #[.int .i64 N, .int .i64 C] 91]
    have K_p : Blk (allocs w [.cells #[.int .i64 N, .int .i64 C] 91]) (w.heap.size + 0) 91 #[.int .i64 N, .int .i64 C] := allocs_at w [.cells #[.int .i64 N, .int .i64 C] 91] 0 rfl
    unfold allocs at HB K_p
    simp only [List.foldl_cons, List.foldl_nil] at HB K_p
    rw [Nat.add_zero] at K_p
    go_enter Tryz.func131, Tryz.ntmps131
    go_upto_region 1 with (fail)
    generalize (w.alloc (.cells #[.int .i64 N, .int .i64 C] 91)) = w0 at *
    replace K_p := hide K_p
    replace HB := hide HB
    have p0 := (Blk.cell K_p.out 0).trans (rfl : _ = some (Value.int .i64 N))
    have p1 := (Blk.cell K_p.out 1).trans (rfl : _ = some (Value.int .i64 C))
    go_wp2_with fail
    refine (HC.out _).mono ?_
    rintro e w1 ⟨rfl, hb⟩
    clear p0 p1
    replace K_p := hide (Blk.below K_p.out hb (Blk.lt K_p.out))
    replace HB := hide (HB.out.trans (hb.mono HB.out.size))
    clear hb
    go_wp2_with fail
    go_ret
    exact ⟨rfl, HB.out⟩
  · by_cases h1 : lot < N
    · have HC := hide (fun W => plck_any W N C)
      rw [ckP_zero.2 (Classical.not_not.1 h0)] at HC
      have hr : ckL N C lot = 2 := ckL_two.2 (by omega)
      rw [hr]
      clear hr h0
      have HB := allocs_below w [.cells #[.int .i64 N, .int .i64 C] 91]
      have K_p : Blk (allocs w [.cells #[.int .i64 N, .int .i64 C] 91]) (w.heap.size + 0) 91 #[.int .i64 N, .int .i64 C] := allocs_at w [.cells #[.int .i64 N, .int .i64 C] 91] 0 rfl
      unfold allocs at HB K_p
      simp only [List.foldl_cons, List.foldl_nil] at HB K_p
      rw [Nat.add_zero] at K_p
      go_enter Tryz.func131, Tryz.ntmps131
      go_upto_region 1 with (fail)
      generalize (w.alloc (.cells #[.int .i64 N, .int .i64 C] 91)) = w0 at *
      replace K_p := hide K_p
      replace HB := hide HB
      have p0 := (Blk.cell K_p.out 0).trans (rfl : _ = some (Value.int .i64 N))
      have p1 := (Blk.cell K_p.out 1).trans (rfl : _ = some (Value.int .i64 C))
      go_wp2_with fail
      refine (HC.out _).mono ?_
      rintro e w1 ⟨rfl, hb⟩
      clear p0 p1
      replace K_p := hide (Blk.below K_p.out hb (Blk.lt K_p.out))
      replace HB := hide (HB.out.trans (hb.mono HB.out.size))
      clear hb
      have p0 := (Blk.cell K_p.out 0).trans (rfl : _ = some (Value.int .i64 N))
      have p1 := (Blk.cell K_p.out 1).trans (rfl : _ = some (Value.int .i64 C))
      go_wp2_with fail
      go_ret
      exact ⟨rfl, HB.out⟩
    · by_cases h2 : 4096 < lot
      · have HC := hide (fun W => plck_any W N C)
        rw [ckP_zero.2 (Classical.not_not.1 h0)] at HC
        have hr : ckL N C lot = 2 := ckL_two.2 (by omega)
        rw [hr]
        clear hr h0
        have HB := allocs_below w [.cells #[.int .i64 N, .int .i64 C] 91]
        have K_p : Blk (allocs w [.cells #[.int .i64 N, .int .i64 C] 91]) (w.heap.size + 0) 91 #[.int .i64 N, .int .i64 C] := allocs_at w [.cells #[.int .i64 N, .int .i64 C] 91] 0 rfl
        unfold allocs at HB K_p
        simp only [List.foldl_cons, List.foldl_nil] at HB K_p
        rw [Nat.add_zero] at K_p
        go_enter Tryz.func131, Tryz.ntmps131
        go_upto_region 1 with (fail)
        generalize (w.alloc (.cells #[.int .i64 N, .int .i64 C] 91)) = w0 at *
        replace K_p := hide K_p
        replace HB := hide HB
        have p0 := (Blk.cell K_p.out 0).trans (rfl : _ = some (Value.int .i64 N))
        have p1 := (Blk.cell K_p.out 1).trans (rfl : _ = some (Value.int .i64 C))
        go_wp2_with fail
        refine (HC.out _).mono ?_
        rintro e w1 ⟨rfl, hb⟩
        clear p0 p1
        replace K_p := hide (Blk.below K_p.out hb (Blk.lt K_p.out))
        replace HB := hide (HB.out.trans (hb.mono HB.out.size))
        clear hb
        have p0 := (Blk.cell K_p.out 0).trans (rfl : _ = some (Value.int .i64 N))
        have p1 := (Blk.cell K_p.out 1).trans (rfl : _ = some (Value.int .i64 C))
        go_wp2_with fail
        go_ret
        exact ⟨rfl, HB.out⟩
      · have HC := hide (fun W => plck_any W N C)
        rw [ckP_zero.2 (Classical.not_not.1 h0)] at HC
        have hr : ckL N C lot = 0 := ckL_zero.2 (by omega)
        rw [hr]
        clear hr h0
        have HB := allocs_below w [.cells #[.int .i64 N, .int .i64 C] 91]
        have K_p : Blk (allocs w [.cells #[.int .i64 N, .int .i64 C] 91]) (w.heap.size + 0) 91 #[.int .i64 N, .int .i64 C] := allocs_at w [.cells #[.int .i64 N, .int .i64 C] 91] 0 rfl
        unfold allocs at HB K_p
        simp only [List.foldl_cons, List.foldl_nil] at HB K_p
        rw [Nat.add_zero] at K_p
        go_enter Tryz.func131, Tryz.ntmps131
        go_upto_region 1 with (fail)
        generalize (w.alloc (.cells #[.int .i64 N, .int .i64 C] 91)) = w0 at *
        replace K_p := hide K_p
        replace HB := hide HB
        have p0 := (Blk.cell K_p.out 0).trans (rfl : _ = some (Value.int .i64 N))
        have p1 := (Blk.cell K_p.out 1).trans (rfl : _ = some (Value.int .i64 C))
        go_wp2_with fail
        refine (HC.out _).mono ?_
        rintro e w1 ⟨rfl, hb⟩
        clear p0 p1
        replace K_p := hide (Blk.below K_p.out hb (Blk.lt K_p.out))
        replace HB := hide (HB.out.trans (hb.mono HB.out.size))
        clear hb
        have p0 := (Blk.cell K_p.out 0).trans (rfl : _ = some (Value.int .i64 N))
        have p1 := (Blk.cell K_p.out 1).trans (rfl : _ = some (Value.int .i64 C))
        go_wp2_with fail
        go_ret
        exact ⟨rfl, HB.out⟩
set_option maxRecDepth 100000 in
set_option maxHeartbeats 1000000 in
theorem plgv_any (w : World) (N C lot bad : Int) :
    Calls Tryz.prog 121 #[.agg #[.int .i64 N, .int .i64 C], .int .i64 lot, .int .i64 bad] w fun e w' => e = .returned (.int .i64 (ckG N C lot bad)) ∧ Below w.heap.size w w' := by
  by_cases h0 : ¬ ((1 ≤ N ∧ N ≤ 256 ∧ 0 ≤ C ∧ C ≤ N) ∧ N ≤ lot ∧ lot ≤ 4096)
  · have HC := hide (fun W => plsz_any W N C lot)
    rw [ckL_two.2 h0] at HC
    have hr : ckG N C lot bad = 2 := ckG_two.2 (by omega)
    rw [hr]
    clear hr h0
    have HB := allocs_below w [.cells #[.int .i64 N, .int .i64 C] 91]
    have K_p : Blk (allocs w [.cells #[.int .i64 N, .int .i64 C] 91]) (w.heap.size + 0) 91 #[.int .i64 N, .int .i64 C] := allocs_at w [.cells #[.int .i64 N, .int .i64 C] 91] 0 rfl
    unfold allocs at HB K_p
    simp only [List.foldl_cons, List.foldl_nil] at HB K_p
    rw [Nat.add_zero] at K_p
    go_enter Tryz.func121, Tryz.ntmps121
    go_upto_region 1 with (fail)
    generalize (w.alloc (.cells #[.int .i64 N, .int .i64 C] 91)) = w0 at *
    replace K_p := hide K_p
    replace HB := hide HB
    have p0 := (Blk.cell K_p.out 0).trans (rfl : _ = some (Value.int .i64 N))
    have p1 := (Blk.cell K_p.out 1).trans (rfl : _ = some (Value.int .i64 C))
    go_wp2_with fail
    refine (HC.out _).mono ?_
    rintro e w1 ⟨rfl, hb⟩
    clear p0 p1
    replace K_p := hide (Blk.below K_p.out hb (Blk.lt K_p.out))
    replace HB := hide (HB.out.trans (hb.mono HB.out.size))
    clear hb
    go_wp2_with fail
    go_ret
    exact ⟨rfl, HB.out⟩
  · by_cases h1 : bad < 0
    · have HC := hide (fun W => plsz_any W N C lot)
      rw [ckL_zero.2 (Classical.not_not.1 h0)] at HC
      have hr : ckG N C lot bad = 2 := ckG_two.2 (by omega)
      rw [hr]
      clear hr h0
      have HB := allocs_below w [.cells #[.int .i64 N, .int .i64 C] 91]
      have K_p : Blk (allocs w [.cells #[.int .i64 N, .int .i64 C] 91]) (w.heap.size + 0) 91 #[.int .i64 N, .int .i64 C] := allocs_at w [.cells #[.int .i64 N, .int .i64 C] 91] 0 rfl
      unfold allocs at HB K_p
      simp only [List.foldl_cons, List.foldl_nil] at HB K_p
      rw [Nat.add_zero] at K_p
      go_enter Tryz.func121, Tryz.ntmps121
      go_upto_region 1 with (fail)
      generalize (w.alloc (.cells #[.int .i64 N, .int .i64 C] 91)) = w0 at *
      replace K_p := hide K_p
      replace HB := hide HB
      have p0 := (Blk.cell K_p.out 0).trans (rfl : _ = some (Value.int .i64 N))
      have p1 := (Blk.cell K_p.out 1).trans (rfl : _ = some (Value.int .i64 C))
      go_wp2_with fail
      refine (HC.out _).mono ?_
      rintro e w1 ⟨rfl, hb⟩
      clear p0 p1
      replace K_p := hide (Blk.below K_p.out hb (Blk.lt K_p.out))
      replace HB := hide (HB.out.trans (hb.mono HB.out.size))
      clear hb
      have p0 := (Blk.cell K_p.out 0).trans (rfl : _ = some (Value.int .i64 N))
      have p1 := (Blk.cell K_p.out 1).trans (rfl : _ = some (Value.int .i64 C))
      go_wp2_with fail
      go_ret
      exact ⟨rfl, HB.out⟩
    · by_cases h2 : lot < bad
      · have HC := hide (fun W => plsz_any W N C lot)
        rw [ckL_zero.2 (Classical.not_not.1 h0)] at HC
        have hr : ckG N C lot bad = 2 := ckG_two.2 (by omega)
        rw [hr]
        clear hr h0
        have HB := allocs_below w [.cells #[.int .i64 N, .int .i64 C] 91]
        have K_p : Blk (allocs w [.cells #[.int .i64 N, .int .i64 C] 91]) (w.heap.size + 0) 91 #[.int .i64 N, .int .i64 C] := allocs_at w [.cells #[.int .i64 N, .int .i64 C] 91] 0 rfl
        unfold allocs at HB K_p
        simp only [List.foldl_cons, List.foldl_nil] at HB K_p
        rw [Nat.add_zero] at K_p
        go_enter Tryz.func121, Tryz.ntmps121
        go_upto_region 1 with (fail)
        generalize (w.alloc (.cells #[.int .i64 N, .int .i64 C] 91)) = w0 at *
        replace K_p := hide K_p
        replace HB := hide HB
        have p0 := (Blk.cell K_p.out 0).trans (rfl : _ = some (Value.int .i64 N))
        have p1 := (Blk.cell K_p.out 1).trans (rfl : _ = some (Value.int .i64 C))
        go_wp2_with fail
        refine (HC.out _).mono ?_
        rintro e w1 ⟨rfl, hb⟩
        clear p0 p1
        replace K_p := hide (Blk.below K_p.out hb (Blk.lt K_p.out))
        replace HB := hide (HB.out.trans (hb.mono HB.out.size))
        clear hb
        have p0 := (Blk.cell K_p.out 0).trans (rfl : _ = some (Value.int .i64 N))
        have p1 := (Blk.cell K_p.out 1).trans (rfl : _ = some (Value.int .i64 C))
        go_wp2_with fail
        go_ret
        exact ⟨rfl, HB.out⟩
      · have HC := hide (fun W => plsz_any W N C lot)
        rw [ckL_zero.2 (Classical.not_not.1 h0)] at HC
        have hr : ckG N C lot bad = 0 := ckG_zero.2 (by omega)
        rw [hr]
        clear hr h0
        have HB := allocs_below w [.cells #[.int .i64 N, .int .i64 C] 91]
        have K_p : Blk (allocs w [.cells #[.int .i64 N, .int .i64 C] 91]) (w.heap.size + 0) 91 #[.int .i64 N, .int .i64 C] := allocs_at w [.cells #[.int .i64 N, .int .i64 C] 91] 0 rfl
        unfold allocs at HB K_p
        simp only [List.foldl_cons, List.foldl_nil] at HB K_p
        rw [Nat.add_zero] at K_p
        go_enter Tryz.func121, Tryz.ntmps121
        go_upto_region 1 with (fail)
        generalize (w.alloc (.cells #[.int .i64 N, .int .i64 C] 91)) = w0 at *
        replace K_p := hide K_p
        replace HB := hide HB
        have p0 := (Blk.cell K_p.out 0).trans (rfl : _ = some (Value.int .i64 N))
        have p1 := (Blk.cell K_p.out 1).trans (rfl : _ = some (Value.int .i64 C))
        go_wp2_with fail
        refine (HC.out _).mono ?_
        rintro e w1 ⟨rfl, hb⟩
        clear p0 p1
        replace K_p := hide (Blk.below K_p.out hb (Blk.lt K_p.out))
        replace HB := hide (HB.out.trans (hb.mono HB.out.size))
        clear hb
        have p0 := (Blk.cell K_p.out 0).trans (rfl : _ = some (Value.int .i64 N))
        have p1 := (Blk.cell K_p.out 1).trans (rfl : _ = some (Value.int .i64 C))
        go_wp2_with fail
        go_ret
        exact ⟨rfl, HB.out⟩
set_option maxRecDepth 100000 in
set_option maxHeartbeats 1000000 in
theorem plAccept_any (w : World) (N C lot bad : Nat) (h1 : 1 ≤ N) (hC : C ≤ N) (hNl : N ≤ lot) (hbl : bad ≤ lot) (hl : lot ≤ 64) (hs : Std w) :
    Calls Tryz.prog 77 #[.agg #[.int .i64 (N : Int), .int .i64 (C : Int)], .int .i64 (lot : Int), .int .i64 (bad : Int)] w fun e w' => RetRat (accQ bad (lot - bad) N C) e ∧ Below w.heap.size w w' := by
  have HC := hide (fun W => plgv_any W (N : Int) (C : Int) (lot : Int) (bad : Int))
  rw [ckG_zero.2 (by omega)] at HC
  have HA := hide (fun W (hS : Std W) => accept_any W N C lot bad hC hNl hbl hl (by omega) hS)
  have HS := hide hs
  clear h1 hC hNl hbl hl hs
  have HB := allocs_below w [.cells #[.int .i64 (N : Int), .int .i64 (C : Int)] 91]
  have K_p : Blk (allocs w [.cells #[.int .i64 (N : Int), .int .i64 (C : Int)] 91]) (w.heap.size + 0) 91 #[.int .i64 (N : Int), .int .i64 (C : Int)] := allocs_at w [.cells #[.int .i64 (N : Int), .int .i64 (C : Int)] 91] 0 rfl
  unfold allocs at HB K_p
  simp only [List.foldl_cons, List.foldl_nil] at HB K_p
  rw [Nat.add_zero] at K_p
  go_enter Tryz.func77, Tryz.ntmps77
  go_upto_region 1 with (fail)
  generalize (w.alloc (.cells #[.int .i64 (N : Int), .int .i64 (C : Int)] 91)) = w0 at *
  replace K_p := hide K_p
  replace HB := hide HB
  have p0 := (Blk.cell K_p.out 0).trans (rfl : _ = some (Value.int .i64 (N : Int)))
  have p1 := (Blk.cell K_p.out 1).trans (rfl : _ = some (Value.int .i64 (C : Int)))
  go_wp2_with fail
  refine (HC.out _).mono ?_
  rintro e w1 ⟨rfl, hb⟩
  clear p0 p1
  replace K_p := hide (Blk.below K_p.out hb (Blk.lt K_p.out))
  replace HB := hide (HB.out.trans (hb.mono HB.out.size))
  clear hb
  have p0 := (Blk.cell K_p.out 0).trans (rfl : _ = some (Value.int .i64 (N : Int)))
  have p1 := (Blk.cell K_p.out 1).trans (rfl : _ = some (Value.int .i64 (C : Int)))
  go_wp2_with fail
  refine (HA.out _ (HS.out.below HB.out (Nat.le_refl _))).mono ?_
  rintro e w2 ⟨rfl, hb⟩
  clear p0 p1
  replace K_p := hide (Blk.below K_p.out hb (Blk.lt K_p.out))
  replace HB := hide (HB.out.trans (hb.mono HB.out.size))
  clear hb
  go_wp2_with fail
  go_ret2
  exact ⟨rfl, HB.out⟩
end Go.Proofs.YthmmgjieppknkaaGreatDoor
