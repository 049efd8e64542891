/- plan.Least, plan.Decide. -/
import Derived.Test.YtaccdkbofhlbkaaGreatDoorPlneed
import Derived.Test.YtaccdkbofhlbkaaGreatDoorPlaws4
import Derived.Test.YtaccdkbofhlbkaaGreatDoorMsub
namespace Go.Proofs.YtaccdkbofhlbkaaGreatDoor
open Go.RowKit Go.Shelf MLab

/-- The sign of a difference. -/
def sgn (p q : Rat) : Int := (p.num * q.den - q.num * p.den).sign
theorem sgn_pos {p q : Rat} : 0 < sgn p q ↔ q < p := by
  unfold sgn
  rw [Int.sign_pos_iff, Rat.lt_iff]
  omega
theorem sgn_neg {p q : Rat} : sgn p q < 0 ↔ p < q := by
  unfold sgn
  rw [Int.sign_neg_iff, Rat.lt_iff]
  omega
theorem sgn_ge {p q : Rat} : 0 ≤ sgn p q ↔ q ≤ p := by rw [← Int.not_lt, sgn_neg, Rat.not_lt]
theorem sgn_le {p q : Rat} : sgn p q ≤ 0 ↔ p ≤ q := by rw [← Int.not_lt, sgn_pos, Rat.not_lt]
theorem cmpS_any (w : World) (a b : ByteArray) (p q : Rat) (m : Nat) (ha : a.data.toList = RT p) (hb : b.data.toList = RT q) (hm : m ≤ 500) (hp : Sz m m p) (hq : Sz m m q) (hs : Std w) :
    Calls Tryz.prog 31 #[.string a, .string b] w fun e w' => e = .returned (.tuple #[.int .i64 (sgn p q), .int .i64 0]) ∧ Below w.heap.size w w' := by
  have h := rcompare_any w a b p q ha hb (hp.fit (by omega) (by omega)) (hq.fit (by omega) (by omega)) hs
  rw [cmpV, if_pos ⟨big_of_pow (cross_lt hp hq) (by omega), big_of_pow (cross_lt hq hp) (by omega)⟩] at h
  exact h
theorem subS_any (w : World) (a b : ByteArray) (p q : Rat) (m : Nat) (ha : a.data.toList = RT p) (hb : b.data.toList = RT q) (hm : m ≤ 500) (hp : Sz m m p) (hq : Sz m m q) (hs : Std w) :
    Calls Tryz.prog 51 #[.string a, .string b] w fun e w' => RetRat (p - q) e ∧ Below w.heap.size w w' :=
  rsub_any w a b p q ha hb (hp.fit (by omega) (by omega)) (hq.fit (by omega) (by omega)) (big_of_pow (cross_lt hp hq) (by omega)) (big_of_pow (cross_lt hq hp) (by omega)) (big_of_pow (dif_lt hp hq (Nat.le_refl (m + m)) (Nat.le_refl _)) (by omega)) (big_of_le (dens_le hp hq) (by omega)) hs
theorem accQ_sz {b g N C m : Nat} (hC : C ≤ N) (h : N ≤ b + g) (hl : b + g ≤ 64) (hm : 21 ≤ m) : Sz m m (accQ b g N C) := by
  have h1 := accN_lt (b := b) (g := g) hC
  have h2 := bin64 (n := b + g) (k := N) hl
  have h3 : (10 : Nat) ^ 20 ≤ 10 ^ m := Nat.pow_le_pow_right (by omega) (by omega)
  exact divi_sz (by have := bin_pos h; omega) (by omega) (by omega)
theorem sz_one {m : Nat} (hm : 1 ≤ m) : Sz m m (1 : Rat) := by
  have h := Sz.int (a := 1) (n := 1) (by decide)
  exact Sz.mono h hm (by omega)

set_option maxRecDepth 100000 in
set_option maxHeartbeats 8000000 in
theorem plLeast_any (w : World) (lot good bad : Nat) (a b : ByteArray) (h1 : 1 ≤ lot) (hl : lot ≤ 64) (hgb : good < bad) (hb1 : bad ≤ lot) (p q : Rat) (ha : a.data.toList = RT p) (hb : b.data.toList = RT q) (hp : Sz 30 30 p) (hq : Sz 30 30 q) (hup : unitQ p = 0) (huq : unitQ q = 0) (hs : Std w) :
    Calls Tryz.prog 21 #[.int .i64 (lot : Int), .int .i64 (good : Int), .int .i64 (bad : Int), .string a, .string b] w fun e w' => ∃ n c, FirstP lot good bad p q n c ∧ e = .returned (.tuple #[.agg #[.int .i64 (n : Int), .int .i64 (c : Int)], .int .i64 0]) ∧ Below w.heap.size w w' := by
  have HS := hide hs
  have HN := hide (needs_ok w (lot : Int) (good : Int) (bad : Int) a b (by omega) (by omega) (by omega) (by omega) (by omega) (by omega) (by omega) p q ha hb (hp.fit (by omega) (by omega)) (hq.fit (by omega) (by omega)) hup huq hs)
  have HNW := hide (fun W (hS : Std W) => needs_ok W (lot : Int) (good : Int) (bad : Int) a b (by omega) (by omega) (by omega) (by omega) (by omega) (by omega) (by omega) p q ha hb (hp.fit (by omega) (by omega)) (hq.fit (by omega) (by omega)) hup huq hS)
  have h01 : 0 ≤ p ∧ p ≤ 1 := by unfold unitQ at hup; split at hup; assumption; omega
  have h02 : 0 ≤ q ∧ q ≤ 1 := by unfold unitQ at huq; split at huq; assumption; omega
  have HSUB := hide (fun W (hS : Std W) => subS_any W ⟨#[49]⟩ a 1 p 30 RT_one.symm ha (by omega) (sz_one (by omega)) hp hS)
  have hsz1 : Sz 61 61 (1 - p) := ((sz_one (m := 30) (by omega)).sub hp (Nat.le_refl (30 + 30)) (Nat.le_refl _)).mono (by omega) (by omega)
  have hsz2 : Sz 61 61 q := hq.mono (by omega) (by omega)
  have HLAST := hide (meets_last (lot := lot) (pr := p) (co := q) hgb hb1 h01.1 h02.1)
  have HA1 := hide (fun (n c : Nat) (h1 : 1 ≤ n) (h2 : n ≤ lot) (h3 : c ≤ n) W (hS : Std W) => accept_any W n c lot good h3 h2 (by omega) hl (by omega) hS)
  have HA2 := hide (fun (n c : Nat) (h1 : 1 ≤ n) (h2 : n ≤ lot) (h3 : c ≤ n) W (hS : Std W) => accept_any W n c lot bad h3 h2 hb1 hl (by omega) hS)
  have HC1 := hide (fun (n c : Nat) (h1 : 1 ≤ n) (h2 : n ≤ lot) (h3 : c ≤ n) W (hS : Std W) => cmpS_any W ⟨(RT (accQ good (lot - good) n c)).toArray⟩ ⟨(RT (1 - p)).toArray⟩ (accQ good (lot - good) n c) (1 - p) 61 rfl rfl (by omega) (accQ_sz h3 (by omega) (by omega) (by omega)) hsz1 hS)
  have HC2 := hide (fun (n c : Nat) (h1 : 1 ≤ n) (h2 : n ≤ lot) (h3 : c ≤ n) W (hS : Std W) => cmpS_any W ⟨(RT (accQ bad (lot - bad) n c)).toArray⟩ b (accQ bad (lot - bad) n c) q 61 rfl hb (by omega) (accQ_sz h3 (by omega) (by omega) (by omega)) hsz2 hS)
  clear hs ha hb hp hq hup huq h01 h02 hsz1 hsz2 HN
  have HB := hide (Below.refl w.heap.size w)
  have BW := (Below.refl w.heap.size w).alloc (Nat.le_refl _) (.cells #[.int .i64 0, .int .i64 0] 30)
  have K_r := Blk.new w 30 #[.int .i64 0, .int .i64 0]
  go_enter Tryz.func21, Tryz.ntmps21
  go_upto_region 1 with (fail)
  generalize w.alloc (.cells #[.int .i64 0, .int .i64 0] 30) = w0 at *
  replace K_r := hide K_r
  replace HB := hide BW
  clear BW
  go_wp2_with fail
  refine (HNW.out _ (HS.out.below HB.out (Nat.le_refl _))).mono ?_
  rintro e w1 ⟨rfl, hb⟩
  replace K_r := hide (Blk.below K_r.out hb (Blk.lt K_r.out))
  replace HB := hide (HB.out.trans (hb.mono HB.out.size))
  clear hb
  go_wp2_with fail
  refine (HSUB.out _ (HS.out.below HB.out (Nat.le_refl _))).mono ?_
  rintro e w2 ⟨hr, hb⟩
  rw [RetRat] at hr
  subst hr
  replace K_r := hide (Blk.below K_r.out hb (Blk.lt K_r.out))
  replace HB := hide (HB.out.trans (hb.mono HB.out.size))
  clear hb
  go_wp2_with fail
  have KR2 := K_r
  have HB2 := HB
  go_loopg [15] lot (fun z iv wr => ∃ n : Nat, iv = .int .i64 (n : Int) ∧ z + n = lot + 1 ∧ 1 ≤ n ∧ (∀ n' c', 1 ≤ n' → c' ≤ n' → n' < n → meetsP lot good bad p q n' c' = false) ∧ Below w2.heap.size w2 wr)
  case atStart => exact ⟨1, rfl, rfl, Nat.le_refl _, fun n' c' h1 h2 h3 => by omega, Below.refl _ _⟩
  case round =>
    obtain ⟨n, rfl, hq, hn1, hM, hb⟩ := hrel
    have HQ := hide hq
    have HM := hide hM
    have HBA := hide hb
    clear hb
    have hnl : n ≤ lot + 1 := by omega
    clear hq hM
    obtain ⟨g0, hg0⟩ : ∃ g : Nat, g = gk := ⟨_, rfl⟩
    have HG0 := hide hg0
    clear hg0
    by_cases hlt : n ≤ lot
    · skip
      have hni : (n : Int) ≤ (lot : Int) := by omega
      go_wp2_with fail
      go_loopg [16] (n + 1) (fun z iv wr => ∃ c : Nat, iv = .int .i64 (c : Int) ∧ z + c = n + 1 ∧ (∀ n' c', 1 ≤ n' → c' ≤ n' → (n' < n ∨ (n' = n ∧ c' < c)) → meetsP lot good bad p q n' c' = false) ∧ Below w2.heap.size w2 wr)
      case atStart => exact ⟨0, rfl, rfl, fun n' c' h1 h2 h3 => HM.out n' c' h1 h2 (by omega), HBA.out⟩
      case round =>
        obtain ⟨c, rfl, hq, hM, hb⟩ := hrel
        have HQ1 := hide hq
        have HM1 := hide hM
        have HBC := hide hb
        have hcl : c ≤ n + 1 := by omega
        clear hq hM
        replace K_r := hide (Blk.below KR2.out hb (Blk.lt KR2.out))
        replace HB := hide (HB2.out.trans (hb.mono HB2.out.size))
        clear hb
        by_cases hlc : c ≤ n
        · skip
          have hci : (c : Int) ≤ (n : Int) := by omega
          have CA1 := hide (HA1.out n c hn1 hlt hlc)
          have CA2 := hide (HA2.out n c hn1 hlt hlc)
          have CC1 := hide (HC1.out n c hn1 hlt hlc)
          have CC2 := hide (HC2.out n c hn1 hlt hlc)
          have hm1 := sgn_ge (p := accQ good (lot - good) n c) (q := 1 - p)
          have hm2 := sgn_le (p := accQ bad (lot - bad) n c) (q := q)
          have hme : meetsP lot good bad p q n c = (decide (0 ≤ sgn (accQ good (lot - good) n c) (1 - p)) && decide (sgn (accQ bad (lot - bad) n c) q ≤ 0)) := by unfold meetsP; rw [decide_eq_decide.2 hm1, decide_eq_decide.2 hm2]
          obtain ⟨s1, hs1⟩ : ∃ s, sgn (accQ good (lot - good) n c) (1 - p) = s := ⟨_, rfl⟩
          obtain ⟨s2, hs2⟩ : ∃ s, sgn (accQ bad (lot - bad) n c) q = s := ⟨_, rfl⟩
          rw [hs1] at CC1 hme
          rw [hs2] at CC2 hme
          have HME := hide hme
          clear hm1 hm2 hme hs1 hs2
          go_upto_region 14 with (fail)
          have lt_q_r : w.heap.size < wr.heap.size := Blk.lt K_r.out
          replace K_r := K_r.out.alloc (.cells #[.int .i64 (n : Int), .int .i64 (c : Int)] 30)
          replace HB := HB.out.alloc HB.out.size (.cells #[.int .i64 (n : Int), .int .i64 (c : Int)] 30)
          have K_q := Blk.new wr 30 #[.int .i64 (n : Int), .int .i64 (c : Int)]
          replace HBC := HBC.out.alloc HBC.out.size (.cells #[.int .i64 (n : Int), .int .i64 (c : Int)] 30)
          generalize wr.alloc (.cells #[.int .i64 (n : Int), .int .i64 (c : Int)] 30) = wa at *
          replace K_r := hide K_r
          replace K_q := hide K_q
          replace HB := hide HB
          replace HBC := hide HBC
          have q0 := (Blk.cell K_q.out 0).trans (rfl : _ = some (Value.int .i64 (n : Int)))
          have q1 := (Blk.cell K_q.out 1).trans (rfl : _ = some (Value.int .i64 (c : Int)))
          go_wp2_with fail
          refine (CA1.out _ (HS.out.below HB.out (Nat.le_refl _))).mono ?_
          rintro e wb ⟨hr, hb⟩
          rw [RetRat] at hr
          subst hr
          replace HBC := hide (HBC.out.trans (hb.mono HBC.out.size))
          clear q0 q1
          replace K_r := hide (Blk.below K_r.out hb (Blk.lt K_r.out))
          replace K_q := hide (Blk.below K_q.out hb (Blk.lt K_q.out))
          replace HB := hide (HB.out.trans (hb.mono HB.out.size))
          clear hb
          have q0 := (Blk.cell K_q.out 0).trans (rfl : _ = some (Value.int .i64 (n : Int)))
          have q1 := (Blk.cell K_q.out 1).trans (rfl : _ = some (Value.int .i64 (c : Int)))
          go_wp2_with fail
          refine (CA2.out _ (HS.out.below HB.out (Nat.le_refl _))).mono ?_
          rintro e wc ⟨hr, hb⟩
          rw [RetRat] at hr
          subst hr
          replace HBC := hide (HBC.out.trans (hb.mono HBC.out.size))
          clear q0 q1
          replace K_r := hide (Blk.below K_r.out hb (Blk.lt K_r.out))
          replace K_q := hide (Blk.below K_q.out hb (Blk.lt K_q.out))
          replace HB := hide (HB.out.trans (hb.mono HB.out.size))
          clear hb
          have q0 := (Blk.cell K_q.out 0).trans (rfl : _ = some (Value.int .i64 (n : Int)))
          have q1 := (Blk.cell K_q.out 1).trans (rfl : _ = some (Value.int .i64 (c : Int)))
          go_wp2_with fail
          refine (CC1.out _ (HS.out.below HB.out (Nat.le_refl _))).mono ?_
          rintro e wd ⟨rfl, hb⟩
          replace HBC := hide (HBC.out.trans (hb.mono HBC.out.size))
          clear q0 q1
          replace K_r := hide (Blk.below K_r.out hb (Blk.lt K_r.out))
          replace K_q := hide (Blk.below K_q.out hb (Blk.lt K_q.out))
          replace HB := hide (HB.out.trans (hb.mono HB.out.size))
          clear hb
          have q0 := (Blk.cell K_q.out 0).trans (rfl : _ = some (Value.int .i64 (n : Int)))
          have q1 := (Blk.cell K_q.out 1).trans (rfl : _ = some (Value.int .i64 (c : Int)))
          go_wp2_with fail
          refine (CC2.out _ (HS.out.below HB.out (Nat.le_refl _))).mono ?_
          rintro e we ⟨rfl, hb⟩
          replace HBC := hide (HBC.out.trans (hb.mono HBC.out.size))
          clear q0 q1
          replace K_r := hide (Blk.below K_r.out hb (Blk.lt K_r.out))
          replace K_q := hide (Blk.below K_q.out hb (Blk.lt K_q.out))
          replace HB := hide (HB.out.trans (hb.mono HB.out.size))
          clear hb
          clear CA1 CA2 CC1 CC2
          by_cases hx : 0 ≤ s1
          · by_cases hy : s2 ≤ 0
            · skip
              have hmt : meetsP lot good bad p q n c = true := by rw [HME.out]; simp; omega
              have HF : Hid (FirstP lot good bad p q n c) := hide ⟨hn1, hlt, hlc, hmt, HM1.out⟩
              clear hmt
              have q0 := (Blk.cell K_q.out 0).trans (rfl : _ = some (Value.int .i64 (n : Int)))
              have q1 := (Blk.cell K_q.out 1).trans (rfl : _ = some (Value.int .i64 (c : Int)))
              have r0 := (Blk.cell K_r.out 0).trans (rfl : _ = some (Value.int .i64 0))
              have rf0 := Blk.frozen K_r.out 0
              have r1 := (Blk.cell K_r.out 1).trans (rfl : _ = some (Value.int .i64 0))
              have rf1 := Blk.frozen K_r.out 1
              go_wp2_with fail
              have k1 : Blk (we.setCell ⟨w.heap.size, 0, none⟩ (.int .i64 (n : Int))) w.heap.size 30 #[.int .i64 (n : Int), .int .i64 0] := K_r.out.set_ 0 (.int .i64 (n : Int))
              have k2 : Blk ((we.setCell ⟨w.heap.size, 0, none⟩ (.int .i64 (n : Int))).setCell ⟨w.heap.size, 1, none⟩ (.int .i64 (c : Int))) w.heap.size 30 #[.int .i64 (n : Int), .int .i64 (c : Int)] := k1.set_ 1 (.int .i64 (c : Int))
              have e0 : (we.setCell ⟨w.heap.size, 0, none⟩ (.int .i64 (n : Int))).cell? ⟨w.heap.size, 0, none⟩ = some (.int .i64 (n : Int)) := (Blk.cell k1 0).trans rfl
              have e1 : ((we.setCell ⟨w.heap.size, 0, none⟩ (.int .i64 (n : Int))).setCell ⟨w.heap.size, 1, none⟩ (.int .i64 (c : Int))).cell? ⟨w.heap.size, 1, none⟩ = some (.int .i64 (c : Int)) := (Blk.cell k2 1).trans rfl
              exact bodyPost_ret (v := .tuple #[.agg #[.int .i64 (n : Int), .int .i64 (c : Int)], .int .i64 0]) (by simp [results, Tryz.results21, go_sem, e0, e1]) rfl ⟨n, c, HF.out, rfl, (HB.out.setCell (p := ⟨w.heap.size, 0, none⟩) (Nat.le_refl _) _).setCell (p := ⟨w.heap.size, 1, none⟩) (Nat.le_refl _) _⟩
            · skip
              have hy2 : ¬ s2 ≤ 0 := hy
              have hmf : meetsP lot good bad p q n c = false := by rw [HME.out]; simp; omega
              have HMF := hide hmf
              clear hmf
              go_wp2_with fail
              go_roundg (gk - 1)
              case measure => have := HQ1.out; omega
              case rel => exact ⟨c + 1, by go_num, by have := HQ1.out; omega, fun n' c' h1 h2 h3 => by
    by_cases he : n' = n ∧ c' = c
    · rw [he.1, he.2]; exact HMF.out
    · exact HM1.out n' c' h1 h2 (by omega), HBC.out⟩
          · skip
            have hx2 : ¬ 0 ≤ s1 := hx
            have hmf : meetsP lot good bad p q n c = false := by rw [HME.out]; simp; omega
            have HMF := hide hmf
            clear hmf
            go_wp2_with fail
            go_roundg (gk - 1)
            case measure => have := HQ1.out; omega
            case rel => exact ⟨c + 1, by go_num, by have := HQ1.out; omega, fun n' c' h1 h2 h3 => by
    by_cases he : n' = n ∧ c' = c
    · rw [he.1, he.2]; exact HMF.out
    · exact HM1.out n' c' h1 h2 (by omega), HBC.out⟩
        · have hci : ¬ (c : Int) ≤ (n : Int) := by omega
          obtain rfl : c = n + 1 := by omega
          go_wp2_with fail
          go_roundg (g0 - 1)
          case measure => have := HQ.out; have := HG0.out; omega
          case rel => exact ⟨n + 1, by go_num, by have := HQ.out; have := HG0.out; omega, by omega, fun n' c' h1 h2 h3 => HM1.out n' c' h1 h2 (by omega), HBC.out⟩
    · obtain rfl : n = lot + 1 := by omega
      have := HM.out lot good (by omega) (by omega) (by omega)
      rw [HLAST.out] at this
      cases this

end Go.Proofs.YtaccdkbofhlbkaaGreatDoor
