/- The reference's digits: product. The reference's digits: divided, Plus, Minus, Times. -/
import Derived.Test.YtaccdkbofhlbkaaGreatDoorRthree
import Derived.RegionTactic
import Derived.BigRegion
namespace Go.Proofs.YtaccdkbofhlbkaaGreatDoor
open Go.RowKit MLab

theorem dval_add (d : Nat → Nat) (v : Nat) : ∀ (k i p : Nat), i ≤ p → p < i + k → dval (upd d p (d p + v)) i k = dval d i k + v * 10 ^ (i + k - (p + 1))
  | 0, _, _, h1, h2 => by omega
  | k + 1, i, p, h1, h2 => by
    rw [dval, dval]
    by_cases h : p = i
    · subst h
      rw [upd_same, dval_upd (by omega), Nat.add_mul, show p + (k + 1) - (p + 1) = k by omega]; omega
    · rw [upd_other d _ (by omega), dval_add d v k (i + 1) p (by omega) (by omega), show i + 1 + k - (p + 1) = i + (k + 1) - (p + 1) by omega]; omega

theorem val_take_succ {l : List UInt8} {k : Nat} (h : k < l.length) : val (l.take (k + 1)) = val (l.take k) * 10 + dg l k := by
  rw [take_snoc h, val_snoc, dg_at h]

/-- What the columns hold behind i rows and k digits of the next one. -/
structure Cols (A B : List UInt8) (d : Nat → Nat) (i k : Nat) : Prop where
  tot : dval d 0 (A.length + B.length) = val (A.take i) * 10 ^ (A.length - i) * val B + dg A i * 10 ^ (A.length - (i + 1)) * (val (B.take k) * 10 ^ (B.length - k))
  all : ∀ p, d p ≤ 81 * (i + 1)
  low : ∀ p, i + k < p → d p ≤ 81 * i

theorem Cols.start (A B : List UInt8) : Cols A B (fun _ => 0) 0 0 :=
  ⟨by
    have h : ∀ k i, dval (fun _ => 0) i k = 0 := by
      intro k
      induction k with
      | zero => intro i; rfl
      | succ k ih => intro i; rw [dval, ih]; simp
    rw [h]; simp [val], fun _ => Nat.zero_le _, fun _ _ => Nat.zero_le _⟩

theorem Cols.step {A B : List UInt8} {d : Nat → Nat} {i k : Nat} (h : Cols A B d i k) (hA : Dig A) (hB : Dig B) (hi : i < A.length) (hk : k < B.length) : Cols A B (upd d (i + k + 1) (d (i + k + 1) + dg A i * dg B k)) i (k + 1) := by
  have h1 := dg_lt hA i
  have h2 := dg_lt hB k
  have h3 : dg A i * dg B k ≤ 81 := by have := Nat.mul_le_mul h1 h2; omega
  refine ⟨?_, fun p => ?_, fun p hp => ?_⟩
  · rw [dval_add d _ _ 0 _ (Nat.zero_le _) (by omega), h.tot, val_take_succ hk, show B.length - k = (B.length - (k + 1)) + 1 by omega, Nat.pow_succ, show 0 + (A.length + B.length) - (i + k + 1 + 1) = (A.length - (i + 1)) + (B.length - (k + 1)) by omega, Nat.pow_add]
    generalize 10 ^ (A.length - (i + 1)) = P
    generalize 10 ^ (B.length - (k + 1)) = Q
    generalize val (A.take i) * 10 ^ (A.length - i) * val B = R
    generalize val (B.take k) = V
    generalize dg A i = x
    generalize dg B k = y
    grind
  · by_cases e : p = i + k + 1
    · subst e; rw [upd_same]; have := h.low (i + k + 1) (by omega); omega
    · rw [upd_other d _ e]; exact h.all p
  · rw [upd_other d _ (by omega)]; exact h.low p (by omega)

theorem Cols.next {A B : List UInt8} {d : Nat → Nat} {i : Nat} (h : Cols A B d i B.length) (hi : i < A.length) : Cols A B d (i + 1) 0 := by
  refine ⟨?_, fun p => Nat.le_trans (h.all p) (by omega), fun p _ => h.all p⟩
  rw [h.tot, val_take_succ hi, List.take_zero, val_nil, Nat.sub_self, List.take_length, show A.length - i = (A.length - (i + 1)) + 1 by omega, Nat.pow_succ]
  generalize 10 ^ (A.length - (i + 1)) = P
  generalize val (A.take i) = V
  generalize dg A i = x
  generalize val B = y
  grind

/-- What the carrying keeps. -/
def Car (n : Nat) (d e : Nat → Nat) (i c : Nat) : Prop := dval e i (n - i) + c * 10 ^ (n - i) = dval d i (n - i)
theorem Car.step {n i c v : Nat} {d e : Nat → Nat} (h : Car n d e (i + 1) c) (hi : i < n) (hv : v = (c + d i) % 10) : Car n d (upd e i v) i ((c + d i) / 10) := by
  unfold Car at *
  rw [show n - i = (n - (i + 1)) + 1 by omega, dval, dval, dval_upd (by omega), upd_same, Nat.pow_succ]
  generalize dval e (i + 1) (n - (i + 1)) = A at *
  generalize dval d (i + 1) (n - (i + 1)) = B at *
  generalize 10 ^ (n - (i + 1)) = P at *
  have hdm := Nat.div_add_mod (c + d i) 10
  rw [← hv] at hdm
  generalize (c + d i) / 10 = q at *
  have h2 : (10 * q + v) * P = (c + d i) * P := by rw [hdm]
  simp only [Nat.add_mul] at h2
  have e1 : q * (P * 10) = 10 * q * P := by rw [Nat.mul_comm P 10, ← Nat.mul_assoc, Nat.mul_comm q 10]
  rw [e1]
  omega

theorem info_i64 : (Tryz.prog.info? 3).map (fun i => (i.zero, i.size, i.bytes)) = some (some (.int .i64 0), 1, 8) := by kernel_rfl

theorem dg_byte {a : ByteArray} {X : List UInt8} {j : Nat} (h : a.data.toList = X) (hd : Dig X) (hj : j < a.size) : ((a[j]'hj).toNat : Int) = ((48 + dg X j : Nat) : Int) := by
  subst h
  have h1 : j < a.data.toList.length := by rw [← Lib.size_eq]; exact hj
  have h3 := hd (a.data.toList[j]) (List.getElem_mem h1)
  have h4 : (a[j]'hj) = a.data.toList[j]'h1 := rfl
  rw [dg_at h1, h4]; omega

set_option maxRecDepth 100000 in
set_option maxHeartbeats 4000000 in
theorem rproduct_any (w : World) (s t : ByteArray) (m n : Nat) (hs : s.data.toList = Lib.decDigits m) (ht : t.data.toList = Lib.decDigits n) (hsz : s.size ≤ 1000000) (htz : t.size ≤ 1000000) :
    Calls Tryz.prog 123 #[.string s, .string t] w fun e w' => e = .returned (.string ⟨(Lib.decDigits (m * n)).toArray⟩) ∧ Below w.heap.size w w' := by
  obtain ⟨L, hL⟩ : ∃ L : Nat, L = s.size + t.size := ⟨_, rfl⟩
  have hLi : (s.size : Int) + (t.size : Int) = (L : Int) := by omega
  have s1 : s.size = (Lib.decDigits m).length := by rw [Lib.size_eq, hs]
  have s2 : t.size = (Lib.decDigits n).length := by rw [Lib.size_eq, ht]
  have p1 := dec_length_pos m
  have p2 := dec_length_pos n
  have vA := val_dec m
  have vB := val_dec n
  have dA := dec_dig m
  have dB := dec_dig n
  generalize hA : Lib.decDigits m = A at *
  generalize hB : Lib.decDigits n = B at *
  have HA := hide hA
  have HBB := hide hB
  have HS := hide hs
  have HT := hide ht
  have S1 := hide s1
  have S2 := hide s2
  have VA := hide vA
  have VB := hide vB
  have DA := hide dA
  have DB := hide dB
  have HL := hide hL
  have LI := hide hLi
  have hLz : L ≤ 2000000 := by omega
  have hs0 : 0 < s.size := by omega
  have ht0 : 0 < t.size := by omega
  have hL0 : 1 ≤ L := by omega
  clear hA hB hs ht s1 s2 vA vB dA dB hL hLi
  have hmk := run_make_row' (P := Tryz.prog) 124 3 (.int .i64 0) 8 Tryz.underlying124 info_i64 rfl .i64 .i64 L (by omega) (by omega)
  rw [← LI.out] at hmk
  go_enter Tryz.func123, Tryz.ntmps123
  go_wp2_with fail
  have hrow := World.rowIs_made w (.int .i64 0) L 3
  have hbl : Below w.heap.size w (w.alloc (.cells (madeCells #[.int .i64 0] L) 3)) := (Below.refl _ _).alloc (Nat.le_refl _) _
  generalize (w.alloc (.cells (madeCells #[.int .i64 0] L) 3)) = w0 at *
  have HROW := hide hrow
  have HBL := hide hbl
  clear hrow hbl hmk
  go_loopg [6] s.size (fun q iv wr => ∃ (i : Nat) (d : Nat → Nat), iv = .int .i64 (i : Int) ∧ q + i = s.size ∧ wr.rowIs w.heap.size 3 L (fun p => .int .i64 (d p : Int)) ∧ Cols A B d i 0 ∧ Below w.heap.size w wr)
  case atStart => exact ⟨0, fun _ => 0, rfl, rfl, HROW.out, Cols.start A B, HBL.out⟩
  case round =>
    obtain ⟨i, d, rfl, hq, hr, hc, hb⟩ := hrel
    have hi : i ≤ s.size := by omega
    have HQ := hide hq
    have HR := hide hr
    have HC := hide hc
    have HB := hide hb
    clear hq hr hc hb
    obtain ⟨wo, rfl⟩ : ∃ wo : World, wo = wr := ⟨_, rfl⟩
    by_cases hlt : i < s.size
    · have hlti : (i : Int) < (s.size : Int) := by omega
      go_wp2_with fail
      obtain ⟨gq, hgq⟩ : ∃ gq : Nat, gq = gk := ⟨_, rfl⟩
      have HGQ := hide hgq
      clear hgq
      go_loopg [7] t.size (fun q kv wr => ∃ (k : Nat) (d : Nat → Nat), kv = .int .i64 (k : Int) ∧ q + k = t.size ∧ wr.rowIs w.heap.size 3 L (fun p => .int .i64 (d p : Int)) ∧ Cols A B d i k ∧ Below w.heap.size w wr)
      case atStart => exact ⟨0, d, rfl, rfl, HR.out, HC.out, HB.out⟩
      case round =>
        obtain ⟨k, d2, rfl, hq2, hr2, hc2, hb2⟩ := hrel
        have hk : k ≤ t.size := by omega
        have HQ2 := hide hq2
        have HR2 := hide hr2
        have HC2 := hide hc2
        have HB2 := hide hb2
        clear hq2 hr2 hc2 hb2 HR HC HB
        by_cases hkt : k < t.size
        · have hkti : (k : Int) < (t.size : Int) := by omega
          have hpL : i + k + 1 < L := by have := HL.out; omega
          have hpLi : (i : Int) + (k : Int) + 1 < (L : Int) := by omega
          have hcell := HR2.out.cell hpL
          have hfz := HR2.out.frozen (i + k + 1)
          have e1 := dg_byte HS.out DA.out hlt
          have e2 := dg_byte HT.out DB.out hkt
          have g1 := dg_lt DA.out i
          have g2 := dg_lt DB.out k
          have g3 := HC2.out.all (i + k + 1)
          have g4 : dg A i * dg B k ≤ 81 := by have := Nat.mul_le_mul g1 g2; omega
          have a1 : (48 : Int) ≤ ((s[i]'hlt).toNat : Int) := by omega
          have a2 : ((s[i]'hlt).toNat : Int) ≤ 57 := by omega
          have b1 : (48 : Int) ≤ ((t[k]'hkt).toNat : Int) := by omega
          have b2 : ((t[k]'hkt).toNat : Int) ≤ 57 := by omega
          have hprod : (((s[i]'hlt).toNat : Int) - 48) * (((t[k]'hkt).toNat : Int) - 48) = ((dg A i * dg B k : Nat) : Int) := by
            rw [e1, e2, show ((48 + dg A i : Nat) : Int) - 48 = (dg A i : Int) by omega, show ((48 + dg B k : Nat) : Int) - 48 = (dg B k : Int) by omega]; simp
          have hpr1 : 0 ≤ (((s[i]'hlt).toNat : Int) - 48) * (((t[k]'hkt).toNat : Int) - 48) := by rw [hprod]; omega
          have hpr2 : (((s[i]'hlt).toNat : Int) - 48) * (((t[k]'hkt).toNat : Int) - 48) ≤ 81 := by rw [hprod]; omega
          have hd2 : (d2 (i + k + 1) : Int) ≤ 81000081 := by omega
          have hd0 : (0 : Int) ≤ (d2 (i + k + 1) : Int) := by omega
          have hsum0 : 0 ≤ (i : Int) + (k : Int) + 1 := by omega
          have htn : ((i : Int) + (k : Int) + 1).toNat = i + k + 1 := by omega
          have HPR := hide hprod
          clear e1 e2 g3 g4 hprod
          go_wp2_with fail
          go_region
          go_wp2_with fail
          go_roundg (gk - 1)
          case measure => have := HQ2.out; omega
          case rel =>
            refine ⟨k + 1, upd d2 (i + k + 1) (d2 (i + k + 1) + dg A i * dg B k), by go_num, by have := HQ2.out; omega, ?_, HC2.out.step DA.out DB.out (by rw [← S1.out]; exact hlt) (by rw [← S2.out]; exact hkt), HB2.out.drew.setCell (Nat.le_refl _) _⟩
            refine (HR2.out.drew.set (i + k + 1) _).congr (fun p hp => ?_)
            by_cases h : p = i + k + 1
            · subst h
              rw [if_pos rfl, upd_same, HPR.out]
              congr 1
            · rw [if_neg h, upd_other d2 _ h]
        · have hkti : ¬ (k : Int) < (t.size : Int) := by omega
          have hkl : k = t.size := by omega
          go_wp2_with fail
          go_roundg (gq - 1)
          case measure => have := HQ.out; have := HGQ.out; omega
          case rel =>
            refine ⟨i + 1, d2, by go_num, by have := HQ.out; have := HGQ.out; omega, HR2.out, ?_, HB2.out⟩
            have h1 := HC2.out
            rw [hkl, S2.out] at h1
            exact h1.next (by rw [← S1.out]; exact hlt)
    · have hlti : ¬ (i : Int) < (s.size : Int) := by omega
      have hil : i = s.size := by omega
      have hmk2 := run_make_row' (P := Tryz.prog) 135 5 (.int .u8 0) 1 Tryz.underlying135 info_u8 rfl .i64 .i64 L (by omega) (by omega)
      have hpn : val A * val B < 10 ^ L := by
        have h1 := val_lt DA.out
        have h2 := val_lt DB.out
        rw [HL.out, S1.out, S2.out, Nat.pow_add]
        exact Nat.mul_lt_mul'' h1 h2
      have htot : dval d 0 L = val A * val B := by
        have h1 := HC.out.tot
        rw [hil, S1.out, ← S1.out, ← S2.out, ← HL.out, List.take_zero, val_nil, Nat.zero_mul, Nat.mul_zero, Nat.add_zero, Nat.sub_self, Nat.pow_zero, Nat.mul_one, List.take_of_length_le (by rw [← S1.out]; exact Nat.le_refl _)] at h1
        exact h1
      have hall : ∀ p, d p ≤ 81000081 := fun p => Nat.le_trans (HC.out.all p) (by omega)
      have HTOT := hide htot
      have HPN := hide hpn
      have HALL := hide hall
      clear htot hpn hall
      go_wp2_with fail
      have hrow2 := World.rowIs_made wo (.int .u8 0) L 5
      have hbl2 : Below w.heap.size w (wo.alloc (.cells (madeCells #[.int .u8 0] L) 5)) := HB.out.alloc HB.out.size _
      have hcol : (wo.alloc (.cells (madeCells #[.int .u8 0] L) 5)).rowIs w.heap.size 3 L (fun p => .int .i64 (d p : Int)) := HR.out.alloc _
      have hwlt : w.heap.size < wo.heap.size := HR.out.lt
      generalize (wo.alloc (.cells (madeCells #[.int .u8 0] L) 5)) = w1 at *
      have HROW2 := hide hrow2
      have HBL2 := hide hbl2
      have HCOL := hide hcol
      clear hrow2 hbl2 hcol hmk2 HR HC HB
      go_loopg [9, 10] L (fun q cv iv wr => ∃ (c : Nat) (e : Nat → Nat), cv = .int .i64 (c : Int) ∧ iv = .int .i64 ((q : Int) - 1) ∧ q ≤ L ∧ c ≤ 81000081 ∧ (∀ i, i < L → e i ≤ 9) ∧ wr.rowIs w.heap.size 3 L (fun p => .int .i64 (d p : Int)) ∧ wr.rowIs wo.heap.size 5 L (fun i => if i < q then .int .u8 0 else dcell e i) ∧ Car L d e q c ∧ Below w.heap.size w wr)
      case atStart =>
        refine ⟨0, fun _ => 0, rfl, rfl, Nat.le_refl _, by decide, fun _ _ => Nat.zero_le _, HCOL.out, HROW2.out.congr (fun i hi => by simp [hi]), ?_, HBL2.out⟩
        unfold Car
        rw [Nat.sub_self]; rfl
      case round =>
        obtain ⟨c, e, rfl, rfl, hq3, hc3, he, hr3, hr4, hp, hb3⟩ := hrel
        have HE := hide he
        have HR3 := hide hr3
        have HR4 := hide hr4
        have HP := hide hp
        have HB3 := hide hb3
        clear he hr3 hr4 hp hb3
        cases gk with
        | zero =>
          have h0 : ¬ (0 : Int) ≤ ((0 : Nat) : Int) - 1 := by omega
          have hrow : wr.rowIs wo.heap.size 5 L (fun i => dcell e i) := HR4.out.congr (fun i hi => by simp)
          have hcv := conv_row wr wo.heap.size L L 5 _ (drow e L) hrow (drow_length e L) (fun i c hi => by
            have hin : i < L := by
              rcases Nat.lt_or_ge i L with h | h
              · exact h
              · rw [List.getElem?_eq_none (by rw [drow_length]; exact h)] at hi; cases hi
            rw [drow_at e hin] at hi
            rw [← Option.some.inj hi, ofNat_toNat (by have := HE.out i hin; omega)]; rfl)
          have hdr : Dig (drow e L) := drow_dig HE.out
          have hdl : (drow e L).length = L := drow_length e L
          have hvd : val (drow e L) = m * n := by
            have h1 := HP.out
            unfold Car at h1
            rw [Nat.sub_zero, HTOT.out] at h1
            rw [val_drow HE.out, ← VA.out, ← VB.out]
            have h2 := HPN.out
            rcases Nat.eq_zero_or_pos c with h3 | h3
            · subst h3; omega
            · have := Nat.mul_le_mul_right (10 ^ L) h3
              omega
          have hne : drow e L ≠ [] := by rw [← List.length_pos_iff, hdl]; omega
          have hsz2 : (⟨(drow e L).toArray⟩ : ByteArray).size ≤ 1000000000000 := by rw [ba_size, hdl]; omega
          have HV := hide hvd
          have HDR := hide hdr
          have HNE := hide hne
          have HCV := hide hcv
          clear hrow hdr hdl hvd hne hcv
          have hcv := HCV.out
          clear HCV
          go_wp2_with fail
          refine (rbare_any _ _ (drow e L) rfl HDR.out HNE.out hsz2).mono ?_
          rintro e' w3 ⟨rfl, rfl⟩
          rw [HV.out]
          clear hcv
          go_wp2_with fail
          go_ret
          exact ⟨rfl, HB3.out⟩
        | succ j =>
          have hij : ((j + 1 : Nat) : Int) - 1 = (j : Int) := by omega
          rw [hij]
          clear hij
          have hjn : j < L := by omega
          have hji : (0 : Int) ≤ (j : Int) := by omega
          have hjn2 : (j : Int) < (L : Int) := by omega
          have hcell := HR3.out.cell hjn
          have hcell2 := HR4.out.cell hjn
          have hfz := HR4.out.frozen j
          have hdj := HALL.out j
          go_wp2_with fail
          go_roundg j
          case measure => omega
          case rel =>
            refine ⟨(c + d j) / 10, upd e j ((c + d j) % 10), by go_num, by go_num, by omega, by omega, ?_, HR3.out.setOther (by show w.heap.size ≠ wo.heap.size; omega) _, ?_, HP.out.step hjn rfl, HB3.out.setCell (by exact Nat.le_of_lt hwlt) _⟩
            · intro i hi
              by_cases h : i = j
              · subst h; rw [upd_same]; omega
              · rw [upd_other e _ h]; exact HE.out i hi
            · refine (HR4.out.set j _).congr (fun i hi => ?_)
              by_cases h : i = j
              · subst h
                simp only [if_true, Nat.lt_irrefl, if_false, dcell, upd_same]
                congr 1
              · simp only [if_neg h]
                by_cases h2 : i < j
                · rw [if_pos (show i < j + 1 by omega), if_pos h2]
                · rw [if_neg (show ¬ i < j + 1 by omega), if_neg h2]; simp only [dcell, upd_other e _ h]
end Go.Proofs.YtaccdkbofhlbkaaGreatDoor

namespace Go.Proofs.YtaccdkbofhlbkaaGreatDoor
open Go.RowKit MLab

theorem mod_step {n v d : Nat} (hn : 0 < n) (r k : Nat) (hr : v % n = r) (h1 : k * n ≤ 10 * r + d) (h2 : 10 * r + d < (k + 1) * n) : (v * 10 + d) / n = v / n * 10 + k ∧ (v * 10 + d) % n = 10 * r + d - k * n := by
  have hdm := Nat.div_add_mod v n
  rw [hr] at hdm
  generalize v / n = q at *
  have h3 : v * 10 + d = (q * 10 + k) * n + (10 * r + d - k * n) := by
    have e2 : (q * 10 + k) * n = q * 10 * n + k * n := Nat.add_mul _ _ _
    rw [← hdm, e2]
    have : q * 10 * n = 10 * (n * q) := by rw [Nat.mul_comm (q * 10) n, Nat.mul_comm q 10, ← Nat.mul_assoc, Nat.mul_comm n 10, Nat.mul_assoc]
    omega
  have h4 : 10 * r + d - k * n < n := by rw [Nat.add_mul, Nat.one_mul] at h2; omega
  rw [h3]
  exact ⟨by rw [Nat.mul_comm, Nat.mul_add_div hn, Nat.div_eq_of_lt h4, Nat.add_zero], by rw [Nat.mul_comm, Nat.mul_add_mod, Nat.mod_eq_of_lt h4]⟩

set_option maxRecDepth 100000 in
set_option maxHeartbeats 4000000 in
theorem rdivided_any (w : World) (s t : ByteArray) (m n : Nat) (hs : s.data.toList = Lib.decDigits m) (ht : t.data.toList = Lib.decDigits n) (hn : 0 < n) (hsz : s.size ≤ 900000) (htz : t.size ≤ 900000) :
    Calls Tryz.prog 141 #[.string s, .string t] w fun e w' => e = .returned (.tuple #[.string ⟨(Lib.decDigits (m / n)).toArray⟩, .string ⟨(Lib.decDigits (m % n)).toArray⟩]) ∧ Below w.heap.size w w' := by
  have s1 : s.size = (Lib.decDigits m).length := by rw [Lib.size_eq, hs]
  have s2 : t.size = (Lib.decDigits n).length := by rw [Lib.size_eq, ht]
  have p1 := dec_length_pos m
  have vA := val_dec m
  have dA := dec_dig m
  generalize hA : Lib.decDigits m = A at *
  have HS := hide hs
  have HT := hide ht
  have S1 := hide s1
  have S2 := hide s2
  have VA := hide vA
  have DA := hide dA
  have hz0 : (0 : Nat) % n = 0 := Nat.zero_mod n
  have HZ0 := hide hz0
  clear hA hs ht s1 s2 vA dA hz0
  go_enter Tryz.func141, Tryz.ntmps141
  go_wp2_with fail
  go_loopg [6, 7, 8] s.size (fun z qv rv iv wr => ∃ (i : Nat) (g r : ByteArray), qv = .string g ∧ rv = .string r ∧ iv = .int .i64 (i : Int) ∧ z + i = s.size ∧ g.size = i ∧ Dig g.data.toList ∧ val g.data.toList = val (A.take i) / n ∧ r.data.toList = Lib.decDigits (val (A.take i) % n) ∧ Below w.heap.size w wr)
  case atStart =>
    refine ⟨0, ⟨#[]⟩, ⟨#[48]⟩, rfl, rfl, rfl, rfl, rfl, fun _ h => by simp at h, ?_, ?_, Below.refl _ _⟩
    · simp [val]
    · rw [List.take_zero, val_nil, HZ0.out, dec_zero]
  case round =>
    obtain ⟨i, g, r, rfl, rfl, rfl, hz, hg, hgd, hgv, hr, hb⟩ := hrel
    have hi : i ≤ s.size := by omega
    have HZ := hide hz
    have HG := hide hg
    have HGD := hide hgd
    have HGV := hide hgv
    have HR := hide hr
    have HB := hide hb
    have hrn : val (A.take i) % n < n := Nat.mod_lt _ hn
    have hrs : r.size ≤ 900000 := by
      rw [Lib.size_eq, hr]
      have := dec_len_mono (Nat.le_of_lt hrn)
      rw [← S2.out] at this
      omega
    have hgs : g.size ≤ 900000 := by omega
    clear hz hg hgd hgv hr hb
    by_cases hlt : i < s.size
    · have hlti : (i : Int) < (s.size : Int) := by omega
      have h0i : (0 : Int) ≤ (i : Int) := by omega
      have hlei : (i : Int) + 1 ≤ (s.size : Int) := by omega
      have htn : ((i : Int) + 1).toNat = i + 1 := by omega
      have hiA : i < A.length := by rw [← S1.out]; exact hlt
      have hex : (s.extract i (i + 1)).data.toList = [A[i]'hiA] := by
        rw [Lib.extract_data, HS.out, show i + 1 - i = 1 by omega, List.drop_eq_getElem_cons hiA, List.take_succ_cons, List.take_zero]
      have hsl : (r ++ s.extract i (i + 1)).data.toList = Lib.decDigits (val (A.take i) % n) ++ [A[i]'hiA] := by
        rw [ByteArray.data_append, Array.toList_append, hex, HR.out]
      have hsz1 : (s.extract i (i + 1)).size = 1 := by rw [Lib.size_eq, hex]; rfl
      have hszs : (r ++ s.extract i (i + 1)).size ≤ 1000000000000 := by rw [ByteArray.size_append, hsz1]; omega
      have hAd := DA.out (A[i]'hiA) (List.getElem_mem _)
      have hdd : Dig (Lib.decDigits (val (A.take i) % n) ++ [A[i]'hiA]) := (dec_dig _).append (Dig.one hAd.1 hAd.2)
      have hvv : val (Lib.decDigits (val (A.take i) % n) ++ [A[i]'hiA]) = 10 * (val (A.take i) % n) + dg A i := by rw [val_snoc, val_dec, dg_at hiA]; omega
      have hdg := dg_lt DA.out i
      have HSL := hide hsl
      have HDD := hide hdd
      have HVV := hide hvv
      obtain ⟨r0, hr0⟩ : ∃ r0, val (A.take i) % n = r0 := ⟨_, rfl⟩
      obtain ⟨d, hd⟩ : ∃ d, dg A i = d := ⟨_, rfl⟩
      rw [hd] at hdg
      have HR0 := hide hr0
      have HD := hide hd
      rw [hr0] at hrn
      clear hex hsl hsz1 hAd hdd hvv hr0 hd
      go_wp2_with fail
      refine (rbare_any _ _ _ HSL.out HDD.out (by simp) hszs).mono ?_
      rintro e w1 ⟨rfl, rfl⟩
      rw [HVV.out, HR0.out, HD.out]
      obtain ⟨gq, hgq⟩ : ∃ gq : Nat, gq = gk := ⟨_, rfl⟩
      have HGQ := hide hgq
      clear hgq
      obtain ⟨wo, rfl⟩ : ∃ wo : World, wo = wr := ⟨_, rfl⟩
      go_wp2_with fail
      go_loopg [7, 9] (10 * r0 + d) (fun z rv dv wr => ∃ (k : Nat), rv = .string ⟨(Lib.decDigits (10 * r0 + d - k * n)).toArray⟩ ∧ dv = .int .u8 (48 + (k : Int)) ∧ k * n ≤ 10 * r0 + d ∧ z = 10 * r0 + d - k * n ∧ Below w.heap.size w wr)
      case atStart => exact ⟨0, by simp, rfl, by omega, by omega, HB.out⟩
      case round =>
        obtain ⟨k, rfl, rfl, hk, hzk, hb2⟩ := hrel
        have HK := hide hk
        have HZK := hide hzk
        have HB2 := hide hb2
        have hk9 : k ≤ 9 := by
          rcases Nat.lt_or_ge k 10 with h | h
          · omega
          · have := Nat.mul_le_mul_right n h
            omega
        have hlen : (Lib.decDigits (10 * r0 + d - k * n)).length ≤ 900001 := by
          have h1 : 10 * r0 + d - k * n < 10 * n := by omega
          have h2 : (Lib.decDigits (10 * r0 + d - k * n)).length ≤ (Lib.decDigits n).length + 1 := by
            refine (dec_length_le (by omega)).2 ?_
            have h3 : n < 10 ^ (Lib.decDigits n).length := (dec_length_le (dec_length_pos n)).1 (Nat.le_refl _)
            rw [Nat.pow_succ]; omega
          rw [← S2.out] at h2; omega
        have hsz3 : (⟨(Lib.decDigits (10 * r0 + d - k * n)).toArray⟩ : ByteArray).size ≤ 1000000 := by rw [ba_size]; omega
        have hdat : (⟨(Lib.decDigits (10 * r0 + d - k * n)).toArray⟩ : ByteArray).data.toList = Lib.decDigits (10 * r0 + d - k * n) := rfl
        generalize (⟨(Lib.decDigits (10 * r0 + d - k * n)).toArray⟩ : ByteArray) = R at *
        have HDAT := hide hdat
        clear hk hzk hb2 hlen hdat
        go_wp2_with fail
        refine (rlessd_any _ R t _ n HDAT.out HT.out).mono ?_
        rintro e w2 ⟨rfl, rfl⟩
        by_cases hle : 10 * r0 + d - k * n < n
        · rw [decide_eq_true hle]
          have HLE := hide hle
          have hx := conv_one wr (48 + (k : Int)) (by omega) (by omega)
          have hch : UInt8.ofNat (48 + (k : Int)).toNat = UInt8.ofNat (48 + k) := by congr 1
          rw [hch] at hx
          obtain ⟨c, hc⟩ : ∃ c, UInt8.ofNat (48 + k) = c := ⟨_, rfl⟩
          rw [hc] at hx
          have hct : c.toNat = 48 + k := by rw [← hc, ofNat_toNat (by omega)]
          have HCT := hide hct
          obtain ⟨e1, e2⟩ := mod_step (d := d) hn r0 k HR0.out HK.out (by have := HLE.out; have := HK.out; rw [Nat.add_mul, Nat.one_mul]; omega)
          have E1 := hide e1
          have E2 := hide e2
          clear hle hch hc hct e1 e2
          go_wp2_with fail
          go_roundg (gq - 1)
          case measure => have := HZ.out; have := HGQ.out; omega
          case rel =>
            refine ⟨i + 1, g ++ (⟨#[c]⟩ : ByteArray), R, rfl, rfl, by go_num, by have := HZ.out; have := HGQ.out; omega, ?_, ?_, ?_, ?_, HB2.out.alloc HB2.out.size _⟩
            · rw [ByteArray.size_append, HG.out]; rfl
            · rw [ByteArray.data_append, Array.toList_append]
              exact HGD.out.append (Dig.one (by rw [HCT.out]; omega) (by rw [HCT.out]; omega))
            · rw [ByteArray.data_append, Array.toList_append, show (⟨#[c]⟩ : ByteArray).data.toList = [c] from rfl, val_snoc, HGV.out, HCT.out, val_take_succ hiA, HD.out, E1.out]; omega
            · rw [HDAT.out, val_take_succ hiA, HD.out, E2.out]
        · rw [decide_eq_false hle]
          have HLE := hide hle
          clear hle
          go_wp2_with fail
          refine (rpaper_sub _ R t (10 * r0 + d - k * n) n HDAT.out HT.out hsz3 (by omega) (by have := HLE.out; omega)).mono ?_
          rintro e w2 ⟨rfl, hb3⟩
          have HB3 := hide (HB2.out.trans (hb3.mono HB2.out.size))
          have hnx : 10 * r0 + d - k * n - n = 10 * r0 + d - (k + 1) * n := by rw [Nat.add_mul, Nat.one_mul]; omega
          rw [hnx]
          clear hb3 hnx
          go_wp2_with fail
          go_roundg (10 * r0 + d - (k + 1) * n)
          case measure => have := HZK.out; have := HLE.out; have := HK.out; rw [Nat.add_mul, Nat.one_mul]; omega
          case rel => exact ⟨k + 1, rfl, by go_num, by have := HLE.out; have := HK.out; rw [Nat.add_mul, Nat.one_mul]; omega, rfl, HB3.out⟩
    · have hlti : ¬ (i : Int) < (s.size : Int) := by omega
      have hfull : val (A.take i) = m := by rw [List.take_of_length_le (by rw [← S1.out]; omega), VA.out]
      have HF := hide hfull
      have hne : g.data.toList ≠ [] := by rw [← List.length_pos_iff, ← Lib.size_eq, HG.out]; have := S1.out; omega
      have HNE := hide hne
      have hfin : r = ⟨(Lib.decDigits (m % n)).toArray⟩ := ba_eq (by rw [HR.out, hfull])
      have HFI := hide hfin
      clear hfull hne hfin hrn
      go_wp2_with fail
      refine (rbare_any _ g _ rfl HGD.out HNE.out (by omega)).mono ?_
      rintro e w1 ⟨rfl, rfl⟩
      rw [HGV.out, HF.out]
      go_wp2_with fail
      go_ret2
      exact ⟨by rw [← HFI.out]; rfl, HB.out⟩
end Go.Proofs.YtaccdkbofhlbkaaGreatDoor
