/- ratio: sums.do, lowest, joined, Make, Whole. -/
import Derived.Test.YtaccdkbofhlbkaaGreatDoorGcd
namespace Go.Proofs.YtaccdkbofhlbkaaGreatDoor
open Go.RowKit MLab

/-- The canonical text of a rational number. -/
def RT (q : Rat) : List UInt8 := if q.den = 1 then T q.num else T q.num ++ 47 :: Lib.decDigits q.den

/-- The block of sums: its error number. -/
abbrev Sums (w : World) (b : Nat) (e : Int) : Prop := Blk w b 111 #[.int .i64 e]
theorem Sums.err {w : World} {b : Nat} {e : Int} (h : Sums w b e) : w.cell? ⟨b, 0, none⟩ = some (.int .i64 e) := by rw [Blk.cell h]; rfl
theorem Sums.set {w : World} {b : Nat} {e : Int} (h : Sums w b e) (f : Int) : Sums (w.setCell ⟨b, 0, none⟩ (.int .i64 f)) b f := by
  have := Blk.set_ h 0 (.int .i64 f); simpa using this

/-- What do gives: the text, or 0 behind an error. -/
def doRes (p : List UInt8 × Int) : List UInt8 := if p.2 = 0 then p.1 else [48]

set_option maxRecDepth 100000 in
set_option maxHeartbeats 1000000 in
theorem do_gcd (w : World) (b : Nat) (s t : ByteArray) (p : List UInt8 × Int) (hb : Sums w b 0) (hop : Calls Tryz.prog 134 #[.string s, .string t] w fun e w' => RetLim p e ∧ Below w.heap.size w w') :
    Calls Tryz.prog 103 #[.pointer (some ⟨b, 0, none⟩), .func (.func 134) #[] #[], .string s, .string t] w fun e w' => e = .returned (.string ⟨(doRes p).toArray⟩) ∧ w.grownBy w' (some b) ∧ Sums w' b p.2 := by
  have c0 := hb.err
  have hlt := Blk.lt hb
  have HB := hide hb
  have HOP := hide hop
  clear hb hop
  go_enter Tryz.func103, Tryz.ntmps103
  go_wp2_with fail
  refine HOP.out.mono ?_
  rintro e w1 ⟨hr, hb1⟩
  rw [RetLim] at hr
  subst hr
  have h1 : Sums w1 b 0 := Blk.below HB.out hb1 hlt
  have c1 := Sums.err h1
  have f1 := Blk.frozen h1 0
  have H1 := hide h1
  have K1 := hide hb1
  clear h1 hb1
  by_cases he : p.2 = 0
  · have e1 : (p.2 != 0) = false := by rw [he]; rfl
    have HR := hide (show doRes p = p.1 by rw [doRes, if_pos he])
    clear he
    go_wp2_with fail
    go_ret
    exact ⟨by rw [HR.out]; rfl, only_setCell (only_of_below K1.out _) (.inl rfl) _, H1.out.set _⟩
  · have e1 : (p.2 != 0) = true := by rw [bne_iff_ne]; exact he
    have HR := hide (show doRes p = [48] by rw [doRes, if_neg he])
    clear he
    go_wp2_with fail
    go_ret
    exact ⟨by rw [HR.out]; rfl, only_setCell (only_of_below K1.out _) (.inl rfl) _, H1.out.set _⟩

set_option maxRecDepth 100000 in
set_option maxHeartbeats 1000000 in
theorem do_sub (w : World) (b : Nat) (s t : ByteArray) (p : List UInt8 × Int) (hb : Sums w b 0) (hop : Calls Tryz.prog 60 #[.string s, .string t] w fun e w' => RetLim p e ∧ Below w.heap.size w w') :
    Calls Tryz.prog 103 #[.pointer (some ⟨b, 0, none⟩), .func (.func 60) #[] #[], .string s, .string t] w fun e w' => e = .returned (.string ⟨(doRes p).toArray⟩) ∧ w.grownBy w' (some b) ∧ Sums w' b p.2 := by
  have c0 := hb.err
  have hlt := Blk.lt hb
  have HB := hide hb
  have HOP := hide hop
  clear hb hop
  go_enter Tryz.func103, Tryz.ntmps103
  go_wp2_with fail
  refine HOP.out.mono ?_
  rintro e w1 ⟨hr, hb1⟩
  rw [RetLim] at hr
  subst hr
  have h1 : Sums w1 b 0 := Blk.below HB.out hb1 hlt
  have c1 := Sums.err h1
  have f1 := Blk.frozen h1 0
  have H1 := hide h1
  have K1 := hide hb1
  clear h1 hb1
  by_cases he : p.2 = 0
  · have e1 : (p.2 != 0) = false := by rw [he]; rfl
    have HR := hide (show doRes p = p.1 by rw [doRes, if_pos he])
    clear he
    go_wp2_with fail
    go_ret
    exact ⟨by rw [HR.out]; rfl, only_setCell (only_of_below K1.out _) (.inl rfl) _, H1.out.set _⟩
  · have e1 : (p.2 != 0) = true := by rw [bne_iff_ne]; exact he
    have HR := hide (show doRes p = [48] by rw [doRes, if_neg he])
    clear he
    go_wp2_with fail
    go_ret
    exact ⟨by rw [HR.out]; rfl, only_setCell (only_of_below K1.out _) (.inl rfl) _, H1.out.set _⟩

set_option maxRecDepth 100000 in
set_option maxHeartbeats 1000000 in
theorem do_quo (w : World) (b : Nat) (s t : ByteArray) (p : List UInt8 × Int) (hb : Sums w b 0) (hop : Calls Tryz.prog 110 #[.string s, .string t] w fun e w' => RetLim p e ∧ Below w.heap.size w w') :
    Calls Tryz.prog 103 #[.pointer (some ⟨b, 0, none⟩), .func (.func 110) #[] #[], .string s, .string t] w fun e w' => e = .returned (.string ⟨(doRes p).toArray⟩) ∧ w.grownBy w' (some b) ∧ Sums w' b p.2 := by
  have c0 := hb.err
  have hlt := Blk.lt hb
  have HB := hide hb
  have HOP := hide hop
  clear hb hop
  go_enter Tryz.func103, Tryz.ntmps103
  go_wp2_with fail
  refine HOP.out.mono ?_
  rintro e w1 ⟨hr, hb1⟩
  rw [RetLim] at hr
  subst hr
  have h1 : Sums w1 b 0 := Blk.below HB.out hb1 hlt
  have c1 := Sums.err h1
  have f1 := Blk.frozen h1 0
  have H1 := hide h1
  have K1 := hide hb1
  clear h1 hb1
  by_cases he : p.2 = 0
  · have e1 : (p.2 != 0) = false := by rw [he]; rfl
    have HR := hide (show doRes p = p.1 by rw [doRes, if_pos he])
    clear he
    go_wp2_with fail
    go_ret
    exact ⟨by rw [HR.out]; rfl, only_setCell (only_of_below K1.out _) (.inl rfl) _, H1.out.set _⟩
  · have e1 : (p.2 != 0) = true := by rw [bne_iff_ne]; exact he
    have HR := hide (show doRes p = [48] by rw [doRes, if_neg he])
    clear he
    go_wp2_with fail
    go_ret
    exact ⟨by rw [HR.out]; rfl, only_setCell (only_of_below K1.out _) (.inl rfl) _, H1.out.set _⟩

set_option maxRecDepth 100000 in
set_option maxHeartbeats 1000000 in
theorem do_mul (w : World) (b : Nat) (s t : ByteArray) (p : List UInt8 × Int) (hb : Sums w b 0) (hop : Calls Tryz.prog 94 #[.string s, .string t] w fun e w' => RetLim p e ∧ Below w.heap.size w w') :
    Calls Tryz.prog 103 #[.pointer (some ⟨b, 0, none⟩), .func (.func 94) #[] #[], .string s, .string t] w fun e w' => e = .returned (.string ⟨(doRes p).toArray⟩) ∧ w.grownBy w' (some b) ∧ Sums w' b p.2 := by
  have c0 := hb.err
  have hlt := Blk.lt hb
  have HB := hide hb
  have HOP := hide hop
  clear hb hop
  go_enter Tryz.func103, Tryz.ntmps103
  go_wp2_with fail
  refine HOP.out.mono ?_
  rintro e w1 ⟨hr, hb1⟩
  rw [RetLim] at hr
  subst hr
  have h1 : Sums w1 b 0 := Blk.below HB.out hb1 hlt
  have c1 := Sums.err h1
  have f1 := Blk.frozen h1 0
  have H1 := hide h1
  have K1 := hide hb1
  clear h1 hb1
  by_cases he : p.2 = 0
  · have e1 : (p.2 != 0) = false := by rw [he]; rfl
    have HR := hide (show doRes p = p.1 by rw [doRes, if_pos he])
    clear he
    go_wp2_with fail
    go_ret
    exact ⟨by rw [HR.out]; rfl, only_setCell (only_of_below K1.out _) (.inl rfl) _, H1.out.set _⟩
  · have e1 : (p.2 != 0) = true := by rw [bne_iff_ne]; exact he
    have HR := hide (show doRes p = [48] by rw [doRes, if_neg he])
    clear he
    go_wp2_with fail
    go_ret
    exact ⟨by rw [HR.out]; rfl, only_setCell (only_of_below K1.out _) (.inl rfl) _, H1.out.set _⟩

theorem doRes_ok {z : Int} (h : z.natAbs < Big) : doRes (lim z) = T z := by rw [lim_ok h]; rfl

/-- A right error number and text. -/
theorem ret_gcd {w : World} {a b : ByteArray} {x y : Int} (h : Two a b x y) (hs : Std w) :
    Calls Tryz.prog 134 #[.string a, .string b] w fun e w' => RetLim (T (Int.gcd x y : Int), 0) e ∧ Below w.heap.size w w' := gcd_any w a b x y h hs

theorem gcd_pos {x y : Int} (hy : y ≠ 0) : 0 < Int.gcd x y := Int.gcd_pos_of_ne_zero_right _ hy
theorem gcd_big {x y : Int} (hy : y ≠ 0) (h : y.natAbs < Big) : Int.gcd x y < Big :=
  Nat.lt_of_le_of_lt (Nat.le_of_dvd (by omega) (Nat.gcd_dvd_right _ _)) h

/-- The divisor of lowest. -/
def lowG (x y : Int) : Int := if y < 0 then -(Int.gcd x y : Int) else (Int.gcd x y : Int)
theorem lowG_ne {x y : Int} (hy : y ≠ 0) : lowG x y ≠ 0 := by have := gcd_pos (x := x) hy; unfold lowG; split <;> omega
theorem lowG_abs (x y : Int) : (lowG x y).natAbs = Int.gcd x y := by unfold lowG; split <;> omega

theorem low_num {x y : Int} (hy : y ≠ 0) : x.fdiv (lowG x y) = (Rat.divInt x y).num ∧ y.fdiv (lowG x y) = ((Rat.divInt x y).den : Int) := by
  have hg := gcd_pos (x := x) hy
  rw [Rat.num_divInt, Rat.den_divInt, if_neg hy, Int.gcd_comm y x]
  obtain ⟨k, hk⟩ : ((Int.gcd x y : Nat) : Int) ∣ x := Int.gcd_dvd_left _ _
  obtain ⟨m, hm⟩ : ((Int.gcd x y : Nat) : Int) ∣ y := Int.gcd_dvd_right _ _
  unfold lowG
  generalize Int.gcd x y = g at *
  have hg0 : (g : Int) ≠ 0 := by omega
  have hya : y.natAbs = g * m.natAbs := by rw [hm, Int.natAbs_mul]; rfl
  rw [hya, Nat.mul_div_cancel_left _ hg]
  have hms : 0 < m ↔ 0 < y := by
    rw [hm]; constructor
    · intro h; exact Int.mul_pos (by omega) h
    · intro h; exact Int.pos_of_mul_pos_right h (by omega)
  have hm0 : m ≠ 0 := by rintro rfl; simp at hm; exact hy hm
  by_cases hn : y < 0
  · rw [if_pos hn, Int.sign_eq_neg_one_iff_neg.2 hn]
    have hmn : m < 0 := by omega
    constructor
    · have e1 : x = -(g : Int) * (-k) := by rw [hk, Int.neg_mul_neg]
      have e2 : -1 * x = (g : Int) * (-k) := by rw [hk, Int.mul_neg]; omega
      rw [e2, Int.mul_ediv_cancel_left _ hg0, e1, Int.mul_fdiv_cancel_left _ (by omega)]
    · have e1 : y = -(g : Int) * (-m) := by rw [hm, Int.neg_mul_neg]
      rw [e1, Int.mul_fdiv_cancel_left _ (by omega)]; omega
  · rw [if_neg hn, Int.sign_eq_one_iff_pos.2 (by omega), Int.one_mul]
    constructor
    · rw [hk, Int.mul_ediv_cancel_left _ hg0, Int.mul_fdiv_cancel_left _ hg0]
    · rw [hm, Int.mul_fdiv_cancel_left _ hg0]; omega

theorem fdiv_le {x g : Int} (hg : g ≠ 0) (h : x.fdiv g * g = x) : (x.fdiv g).natAbs ≤ x.natAbs := by
  have h1 : (x.fdiv g).natAbs * g.natAbs = x.natAbs := by rw [← Int.natAbs_mul, h]
  have h2 : 1 ≤ g.natAbs := by omega
  have h3 := Nat.mul_le_mul_left (x.fdiv g).natAbs h2
  omega

theorem low_mul (x y : Int) : x.fdiv (lowG x y) * lowG x y = x ∧ y.fdiv (lowG x y) * lowG x y = y := by
  have hx : lowG x y ∣ x := by unfold lowG; split; exact Int.neg_dvd.2 (Int.gcd_dvd_left _ _); exact (Int.gcd_dvd_left _ _)
  have hz : lowG x y ∣ y := by unfold lowG; split; exact Int.neg_dvd.2 (Int.gcd_dvd_right _ _); exact (Int.gcd_dvd_right _ _)
  exact ⟨Int.fdiv_mul_cancel hx, Int.fdiv_mul_cancel hz⟩

/-- In lowest terms no number becomes longer. -/
theorem low_big {x y : Int} (hy : y ≠ 0) (hx : x.natAbs < Big) (hyb : y.natAbs < Big) : (Rat.divInt x y).num.natAbs < Big ∧ (Rat.divInt x y).den < Big := by
  obtain ⟨h1, h2⟩ := low_num (x := x) hy
  obtain ⟨m1, m2⟩ := low_mul x y
  have a1 := fdiv_le (lowG_ne hy) m1
  have a2 := fdiv_le (lowG_ne hy) m2
  rw [h1] at a1
  rw [h2] at a2
  omega

set_option maxRecDepth 100000 in
set_option maxHeartbeats 1000000 in
theorem joined_any (w : World) (s t : ByteArray) (q : Rat) (hs : s.data.toList = T q.num) (ht : t.data.toList = T (q.den : Int)) (hsz : s.size ≤ 4000) (htz : t.size ≤ 4000) :
    Calls Tryz.prog 136 #[.string s, .string t] w fun e w' => e = .returned (.string ⟨(RT q).toArray⟩) ∧ w = w' := by
  have htl : t.toList = T (q.den : Int) := by rw [Lib.toList_data, ht]
  by_cases h1 : q.den = 1
  · have hb : (t.toList == [49]) = true := by rw [htl, h1, show ((1 : Nat) : Int) = 1 from rfl, T_one]; rfl
    have e : s = ⟨(RT q).toArray⟩ := ba_eq (by rw [hs, RT, if_pos h1])
    have E := hide e
    clear hs ht htl e h1
    go_enter Tryz.func136, Tryz.ntmps136
    go_wp2_with fail
    go_ret
    exact ⟨by rw [← E.out]; rfl, rfl⟩
  · have hb : (t.toList == [49]) = false := by
      rw [beq_eq_false_iff_ne, htl]; intro e
      have := T_inj (e.trans T_one.symm)
      omega
    have e : s ++ (⟨#[47]⟩ : ByteArray) ++ t = ⟨(RT q).toArray⟩ := ba_eq (by
      rw [ByteArray.data_append, ByteArray.data_append, Array.toList_append, Array.toList_append, hs, ht, RT, if_neg h1, T_nat, List.append_assoc]; rfl)
    have E := hide e
    clear hs ht htl e h1
    go_enter Tryz.func136, Tryz.ntmps136
    go_wp2_with fail
    go_ret
    exact ⟨by rw [← E.out]; rfl, rfl⟩
theorem T_size {s : ByteArray} {z : Int} (h : s.data.toList = T z) (hz : z.natAbs < Big) : s.size ≤ 1025 := by rw [Lib.size_eq, h]; exact T_len_big hz

set_option maxRecDepth 100000 in
set_option maxHeartbeats 1000000 in
theorem ssub_any (w : World) (b : Nat) (s t : ByteArray) (x y : Int) (h : Two s t x y) (hr : (x - y).natAbs < Big) (hb : Sums w b 0) (hs : Std w) :
    Calls Tryz.prog 100 #[.pointer (some ⟨b, 0, none⟩), .string s, .string t] w fun e w' => e = .returned (.string ⟨(T (x - y)).toArray⟩) ∧ w.grownBy w' (some b) ∧ Sums w' b 0 := by
  have h1 := do_sub w b s t _ hb (sub_any w s t x y h hs)
  rw [doRes_ok hr, lim_ok hr] at h1
  have H1 := hide h1
  clear h1 hb h hs hr
  go_enter Tryz.func100, Tryz.ntmps100
  go_wp2_with fail
  refine H1.out.mono ?_
  rintro e w1 ⟨rfl, hg, hS⟩
  have K1 := hide hg
  have K2 := hide hS
  clear hg hS
  go_wp2_with fail
  go_ret
  exact ⟨rfl, K1.out, K2.out⟩

set_option maxRecDepth 100000 in
set_option maxHeartbeats 2000000 in
/-- The quotient in lowest terms; b is a block above all that the library's tables use. -/
theorem lowest_any (w : World) (b : Nat) (s t : ByteArray) (x y : Int) (h : Two s t x y) (hy : y ≠ 0) (hb : Sums w b 0) (hs : ∀ W, w.grownBy W (some b) → Std W) :
    Calls Tryz.prog 102 #[.pointer (some ⟨b, 0, none⟩), .string s, .string t] w fun e w' => e = .returned (.string ⟨(RT (Rat.divInt x y)).toArray⟩) ∧ w.grownBy w' (some b) ∧ Sums w' b 0 := by
  have H := hide h
  have HY := hide hy
  have HS := hide hs
  have HB := hide hb
  have hgb := gcd_big (x := x) hy h.bz
  have HGB := hide hgb
  obtain ⟨l1, l2⟩ := low_num (x := x) hy
  have L1 := hide l1
  have L2 := hide l2
  obtain ⟨b1, b2⟩ := low_big (x := x) hy h.bx h.bz
  have hpre : Lib.hasPrefix t.data.toList [45] = decide (y < 0) := by
    rw [h.hb]
    have := T_head_neg (z := y)
    unfold Lib.hasPrefix
    cases hT : T y with
    | nil => exact absurd hT (T_ne y)
    | cons c r =>
      rw [hT] at this
      simp only [List.head?_cons, Option.some.injEq] at this
      simp only [List.isPrefixOf, Bool.and_true]
      rw [Bool.eq_iff_iff, beq_iff_eq, decide_eq_true_eq, ← this]
      exact ⟨fun e => e.symm, fun e => e.symm⟩
  have HP := hide hpre
  clear h hy hs hb hgb l1 l2 hpre
  go_enter Tryz.func102, Tryz.ntmps102
  go_wp2_with fail
  refine (do_gcd _ _ _ _ _ HB.out (ret_gcd H.out (HS.out _ (only_refl _ _)))).mono ?_
  rintro e w1 ⟨rfl, hg1, hS1⟩
  have G1 := hide hg1
  have S1 := hide hS1
  clear hg1 hS1
  go_wp2_with fail
  refine (Tryz.strings_HasPrefix _ _ _).mono ?_
  rintro e w2 ⟨rfl, rfl⟩
  rw [HP.out]
  go_upto_if 13 with (fail)
  go_cut [7] (fun v wc => v = .string ⟨(T (lowG x y)).toArray⟩ ∧ w.grownBy wc (some b) ∧ Sums wc b 0)
  case first =>
    by_cases hn : y < 0
    · have hd : decide (y < 0) = true := by simpa using hn
      rw [hd]
      have hl : lowG x y = 0 - (Int.gcd x y : Int) := by rw [lowG, if_pos hn]; omega
      have HL := hide hl
      clear hn hd hl
      go_wp2_with fail
      refine (ssub_any _ _ _ _ 0 (Int.gcd x y : Int) ⟨T_zero.symm, rfl, by have := HGB.out; omega, by have := HGB.out; omega⟩ (by have := HGB.out; omega) S1.out (HS.out _ G1.out)).mono ?_
      rintro e w3 ⟨rfl, hg3, hS3⟩
      rw [← HL.out]
      have G3 := hide (only_trans G1.out hg3)
      have S3 := hide hS3
      clear hg3 hS3
      go_wp2_with fail
      go_meet
      case rel => exact ⟨rfl, G3.out, S3.out⟩
    · have hd : decide (y < 0) = false := by simpa using hn
      rw [hd]
      have hl : (Int.gcd x y : Int) = lowG x y := by rw [lowG, if_neg hn]
      rw [show doRes (T (Int.gcd x y : Int), 0) = T (Int.gcd x y : Int) from rfl, hl]
      clear hn hd hl
      go_wp2_with fail
      go_meet
      case rel => exact ⟨rfl, G1.out, S1.out⟩
  case rest =>
    obtain ⟨rfl, hg, hS⟩ := hcut
    have c0 := Sums.err hS
    have hlg : (lowG x y).natAbs < Big := by rw [lowG_abs]; exact HGB.out
    have hne := lowG_ne (x := x) HY.out
    have q1 := quo_any wc s ⟨(T (lowG x y)).toArray⟩ x (lowG x y) ⟨H.out.ha, rfl, H.out.bx, hlg⟩ hne (HS.out _ hg)
    rw [L1.out] at q1
    have Q1 := hide q1
    have G2 := hide hg
    have S2 := hide hS
    have HLG := hide hlg
    have HNE := hide hne
    clear hg hS hlg hne q1 G1 S1
    go_wp2_with fail
    refine (do_quo _ _ _ _ _ S2.out Q1.out).mono ?_
    rintro e w3 ⟨rfl, hg3, hS3⟩
    rw [doRes_ok b1]
    rw [lim_ok b1] at hS3
    have G3 := hide (only_trans G2.out hg3)
    have S3 := hide hS3
    clear hg3 hS3 Q1
    have q2 := quo_any w3 t ⟨(T (lowG x y)).toArray⟩ y (lowG x y) ⟨H.out.hb, rfl, H.out.bz, HLG.out⟩ HNE.out (HS.out _ G3.out)
    rw [L2.out] at q2
    have Q2 := hide q2
    clear q2
    go_wp2_with fail
    refine (do_quo _ _ _ _ _ S3.out Q2.out).mono ?_
    rintro e w4 ⟨rfl, hg4, hS4⟩
    rw [doRes_ok (z := ((Rat.divInt x y).den : Int)) b2]
    rw [lim_ok (z := ((Rat.divInt x y).den : Int)) b2] at hS4
    have G4 := hide (only_trans G3.out hg4)
    have S4 := hide hS4
    clear hg4 hS4 Q2
    go_wp2_with fail
    refine (joined_any _ _ _ (Rat.divInt x y) rfl rfl (by have := T_size (s := ⟨(T (Rat.divInt x y).num).toArray⟩) rfl b1; omega) (by have := T_size (s := ⟨(T ((Rat.divInt x y).den : Int)).toArray⟩) (z := ((Rat.divInt x y).den : Int)) rfl b2; omega)).mono ?_
    rintro e w5 ⟨rfl, rfl⟩
    go_wp2_with fail
    go_ret
    exact ⟨rfl, G4.out, S4.out⟩
/-- The result of Make. -/
def RetRat (q : Rat) (e : Ending) : Prop := e = .returned (.tuple #[.string ⟨(RT q).toArray⟩, .int .i64 0])

set_option maxRecDepth 100000 in
set_option maxHeartbeats 2000000 in
theorem make_any (w : World) (s t : ByteArray) (x y : Int) (h : Two s t x y) (hy : y ≠ 0) (hs : Std w) :
    Calls Tryz.prog 109 #[.string s, .string t] w fun e w' => RetRat (Rat.divInt x y) e ∧ Below w.heap.size w w' := by
  have H := hide h
  have HS := hide hs
  have HY := hide hy
  have hb0 : (t.toList == [48]) = false := by
    rw [Lib.toList_data, h.hb, beq_eq_false_iff_ne]; intro e; exact hy (T_inj (e.trans T_zero.symm))
  have c1 := chk_T x
  have c2 := chk_T y
  rw [if_pos h.bx] at c1
  rw [if_pos h.bz] at c2
  have C1 := hide c1
  have C2 := hide c2
  clear h hs hy c1 c2
  go_enter Tryz.func109, Tryz.ntmps109
  go_upto_region 2 with (fail)
  have hblk := Blk.new w 63 #[.string s, .string t]
  have hbl : Below w.heap.size w (w.alloc (.cells #[.string s, .string t] 63)) := (Below.refl _ _).alloc (Nat.le_refl _) _
  generalize (w.alloc (.cells #[.string s, .string t] 63)) = w0 at *
  have BLK := hide hblk
  have BEL := hide hbl
  clear hblk hbl
  go_wp2_with fail
  go_loopg [15] 2 (fun k i wr => ∃ j : Nat, i = .int .i64 (j : Int) ∧ k + j = 2 ∧ Below w0.heap.size w0 wr)
  case atStart => exact ⟨0, rfl, rfl, Below.refl _ _⟩
  case round =>
    obtain ⟨j, rfl, hk, hb⟩ := hrel
    have HK := hide hk
    have HB := hide hb
    have hblk := BLK.out.below hb (Blk.lt BLK.out)
    have k0 : wr.cell? ⟨w.heap.size, 0, none⟩ = some (.string s) := by rw [hblk.cell]; rfl
    have k1 : wr.cell? ⟨w.heap.size, 1, none⟩ = some (.string t) := by rw [hblk.cell]; rfl
    clear hk hb hblk
    have hj : j = 0 ∨ j = 1 ∨ j = 2 := by have := HK.out; omega
    rcases hj with rfl | rfl | rfl
    · go_wp2_with fail
      refine (check_any s _ H.out.ha (by have := T_size H.out.ha H.out.bx; omega) _).mono ?_
      rintro e w2 ⟨rfl, hb2⟩
      rw [C1.out]
      have K2 := hide (HB.out.trans (hb2.mono HB.out.size))
      clear hb2
      go_wp2_with fail
      go_roundg 1
      case measure => have := HK.out; omega
      case rel => exact ⟨1, rfl, rfl, K2.out⟩
    · go_wp2_with fail
      refine (check_any t _ H.out.hb (by have := T_size H.out.hb H.out.bz; omega) _).mono ?_
      rintro e w2 ⟨rfl, hb2⟩
      rw [C2.out]
      have K2 := hide (HB.out.trans (hb2.mono HB.out.size))
      clear hb2
      go_wp2_with fail
      go_roundg 0
      case measure => have := HK.out; omega
      case rel => exact ⟨2, rfl, rfl, K2.out⟩
    · go_wp2_with fail
      have hch : Below w.heap.size w (wr.alloc (.cells #[.int .i64 0] 111)) := (BEL.out.trans (HB.out.mono BEL.out.size)).alloc (Nat.le_trans BEL.out.size HB.out.size) _
      have hle : w.heap.size ≤ wr.heap.size := Nat.le_trans BEL.out.size HB.out.size
      have hbw : ∀ W, (wr.alloc (.cells #[.int .i64 0] 111)).grownBy W (some wr.heap.size) → Below w.heap.size w W := fun W hg => below_only hch hg (by simp; omega) hle
      have HBW := hide hbw
      clear hch hbw
      refine (lowest_any _ wr.heap.size s t x y H.out HY.out (Blk.new wr _ _) (fun W hg => HS.out.below (HBW.out W hg) (Nat.le_refl _))).mono ?_
      rintro e w4 ⟨rfl, hg4, hS4⟩
      have c4 := Sums.err hS4
      have K4 := hide (HBW.out _ hg4)
      clear hg4 hS4
      go_wp2_with fail
      go_ret2
      exact ⟨rfl, K4.out⟩

end Go.Proofs.YtaccdkbofhlbkaaGreatDoor
