/- whole: sum, Add, opposite, Sub, Mul. -/
import Derived.Test.YtaccdkbofhlbkaaGreatDoorWhole
namespace Go.Proofs.YtaccdkbofhlbkaaGreatDoor
open Go.RowKit MLab

theorem ba_eq {s : ByteArray} {l : List UInt8} (h : s.data.toList = l) : s = ⟨l.toArray⟩ := by
  obtain ⟨⟨m⟩⟩ := s
  simp only at h
  rw [h]

theorem pow_fit {a b c k : Nat} (h : a + b = 9 * c) (hk : k < 10 ^ b) : k * 10 ^ a < W9 ^ c := by
  have h1 : W9 ^ c = 10 ^ a * 10 ^ b := by
    rw [← Nat.pow_add, h, Nat.pow_mul]; rfl
  rw [h1, Nat.mul_comm]
  exact Nat.mul_lt_mul_of_pos_left hk (Nat.pow_pos (by omega))
theorem lt_pow10 {b k : Nat} (hb : 5 ≤ b) (hk : k ≤ 10000) : k < 10 ^ b := by
  have h2 : (10 : Nat) ^ 5 ≤ 10 ^ b := Nat.pow_le_pow_right (by omega) hb
  omega
theorem Big_W9 {k : Nat} (hk : k ≤ 10000) : k * Big < W9 ^ 232 := by
  have h := pow_fit (a := 1024) (b := 1064) (c := 232) (k := k) (by decide) (lt_pow10 (b := 1064) (by decide) hk)
  unfold Big
  exact h

theorem sval_mul (x y : Int) : sval (decide (x < 0) != decide (y < 0)) (x.natAbs * y.natAbs) = x * y := by
  have hxa : (x.natAbs : Int) = if x < 0 then -x else x := by split <;> omega
  have hya : (y.natAbs : Int) = if y < 0 then -y else y := by split <;> omega
  unfold sval
  rw [Int.natCast_mul, hxa, hya]
  by_cases hx : x < 0 <;> by_cases hy : y < 0 <;> simp [hx, hy, Int.neg_mul, Int.mul_neg]

theorem sval_abs (l : Bool) (N : Nat) : (sval l N).natAbs = N := by unfold sval; split <;> omega
theorem sval_of {z : Int} {N : Nat} (h : N = z.natAbs) : sval (decide (z < 0)) N = z := by
  unfold sval; split <;> simp_all <;> omega

theorem sum_abs : ∀ (zs : List Int), (∀ z ∈ zs, z.natAbs < Big) → zs.sum.natAbs ≤ zs.length * Big
  | [], _ => by simp
  | z :: t, h => by
    have h1 := h z (by simp)
    have h2 := sum_abs t fun y hy => h y (by simp [hy])
    rw [List.sum_cons, List.length_cons, Nat.add_mul, Nat.one_mul]
    omega

set_option maxRecDepth 100000 in
set_option maxHeartbeats 1000000 in
theorem sum_any (w : World) (v : Value) (zs : List Int) (hv : Strs w v (zs.map T)) (hL : zs.length ≤ 4096) (hz : ∀ z ∈ zs, z.natAbs < Big) (hs : Std w) :
    Calls Tryz.prog 137 #[v] w fun e w' => RetLim (lim zs.sum) e ∧ Below w.heap.size w w' := by
  obtain ⟨A, c, rfl, hc⟩ := id hv
  rw [List.length_map] at hc ⊢
  have HC := hide hc
  have HZ := hide hz
  have HS := hide hs
  clear hv hc hz hs
  go_enter Tryz.func137, Tryz.ntmps137
  go_upto_region 2 with (fail)
  have hw0 := Wd.new w
  have hb0 : Below w.heap.size w (w.alloc (.cells Tryz.zeroCells167 167)) := (Below.refl _ _).alloc (Nat.le_refl _) _
  generalize (w.alloc (.cells Tryz.zeroCells167 167)) = w0 at *
  have H0 := hide hw0
  have HB0 := hide hb0
  clear hw0 hb0
  go_wp2_with fail
  go_loopg [11] zs.length (fun k i wr => ∃ (j : Nat) (l : Bool) (m : Nat) (d : Nat → Nat), i = .int .i64 (j : Int) ∧ k + j = zs.length ∧ Wd wr w.heap.size l m d ∧ Rt m d ∧ sval l (num d m) = (zs.take j).sum ∧ Below w.heap.size w wr)
  case atStart => exact ⟨0, false, 0, fun _ => 0, rfl, rfl, H0.out, ⟨fun _ => by decide, fun _ _ => rfl, .inl rfl, by omega⟩, by simp [sval, num], HB0.out⟩
  case round =>
    clear H0 HB0
    obtain ⟨j, l, m, d, rfl, hk, hW, hR, hN, hb⟩ := hrel
    have hj : j ≤ zs.length := by omega
    have HK := hide hk
    have HW := hide hW
    have HR := hide hR
    have HN := hide hN
    have HB := hide hb
    clear hk hW hR hN hb
    by_cases hlt : j < zs.length
    · have hji : (j : Int) < (zs.length : Int) := by omega
      obtain ⟨b, off, hA, hcell⟩ := HC.out (by omega)
      obtain ⟨s, h1, h2⟩ := hcell j (T zs[j]) (by rw [List.getElem?_map, List.getElem?_eq_getElem hlt]; rfl)
      have hc1 : wr.cell? ⟨b, off + j, none⟩ = some (.string s) := (HB.out.cell (p := ⟨b, off + j, none⟩) (block_lt_of_cell h1)).trans h1
      have hzj := HZ.out zs[j] (List.getElem_mem hlt)
      have H2 := hide h2
      have HZJ := hide hzj
      clear hcell h1 h2 hzj
      subst hA
      go_wp2_with fail
      refine (read_any s _ H2.out HZJ.out _).mono ?_
      rintro e w2 ⟨rfl, hb2, m2, d2, hW2, hR2, _, hn2⟩
      have hfit : num d m + num d2 m2 < W9 ^ 232 := by
        have h3 := sum_abs (zs.take j) fun z hz => HZ.out z (List.mem_of_mem_take hz)
        rw [← HN.out, sval_abs, List.length_take] at h3
        have h4 := HZJ.out
        have h5 := Big_W9 (k := 10000) (Nat.le_refl _)
        have h6 : min j zs.length * Big ≤ 4096 * Big := Nat.mul_le_mul_right _ (by omega)
        omega
      have K1 := hide hb2
      have K2 := hide hW2
      have K3 := hide hR2
      have K4 := hide hn2
      have K5 := hide hfit
      have hlb := HW.out.lt
      clear hb2 hW2 hR2 hn2 hfit
      go_wp2_with fail
      refine (plus_any _ _ _ _ _ _ _ _ _ (HW.out.below K1.out hlb) K2.out (by omega) HR.out K3.out K5.out).mono ?_
      rintro e w3 ⟨rfl, hg3, l3, m3, d3, hW3, hR3, hn3⟩
      have L1 := hide hg3
      have L2 := hide hW3
      have L3 := hide hR3
      have L4 := hide hn3
      clear hg3 hW3 hR3 hn3
      go_wp2_with fail
      go_roundg (gk - 1)
      case measure => have := HK.out; omega
      case rel =>
        refine ⟨j + 1, l3, m3, d3, by go_num, by have := HK.out; omega, L2.out, L3.out, ?_, ?_⟩
        · rw [L4.out, HN.out, sval_of K4.out, List.take_succ_eq_append_getElem hlt, List.sum_append]; simp
        · exact below_only (HB.out.trans (K1.out.mono HB.out.size)) L1.out (Nat.le_trans HB.out.size K1.out.size) (Nat.le_refl _)
    · have hji : ¬ (j : Int) < (zs.length : Int) := by omega
      have hsum : sval l (num d m) = zs.sum := by rw [HN.out, List.take_of_length_le (by omega)]
      have HSUM := hide hsum
      clear hsum
      go_wp2_with fail
      refine (limited_any _ _ _ _ _ _ HW.out HR.out HSUM.out (HS.out.below HB.out (Nat.le_refl _))).mono ?_
      rintro e w2 ⟨rfl, hb2⟩
      have K1 := hide hb2
      clear hb2
      go_wp2_with fail
      go_ret2
      exact ⟨rfl, HB.out.trans (K1.out.mono HB.out.size)⟩

/-- What Add, Sub, Mul ask of their arguments. -/
structure Two (a b : ByteArray) (x y : Int) : Prop where
  ha : a.data.toList = T x
  hb : b.data.toList = T y
  bx : x.natAbs < Big
  bz : y.natAbs < Big

theorem Two.short {a b : ByteArray} {x y : Int} (h : Two a b x y) (h1 : a.size ≤ 9) (h2 : b.size ≤ 9) : x.natAbs < 1000000000 ∧ y.natAbs < 1000000000 :=
  ⟨len9 (by rw [← h.ha, ← Lib.size_eq]; exact h1), len9 (by rw [← h.hb, ← Lib.size_eq]; exact h2)⟩

set_option maxRecDepth 100000 in
set_option maxHeartbeats 1000000 in
theorem add_any (w : World) (a b : ByteArray) (x y : Int) (h : Two a b x y) (hs : Std w) :
    Calls Tryz.prog 104 #[.string a, .string b] w fun e w' => RetLim (lim (x + y)) e ∧ Below w.heap.size w w' := by
  have H := hide h
  have HS := hide hs
  clear h hs
  by_cases hsm : a.size ≤ 9 ∧ b.size ≤ 9
  · obtain ⟨h1, h2⟩ := hsm
    obtain ⟨b1, b2⟩ := H.out.short h1 h2
    go_enter Tryz.func104, Tryz.ntmps104
    go_wp2_with fail
    refine (all_two _ _ _ x y H.out.ha H.out.hb H.out.bx H.out.bz _).mono ?_
    rintro e w1 ⟨rfl, hb1⟩
    have K1 := hide hb1
    clear hb1
    go_wp2_with fail
    refine (small_yes _ _ _ x y H.out.ha H.out.hb h1 h2).mono ?_
    rintro e w2 ⟨rfl, hb2⟩
    have K2 := hide (K1.out.trans (hb2.mono K1.out.size))
    clear hb2
    have e1 : (-1000000000 : Int) < x := by omega
    have e2 : x < 1000000000 := by omega
    have e3 : (-1000000000 : Int) < y := by omega
    have e4 : y < 1000000000 := by omega
    go_wp2_with fail
    refine (result_any (x + y) (by omega) (by omega) _ (HS.out.below K2.out (Nat.le_refl _))).mono ?_
    rintro e w3 ⟨rfl, hb3⟩
    have K3 := hide (K2.out.trans (hb3.mono K2.out.size))
    clear hb3
    go_wp2_with fail
    go_ret2
    exact ⟨rfl, K3.out⟩
  · have hor : 9 < a.size ∨ 9 < b.size := by omega
    have HOR := hide hor
    clear hor hsm
    go_enter Tryz.func104, Tryz.ntmps104
    go_wp2_with fail
    refine (all_two _ _ _ x y H.out.ha H.out.hb H.out.bx H.out.bz _).mono ?_
    rintro e w1 ⟨rfl, hb1⟩
    have K1 := hide hb1
    clear hb1
    go_wp2_with fail
    refine (small_no _ _ _ HOR.out).mono ?_
    rintro e w2 ⟨rfl, rfl⟩
    go_wp2_with fail
    have hst := strs_two w1 a b 63
    rw [H.out.ha, H.out.hb] at hst
    refine (sum_any _ _ [x, y] hst (by simp) ?_ ?_).mono ?_
    · intro z hz
      rcases List.mem_cons.1 hz with rfl | hz
      · exact H.out.bx
      · rcases List.mem_cons.1 hz with rfl | hz
        · exact H.out.bz
        · cases hz
    · exact HS.out.below (K1.out.alloc K1.out.size _) (Nat.le_refl _)
    · rintro e w3 ⟨hr, hb3⟩
      have hsum : [x, y].sum = x + y := by simp
      rw [hsum] at hr
      rw [RetLim] at hr
      subst hr
      have K3 := hide ((K1.out.alloc K1.out.size _).trans (hb3.mono (by have := K1.out.size; simp; omega)))
      clear hb3 hsum hst
      go_wp2_with fail
      go_ret2
      exact ⟨rfl, K3.out⟩

set_option maxRecDepth 100000 in
set_option maxHeartbeats 1000000 in
theorem opposite_any (w : World) (s : ByteArray) (z : Int) (hs : s.data.toList = T z) (hb : z.natAbs < Big) :
    Calls Tryz.prog 107 #[.string s] w fun e w' => e = .returned (.string ⟨(T (-z)).toArray⟩) ∧ w = w' := by
  have HS := hide hs
  have hne : 1 ≤ s.size := by rw [Lib.size_eq, hs]; exact List.length_pos_iff.2 (T_ne z)
  have hsz : s.size ≤ 1025 := by rw [Lib.size_eq, hs]; exact T_len_big hb
  clear hs hb
  go_enter Tryz.func107, Tryz.ntmps107
  go_wp2_with fail
  refine (sign_any _ _ z HS.out).mono ?_
  rintro e w1 ⟨rfl, rfl⟩
  rcases Int.lt_trichotomy z 0 with hz | hz | hz
  · rw [Int.sign_eq_neg_one_iff_neg.2 hz]
    have hne' : (1 : Int) ≤ (s.size : Int) := by omega
    have HZ := hide hz
    clear hz
    go_wp2_with fail
    go_ret
    refine ⟨?_, rfl⟩
    have e1 : s.extract 1 s.size = ⟨(T (-z)).toArray⟩ := by
      refine ba_eq ?_
      have hz := HZ.out
      rw [Lib.extract_data, HS.out, T_neg hz, T_nonneg (by omega), List.drop_succ_cons, List.drop_zero, List.take_of_length_le, show (-z).toNat = z.natAbs by omega]
      rw [Lib.size_eq, HS.out, T_neg hz, List.length_cons]; omega
    rw [← e1]; rfl
  · subst hz
    go_wp2_with fail
    go_ret
    refine ⟨?_, rfl⟩
    have e1 : s = ⟨(T (-0)).toArray⟩ := ba_eq HS.out
    rw [← e1]; rfl
  · rw [Int.sign_eq_one_iff_pos.2 hz]
    have HZ := hide hz
    clear hz
    go_wp2_with fail
    go_ret
    refine ⟨?_, rfl⟩
    have e1 : (⟨#[45]⟩ : ByteArray) ++ s = ⟨(T (-z)).toArray⟩ := by
      refine ba_eq ?_
      have hz := HZ.out
      rw [ByteArray.data_append, Array.toList_append, HS.out, T_nonneg (z := z) (by omega), T_neg (z := -z) (by omega), show (-z).natAbs = z.toNat by omega]
      rfl
    rw [← e1]; rfl

set_option maxRecDepth 100000 in
set_option maxHeartbeats 1000000 in
theorem sub_any (w : World) (a b : ByteArray) (x y : Int) (h : Two a b x y) (hs : Std w) :
    Calls Tryz.prog 60 #[.string a, .string b] w fun e w' => RetLim (lim (x - y)) e ∧ Below w.heap.size w w' := by
  have H := hide h
  have HS := hide hs
  clear h hs
  go_enter Tryz.func60, Tryz.ntmps60
  go_wp2_with fail
  refine (all_two _ _ _ x y H.out.ha H.out.hb H.out.bx H.out.bz _).mono ?_
  rintro e w1 ⟨rfl, hb1⟩
  have K1 := hide hb1
  clear hb1
  go_wp2_with fail
  refine (opposite_any _ _ y H.out.hb H.out.bz).mono ?_
  rintro e w2 ⟨rfl, rfl⟩
  go_wp2_with fail
  refine (add_any _ _ _ x (-y) ⟨H.out.ha, rfl, H.out.bx, by have := H.out.bz; omega⟩ (HS.out.below K1.out (Nat.le_refl _))).mono ?_
  rintro e w3 ⟨hr, hb3⟩
  rw [show x + -y = x - y by omega, RetLim] at hr
  subst hr
  have K3 := hide (K1.out.trans (hb3.mono K1.out.size))
  clear hb3
  go_wp2_with fail
  go_ret2
  exact ⟨rfl, K3.out⟩

set_option maxRecDepth 100000 in
set_option maxHeartbeats 1000000 in
theorem mul_any (w : World) (a b : ByteArray) (x y : Int) (h : Two a b x y) (hs : Std w) :
    Calls Tryz.prog 94 #[.string a, .string b] w fun e w' => RetLim (lim (x * y)) e ∧ Below w.heap.size w w' := by
  have H := hide h
  have HS := hide hs
  clear h hs
  by_cases hsm : a.size ≤ 9 ∧ b.size ≤ 9
  · obtain ⟨h1, h2⟩ := hsm
    obtain ⟨b1, b2⟩ := H.out.short h1 h2
    go_enter Tryz.func94, Tryz.ntmps94
    go_wp2_with fail
    refine (all_two _ _ _ x y H.out.ha H.out.hb H.out.bx H.out.bz _).mono ?_
    rintro e w1 ⟨rfl, hb1⟩
    have K1 := hide hb1
    clear hb1
    go_wp2_with fail
    refine (small_yes _ _ _ x y H.out.ha H.out.hb h1 h2).mono ?_
    rintro e w2 ⟨rfl, hb2⟩
    have K2 := hide (K1.out.trans (hb2.mono K1.out.size))
    clear hb2
    have e5 : x * y ≤ 999999998000000001 ∧ -999999998000000001 ≤ x * y := by
      have hm : (x * y).natAbs ≤ 999999999 * 999999999 := by rw [Int.natAbs_mul]; exact Nat.mul_le_mul (by omega) (by omega)
      omega
    obtain ⟨e5, e6⟩ := e5
    go_wp2_with fail
    refine (result_any (x * y) (by omega) (by omega) _ (HS.out.below K2.out (Nat.le_refl _))).mono ?_
    rintro e w3 ⟨rfl, hb3⟩
    have K3 := hide (K2.out.trans (hb3.mono K2.out.size))
    clear hb3
    go_wp2_with fail
    go_ret2
    exact ⟨rfl, K3.out⟩
  · have hor : 9 < a.size ∨ 9 < b.size := by omega
    have HOR := hide hor
    clear hor hsm
    go_enter Tryz.func94, Tryz.ntmps94
    go_wp2_with fail
    refine (all_two _ _ _ x y H.out.ha H.out.hb H.out.bx H.out.bz _).mono ?_
    rintro e w1 ⟨rfl, hb1⟩
    have K1 := hide hb1
    clear hb1
    go_wp2_with fail
    refine (small_no _ _ _ HOR.out).mono ?_
    rintro e w2 ⟨rfl, rfl⟩
    go_wp2_with fail
    refine (read_any _ _ H.out.ha H.out.bx _).mono ?_
    rintro e w2 ⟨rfl, hb2, m2, d2, hW2, hR2, hm2, hn2⟩
    have A1 := hide hb2
    have A2 := hide hW2
    have A3 := hide hR2
    have A4 := hide hn2
    clear hb2 hW2 hR2 hn2
    go_wp2_with fail
    refine (read_any _ _ H.out.hb H.out.bz _).mono ?_
    rintro e w3 ⟨rfl, hb3, m3, d3, hW3, hR3, hm3, hn3⟩
    have B1 := hide hb3
    have B2 := hide hW3
    have B3 := hide hR3
    have B4 := hide hn3
    have hlt := A2.out.lt
    clear hb3 hW3 hR3 hn3
    go_wp2_with fail
    refine (times_any _ _ _ _ _ _ _ _ _ (A2.out.below B1.out hlt) B2.out A3.out B3.out (by omega)).mono ?_
    rintro e w4 ⟨rfl, hb4, m4, d4, hW4, hR4, hn4⟩
    have C1 := hide hb4
    have C2 := hide hW4
    have C3 := hide hR4
    have hval : sval (decide (x < 0) != decide (y < 0)) (num d4 m4) = x * y := by
      rw [hn4, A4.out, B4.out]; exact sval_mul x y
    have C4 := hide hval
    have K2 := hide ((K1.out.trans (A1.out.mono K1.out.size)).trans ((B1.out.mono (Nat.le_trans K1.out.size A1.out.size)).trans (C1.out.mono (Nat.le_trans K1.out.size (Nat.le_trans A1.out.size B1.out.size)))))
    clear hb4 hW4 hR4 hn4 hval
    go_wp2_with fail
    refine (limited_any _ _ _ _ _ _ C2.out C3.out C4.out (HS.out.below K2.out (Nat.le_refl _))).mono ?_
    rintro e w5 ⟨rfl, hb5⟩
    have K3 := hide (K2.out.trans (hb5.mono K2.out.size))
    clear hb5
    go_wp2_with fail
    go_ret2
    exact ⟨rfl, K3.out⟩
end Go.Proofs.YtaccdkbofhlbkaaGreatDoor
