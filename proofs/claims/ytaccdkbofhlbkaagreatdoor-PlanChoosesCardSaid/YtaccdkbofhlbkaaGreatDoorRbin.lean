/- The reference: Signum, Unit, Process, Binomial; Decide of both. -/
import Derived.Test.YtaccdkbofhlbkaaGreatDoorRplan
import Derived.Test.YtaccdkbofhlbkaaGreatDoorBinp
import Derived.Test.YtaccdkbofhlbkaaGreatDoorPlaccs
namespace Go.Proofs.YtaccdkbofhlbkaaGreatDoor
open Go.RowKit Go.Shelf MLab

theorem den_of_len4 {d k : Nat} (h : (Lib.decDigits d).length ≤ k) (hk : 1 ≤ k) : d < 10 ^ k := (dec_length_le hk).1 h
/-- A short right text is that of a small number. -/
theorem short_sz4 {l : List UInt8} {k : Nat} (hk : 1 ≤ k) (h : chkR l = 0) (hl : (numL l).length ≤ k) (hd : (denL l).length ≤ k) : ∃ q, l = RT q ∧ Sz k k q := by
  obtain ⟨q, rfl, _⟩ := chkR_zero h
  refine ⟨q, rfl, ?_⟩
  rw [RT_num, T_length] at hl
  rw [RT_den, T_length] at hd
  rw [Int.natAbs_natCast] at hd
  exact ⟨den_of_len4 (by omega) hk, Nat.le_of_lt (den_of_len4 (by omega) hk)⟩
theorem num_len (l : List UInt8) : (numL l).length ≤ l.length := numL_len l
set_option maxRecDepth 100000 in
set_option maxHeartbeats 2000000 in
theorem rsignum_any (w : World) (a : ByteArray) (q : Rat) (ha : a.data.toList = RT q) (hq : Sz 30 30 q) :
    Calls Tryz.prog 114 #[.string a] w fun e w' => e = .returned (.int .i64 q.num.sign) ∧ Below w.heap.size w w' := by
  have az : a.size < 4000000000 := by have := RT_size (m := 30) (by omega) ha hq; omega
  have HP := hide (rsplit_any w a _ ha az)
  rw [RT_num, RT_den] at HP
  have HO := hide (fun W => rorder_any W ⟨(T q.num).toArray⟩ ⟨#[48]⟩ q.num 0 (by have h := rtwo_of (x := q.num) (y := 0) (k := 31) (l := 1) (by omega) (by omega) (num_ok hq) (by decide); rwa [T_zero] at h) (by decide))
  rw [Int.sub_zero] at HO
  obtain ⟨s, hs1⟩ : ∃ s, q.num.sign = s := ⟨_, rfl⟩
  rw [hs1] at HO ⊢
  clear ha hq az hs1
  go_enter Tryz.func114, Tryz.ntmps114
  go_wp2_with fail
  refine HP.out.mono ?_
  rintro e w1 ⟨rfl, hb⟩
  have HB := hide hb
  clear hb HP
  go_wp2_with fail
  refine (HO.out _).mono ?_
  rintro e w2 ⟨rfl, hb⟩
  replace HB := hide (HB.out.trans (hb.mono HB.out.size))
  clear hb
  go_wp2_with fail
  go_ret
  exact ⟨rfl, HB.out⟩

set_option maxRecDepth 100000 in
set_option maxHeartbeats 2000000 in
theorem runit_bad (w : World) (a : ByteArray) (l : List UInt8) (hl : a.data.toList = l) (hL : l.length ≤ 200000) (h : chkR l ≠ 0) :
    Calls Tryz.prog 68 #[.string a] w fun e w' => e = .returned (.int .i64 (chkR l)) ∧ Below w.heap.size w w' := by
  have HC := hide (rrcheck_any w a l hl (by rw [Lib.size_eq, hl]; exact hL))
  obtain ⟨z, hz, hz0⟩ := chkR_ne h
  rw [hz] at HC ⊢
  clear hl hz h
  go_enter Tryz.func68, Tryz.ntmps68
  go_wp2_with fail
  refine HC.out.mono ?_
  rintro e w1 ⟨rfl, hb⟩
  have HB := hide hb
  clear hb HC
  go_wp2_with fail
  go_ret
  exact ⟨rfl, HB.out⟩

set_option maxRecDepth 100000 in
set_option maxHeartbeats 2000000 in
theorem runit_any (w : World) (a : ByteArray) (q : Rat) (ha : a.data.toList = RT q) (hq : Sz 30 30 q) :
    Calls Tryz.prog 68 #[.string a] w fun e w' => e = .returned (.int .i64 (unitQ q)) ∧ Below w.heap.size w w' := by
  have az := RT_size (m := 30) (by omega) ha hq
  have HC := hide (rrcheck_any w a _ ha (by omega))
  rw [chkR_RT (hq.fit (by omega) (by omega))] at HC
  have HG := hide (fun W => rsignum_any W a q ha hq)
  have HD := hide (fun W => rqorder_any W a ⟨#[49]⟩ q 1 ha RT_one.symm (m := 30) (by omega) hq (sz_one (by omega)))
  rw [show (1 : Rat).num = 1 from rfl, show (1 : Rat).den = 1 from rfl] at HD
  simp only [Int.mul_one, Int.one_mul, Int.natCast_one] at HD
  clear ha hq az
  by_cases h1 : q.num.sign < 0
  · have hv : unitQ q = 2 := if_neg (fun h => num_sign.1 h1 h.1)
    rw [hv]
    obtain ⟨r, hr⟩ : ∃ r, q.num.sign = r := ⟨_, rfl⟩
    obtain ⟨s, hs1⟩ : ∃ s, (q.num - (q.den : Int)).sign = s := ⟨_, rfl⟩
    rw [hr] at HG
    rw [hs1] at HD
    rw [hr] at h1
    clear hr hs1 hv
    go_enter Tryz.func68, Tryz.ntmps68
    go_wp2_with fail
    refine HC.out.mono ?_
    rintro e w1 ⟨rfl, hb⟩
    have HB := hide hb
    clear hb HC
    go_wp2_with fail
    refine (HG.out _).mono ?_
    rintro e w2 ⟨rfl, hb⟩
    replace HB := hide (HB.out.trans (hb.mono HB.out.size))
    clear hb HG
    go_wp2_with fail
    go_ret
    exact ⟨rfl, HB.out⟩
  · by_cases h2 : 0 < (q.num - (q.den : Int)).sign
    · have hv : unitQ q = 2 := if_neg (fun h => one_sign.1 h2 h.2)
      rw [hv]
      obtain ⟨r, hr⟩ : ∃ r, q.num.sign = r := ⟨_, rfl⟩
      obtain ⟨s, hs1⟩ : ∃ s, (q.num - (q.den : Int)).sign = s := ⟨_, rfl⟩
      rw [hr] at HG
      rw [hs1] at HD
      rw [hr] at h1
      rw [hs1] at h2
      clear hr hs1 hv
      go_enter Tryz.func68, Tryz.ntmps68
      go_wp2_with fail
      refine HC.out.mono ?_
      rintro e w1 ⟨rfl, hb⟩
      have HB := hide hb
      clear hb HC
      go_wp2_with fail
      refine (HG.out _).mono ?_
      rintro e w2 ⟨rfl, hb⟩
      replace HB := hide (HB.out.trans (hb.mono HB.out.size))
      clear hb HG
      go_wp2_with fail
      refine (HD.out _).mono ?_
      rintro e w3 ⟨rfl, hb⟩
      replace HB := hide (HB.out.trans (hb.mono HB.out.size))
      clear hb HD
      go_wp2_with fail
      go_ret
      exact ⟨rfl, HB.out⟩
    · have hv : unitQ q = 0 := if_pos ⟨Classical.not_not.1 (fun h => h1 (num_sign.2 h)), Classical.not_not.1 (fun h => h2 (one_sign.2 h))⟩
      rw [hv]
      obtain ⟨r, hr⟩ : ∃ r, q.num.sign = r := ⟨_, rfl⟩
      obtain ⟨s, hs1⟩ : ∃ s, (q.num - (q.den : Int)).sign = s := ⟨_, rfl⟩
      rw [hr] at HG
      rw [hs1] at HD
      rw [hr] at h1
      rw [hs1] at h2
      clear hr hs1 hv
      go_enter Tryz.func68, Tryz.ntmps68
      go_wp2_with fail
      refine HC.out.mono ?_
      rintro e w1 ⟨rfl, hb⟩
      have HB := hide hb
      clear hb HC
      go_wp2_with fail
      refine (HG.out _).mono ?_
      rintro e w2 ⟨rfl, hb⟩
      replace HB := hide (HB.out.trans (hb.mono HB.out.size))
      clear hb HG
      go_wp2_with fail
      refine (HD.out _).mono ?_
      rintro e w3 ⟨rfl, hb⟩
      replace HB := hide (HB.out.trans (hb.mono HB.out.size))
      clear hb HD
      go_wp2_with fail
      go_ret
      exact ⟨rfl, HB.out⟩

/-- A term of the document's sum, factor by factor. -/
def xpQ (c q r : Rat) (k : Nat) : Nat → Rat
  | 0 => c
  | i + 1 => if i < k then xpQ c q r k i * q else xpQ c q r k i * r
theorem xpQ_low (c q r : Rat) {k : Nat} : ∀ i, i ≤ k → xpQ c q r k i = c * powQ q i
  | 0, _ => by show c = c * 1; grind
  | i + 1, h => by
    show (if i < k then xpQ c q r k i * q else xpQ c q r k i * r) = c * (powQ q i * q)
    rw [if_pos (by omega), xpQ_low c q r i (by omega)]; grind
theorem xpQ_high (c q r : Rat) (k : Nat) : ∀ j, xpQ c q r k (k + j) = c * powQ q k * powQ r j
  | 0 => by rw [Nat.add_zero, xpQ_low c q r k (Nat.le_refl _)]; show _ = _ * 1; grind
  | j + 1 => by
    show (if k + j < k then xpQ c q r k (k + j) * q else xpQ c q r k (k + j) * r) = c * powQ q k * (powQ r j * r)
    rw [if_neg (by omega), xpQ_high c q r k j]; grind
theorem xpQ_all (c q r : Rat) {k N : Nat} (h : k ≤ N) : xpQ c q r k N = c * powQ q k * powQ r (N - k) := by
  have := xpQ_high c q r k (N - k)
  rwa [show k + (N - k) = N by omega] at this
theorem xpQ_sz {c q r : Rat} {m : Nat} (hc : Sz 3 0 c) (hq : Sz m m q) (hr : Sz m m r) (k : Nat) : ∀ i, Sz (3 + m * i) (m * i) (xpQ c q r k i)
  | 0 => hc
  | i + 1 => by
    have h := xpQ_sz hc hq hr k i
    show Sz _ _ (if i < k then xpQ c q r k i * q else xpQ c q r k i * r)
    rw [Nat.mul_succ]
    split
    · exact (h.mul hq).mono (by omega) (by omega)
    · exact (h.mul hr).mono (by omega) (by omega)
theorem sumQ_sz {f : Nat → Rat} {m : Nat} (hm : 1 ≤ m) (h : ∀ k, Sz m m (f k)) : ∀ n, Sz ((m + 1) * n + 1) (m * n) (sumQ f n)
  | 0 => ⟨by show (0 : Rat).num.natAbs < _; simp, by show (0 : Rat).den ≤ _; simp⟩
  | n + 1 => by
    have h1 := sumQ_sz hm h n
    have e1 : (m + 1) * (n + 1) = (m + 1) * n + (m + 1) := Nat.mul_succ _ _
    have e2 : m * (n + 1) = m * n + m := Nat.mul_succ _ _
    have e3 : (m + 1) * n = m * n + n := Nat.succ_mul _ _
    show Sz _ _ (sumQ f n + f n)
    have h2 := h1.add (h n) (m := (m + 1) * n + 1 + m) (by omega) (by omega)
    exact h2.mono (by omega) (by omega)
theorem bin8 {n k : Nat} (hn : n ≤ 8) : bin n k < 10 ^ 3 := by
  have h1 := bin_le_pow n k
  have h2 : 2 ^ n ≤ 2 ^ 8 := Nat.pow_le_pow_right (by omega) hn
  have h3 : (2 : Nat) ^ 8 < 10 ^ 3 := by decide
  omega

set_option maxRecDepth 100000 in
set_option maxHeartbeats 8000000 in
theorem process_any (w : World) (N C : Nat) (a : ByteArray) (q : Rat) (ha : a.data.toList = RT q) (hq : Sz 13 13 q) (hrq : Sz 14 14 (1 - q)) (hC : C ≤ N) (hN8 : N ≤ 8) :
    Calls Tryz.prog 69 #[.agg #[.int .i64 (N : Int), .int .i64 (C : Int)], .string a] w fun e w' => e = .returned (.string ⟨(RT (docQ q N C)).toArray⟩) ∧ Below w.heap.size w w' := by
  obtain ⟨r, hr⟩ : ∃ r, 1 - q = r := ⟨_, rfl⟩
  have hsr : Sz 14 14 r := by rw [← hr]; exact hrq
  have hq13 : Sz 14 14 q := hq.mono (by omega) (by omega)
  have HM := hide (fun W => rqminus_any W ⟨#[49]⟩ a 1 q RT_one.symm ha (m := 14) (by omega) (sz_one (by omega)) hq13)
  rw [hr] at HM
  have HL := hide (fun (k : Nat) (hk : k ≤ N) W => lists_any N (by omega) k hk W)
  have HLN := hide (fun (k : Nat) (hk : k ≤ N) => (lists_spec (lot := N) (N := k) (bad := 0) (by omega) hk (by omega)).1)
  have hcz : ∀ k, Sz 3 0 ((bin N k : Nat) : Rat) := fun k => by have h := Sz.int (a := 3) (n := ((bin N k : Nat) : Int)) (by rw [Int.natAbs_natCast]; exact bin8 hN8); exact h
  have hxz : ∀ k i, i ≤ N → Sz 120 120 (xpQ ((bin N k : Nat) : Rat) q r k i) := fun k i hi => (xpQ_sz (hcz k) hq13 hsr k i).mono (by omega) (by omega)
  have hxf : ∀ k, Sz 115 115 (xpQ ((bin N k : Nat) : Rat) q r k N) := fun k => (xpQ_sz (hcz k) hq13 hsr k N).mono (by omega) (by omega)
  have hsz : ∀ n, n ≤ 8 → Sz 990 990 (sumQ (fun k => xpQ ((bin N k : Nat) : Rat) q r k N) n) := fun n hn => (sumQ_sz (m := 115) (by omega) hxf n).mono (by omega) (by omega)
  have HX := hide hxz
  have HXF := hide hxf
  have HSZ := hide hsz
  have HQ13 := hide hq13
  have HR13 := hide hsr
  have HAQ := hide ha
  have HFIN : Hid (docQ q N C = sumQ (fun k => xpQ ((bin N k : Nat) : Rat) q r k N) (C + 1)) := hide (by unfold docQ; exact sumQ_congr (fun k hk => by rw [xpQ_all _ _ _ (by omega), hr]))
  obtain ⟨DQ, hDQ⟩ : ∃ z, docQ q N C = z := ⟨_, rfl⟩
  rw [hDQ] at HFIN ⊢
  clear hr hsr hq13 hcz hxz hxf hsz ha hq hrq hDQ
  have HB := allocs_below w [.cells #[.int .i64 (N : Int), .int .i64 (C : Int)] 23]
  have K_p : Blk (allocs w [.cells #[.int .i64 (N : Int), .int .i64 (C : Int)] 23]) (w.heap.size + 0) 23 #[.int .i64 (N : Int), .int .i64 (C : Int)] := allocs_at w [.cells #[.int .i64 (N : Int), .int .i64 (C : Int)] 23] 0 rfl
  unfold allocs at HB K_p
  simp only [List.foldl_cons, List.foldl_nil] at HB K_p
  rw [Nat.add_zero] at K_p
  go_enter Tryz.func69, Tryz.ntmps69
  go_upto_region 1 with (fail)
  generalize (w.alloc (.cells #[.int .i64 (N : Int), .int .i64 (C : Int)] 23)) = w0 at *
  replace K_p := hide K_p
  replace HB := hide HB
  go_wp2_with fail
  refine (HM.out _).mono ?_
  rintro e w1 ⟨rfl, hb⟩
  replace K_p := hide (Blk.below K_p.out hb (Blk.lt K_p.out))
  replace HB := hide (HB.out.trans (hb.mono HB.out.size))
  clear hb
  go_wp2_with fail
  have KP1 := K_p
  have HB1 := HB
  go_loopg [6, 7] (C + 1) (fun z sv kv wr => ∃ k : Nat, kv = .int .i64 (k : Int) ∧ z + k = C + 1 ∧ sv = .string ⟨(RT (sumQ (fun k => xpQ ((bin N k : Nat) : Rat) q r k N) k)).toArray⟩ ∧ Below w1.heap.size w1 wr)
  case atStart => exact ⟨0, rfl, by omega, by rw [show sumQ (fun k => xpQ ((bin N k : Nat) : Rat) q r k N) 0 = 0 from rfl, RT_zero], Below.refl _ _⟩
  case round =>
    obtain ⟨k, rfl, hq, rfl, hb⟩ := hrel
    have HQ := hide hq
    have HBL := hide hb
    have hkC : k ≤ C + 1 := by omega
    replace K_p := hide (Blk.below KP1.out hb (Blk.lt KP1.out))
    replace HB := hide (HB1.out.trans (hb.mono HB1.out.size))
    obtain ⟨g0, hg0⟩ : ∃ g : Nat, g = gk := ⟨_, rfl⟩
    have HG0 := hide hg0
    clear hq hb hg0
    obtain ⟨sk, hsk⟩ : ∃ s, sumQ (fun k => xpQ ((bin N k : Nat) : Rat) q r k N) k = s := ⟨_, rfl⟩
    rw [hsk]
    have HSK := hide hsk
    clear hsk
    by_cases hkl : k ≤ C
    · skip
      have hki : (k : Int) ≤ (C : Int) := by omega
      have hbn := bin8 (n := N) (k := k) hN8
      obtain ⟨bk, hbk⟩ : ∃ z, bin N k = z := ⟨_, rfl⟩
      rw [hbk] at hbn
      have HBK := hide hbk
      have HW := hide (fun W => r2whole_any ((bk : Nat) : Int) (by omega) (by omega) W)
      have hxk := fun i hi => HX.out k i hi
      rw [hbk] at hxk
      have HXK := hide hxk
      have HSUM := hide (fun W => rqplus_any W ⟨(RT sk).toArray⟩ ⟨(RT (xpQ ((bk : Nat) : Rat) q r k N)).toArray⟩ sk _ rfl rfl (m := 990) (by omega) (by rw [← HSK.out]; exact HSZ.out k (by omega)) (by rw [← hbk]; exact (HXF.out k).mono (by omega) (by omega)))
      clear hbk hbn hxk
      have p0 := (Blk.cell K_p.out 0).trans (rfl : _ = some (Value.int .i64 (N : Int)))
      have p1 := (Blk.cell K_p.out 1).trans (rfl : _ = some (Value.int .i64 (C : Int)))
      go_wp2_with fail
      refine (HL.out k (by omega) _).mono ?_
      rintro e w3 ⟨v, rfl, ⟨rows, hv, _⟩, hb⟩
      have hlk := HLN.out k (by omega)
      rw [HBK.out] at hlk
      rw [hlk] at hv
      obtain ⟨A, c, rfl⟩ : ∃ A c, v = .slice A bk c := by
        rcases own_shape hv with ⟨rfl, h0, _⟩ | ⟨g, c, rfl, _⟩
        · exact ⟨none, 0, by rw [h0]⟩
        · exact ⟨_, c, rfl⟩
      clear hv hlk
      replace HBL := hide (HBL.out.trans (hb.mono HBL.out.size))
      clear p0 p1
      replace K_p := hide (Blk.below K_p.out hb (Blk.lt K_p.out))
      replace HB := hide (HB.out.trans (hb.mono HB.out.size))
      clear hb
      go_wp2_with fail
      refine (HW.out _).mono ?_
      rintro e w4 ⟨rfl, hb⟩
      replace HBL := hide (HBL.out.trans (hb.mono HBL.out.size))
      replace K_p := hide (Blk.below K_p.out hb (Blk.lt K_p.out))
      replace HB := hide (HB.out.trans (hb.mono HB.out.size))
      clear hb
      have KP4 := K_p
      have HB4 := HB
      have HBL4 := HBL
      go_wp2_with fail
      go_loopg [8, 9] N (fun z xv iv wr => ∃ i : Nat, iv = .int .i64 (i : Int) ∧ z + i = N ∧ xv = .string ⟨(RT (xpQ ((bk : Nat) : Rat) q r k i)).toArray⟩ ∧ Below w4.heap.size w4 wr)
      case atStart => exact ⟨0, rfl, rfl, rfl, Below.refl _ _⟩
      case round =>
        obtain ⟨i, rfl, hq, rfl, hb⟩ := hrel
        have HQ1 := hide hq
        have hiN : i ≤ N := by omega
        replace K_p := hide (Blk.below KP4.out hb (Blk.lt KP4.out))
        replace HB := hide (HB4.out.trans (hb.mono HB4.out.size))
        replace HBL := hide (HBL4.out.trans (hb.mono HBL4.out.size))
        have HBI := hide hb
        clear hq hb
        have hxi := HXK.out i hiN
        by_cases hil : i < N
        · skip
          have hii : (i : Int) < (N : Int) := by omega
          have HMQ := hide (fun W => rqtimes_any W ⟨(RT (xpQ ((bk : Nat) : Rat) q r k i)).toArray⟩ a _ q rfl HAQ.out (m := 120) (by omega) hxi (HQ13.out.mono (by omega) (by omega)))
          have HMR := hide (fun W => rqtimes_any W ⟨(RT (xpQ ((bk : Nat) : Rat) q r k i)).toArray⟩ ⟨(RT r).toArray⟩ _ r rfl rfl (m := 120) (by omega) hxi (HR13.out.mono (by omega) (by omega)))
          have hst : xpQ ((bk : Nat) : Rat) q r k (i + 1) = if i < k then xpQ ((bk : Nat) : Rat) q r k i * q else xpQ ((bk : Nat) : Rat) q r k i * r := rfl
          have HST := hide hst
          obtain ⟨xi, hxi2⟩ : ∃ x, xpQ ((bk : Nat) : Rat) q r k i = x := ⟨_, rfl⟩
          rw [hxi2] at HMQ HMR HST ⊢
          clear hst hxi2 hxi
          by_cases hik2 : i < k
          · skip
            have hik : (i : Int) < (k : Int) := by omega
            have HIK := hide hik2
            clear hik2
            have p0 := (Blk.cell K_p.out 0).trans (rfl : _ = some (Value.int .i64 (N : Int)))
            have p1 := (Blk.cell K_p.out 1).trans (rfl : _ = some (Value.int .i64 (C : Int)))
            go_wp2_with fail
            refine (HMQ.out _).mono ?_
            rintro e w5 ⟨rfl, hb⟩
            replace HBI := hide (HBI.out.trans (hb.mono HBI.out.size))
            clear p0 p1
            replace K_p := hide (Blk.below K_p.out hb (Blk.lt K_p.out))
            replace HB := hide (HB.out.trans (hb.mono HB.out.size))
            clear hb
            go_wp2_with fail
            go_roundg (gk - 1)
            case measure => have := HQ1.out; omega
            case rel => exact ⟨i + 1, by go_num, by have := HQ1.out; omega, by rw [HST.out, if_pos HIK.out], HBI.out⟩
          · skip
            have hik : ¬ (i : Int) < (k : Int) := by omega
            have HIK := hide hik2
            clear hik2
            have p0 := (Blk.cell K_p.out 0).trans (rfl : _ = some (Value.int .i64 (N : Int)))
            have p1 := (Blk.cell K_p.out 1).trans (rfl : _ = some (Value.int .i64 (C : Int)))
            go_wp2_with fail
            refine (HMR.out _).mono ?_
            rintro e w5 ⟨rfl, hb⟩
            replace HBI := hide (HBI.out.trans (hb.mono HBI.out.size))
            clear p0 p1
            replace K_p := hide (Blk.below K_p.out hb (Blk.lt K_p.out))
            replace HB := hide (HB.out.trans (hb.mono HB.out.size))
            clear hb
            go_wp2_with fail
            go_roundg (gk - 1)
            case measure => have := HQ1.out; omega
            case rel => exact ⟨i + 1, by go_num, by have := HQ1.out; omega, by rw [HST.out, if_neg HIK.out], HBI.out⟩
        · skip
          have hii : ¬ (i : Int) < (N : Int) := by omega
          have hiN2 : i = N := by omega
          rw [hiN2]
          clear hiN2 hii hil hiN HBI
          have hii : ¬ (N : Int) < (N : Int) := by omega
          obtain ⟨xn, hxn⟩ : ∃ x, xpQ ((bk : Nat) : Rat) q r k N = x := ⟨_, rfl⟩
          rw [hxn] at HSUM ⊢
          have HXN := hide hxn
          clear hxn hxi
          have p0 := (Blk.cell K_p.out 0).trans (rfl : _ = some (Value.int .i64 (N : Int)))
          have p1 := (Blk.cell K_p.out 1).trans (rfl : _ = some (Value.int .i64 (C : Int)))
          go_wp2_with fail
          refine (HSUM.out _).mono ?_
          rintro e w6 ⟨rfl, hb⟩
          replace HBL := hide (HBL.out.trans (hb.mono HBL.out.size))
          clear p0 p1
          replace K_p := hide (Blk.below K_p.out hb (Blk.lt K_p.out))
          replace HB := hide (HB.out.trans (hb.mono HB.out.size))
          clear hb
          go_wp2_with fail
          go_roundg (g0 - 1)
          case measure => have := HQ.out; have := HG0.out; omega
          case rel => exact ⟨k + 1, by go_num, by have := HQ.out; have := HG0.out; omega, by rw [show sumQ (fun k => xpQ ((bin N k : Nat) : Rat) q r k N) (k + 1) = sumQ (fun k => xpQ ((bin N k : Nat) : Rat) q r k N) k + xpQ ((bin N k : Nat) : Rat) q r k N from rfl, HSK.out, HBK.out, HXN.out], HBL.out⟩
    · have hki : ¬ (k : Int) ≤ (C : Int) := by omega
      obtain rfl : k = C + 1 := by omega
      have hfin := HFIN.out
      rw [HSK.out] at hfin
      have HFX := hide hfin
      clear hfin
      have p0 := (Blk.cell K_p.out 0).trans (rfl : _ = some (Value.int .i64 (N : Int)))
      have p1 := (Blk.cell K_p.out 1).trans (rfl : _ = some (Value.int .i64 (C : Int)))
      go_wp2_with fail
      go_ret
      exact ⟨by rw [HFX.out]; rfl, HB.out⟩

end Go.Proofs.YtaccdkbofhlbkaaGreatDoor
