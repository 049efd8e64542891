/- metrolabref02: slash, Split, crossed, Plus, Minus, Times of right numbers. metrolabref02: crossed, Plus, Minus, Times of right numbers that are not great. metrolabref02: Minus, Less, Turned of right numbers that are not great. -/
import Derived.Test.YtaccdkbofhlbkaaGreatDoorPts
import Derived.Test.YtaccdkbofhlbkaaGreatDoorRseven
import Derived.Test.YtaccdkbofhlbkaaGreatDoorRtext
import Derived.Deep.RegionHeld3
namespace Go.Proofs.YtaccdkbofhlbkaaGreatDoor
open Go.RowKit MLab

/-- What slash returns. -/
def slR (l : List UInt8) : Int := if sl l < l.length then (sl l : Int) else -1

set_option maxRecDepth 100000 in
set_option maxHeartbeats 1000000 in
theorem rslash_any (w : World) (s : ByteArray) (l : List UInt8) (hl : s.data.toList = l) (hsz : s.size < 4000000000) :
    Calls Tryz.prog 80 #[.string s] w fun e w' => e = .returned (.int .i64 (slR l)) ∧ w = w' := by
  have hlen : s.size = l.length := by rw [Lib.size_eq, hl]
  have HL := hide hl
  have HLEN := hide hlen
  clear hl hlen
  go_enter Tryz.func80, Tryz.ntmps80
  go_wp2_with fail
  go_loopg [3] s.size (fun q iv wr => ∃ j : Nat, iv = .int .i64 (j : Int) ∧ q + j = s.size ∧ (∀ k, k < j → l[k]? ≠ some 47) ∧ wr = w)
  case atStart => exact ⟨0, rfl, rfl, fun k h => by omega, rfl⟩
  case round =>
    obtain ⟨j, rfl, hq, hok, rfl⟩ := hrel
    have hj : j ≤ s.size := by omega
    have HQ := hide hq
    have HOK := hide hok
    clear hq hok
    by_cases hlt : j < s.size
    · have hji : (j : Int) < (s.size : Int) := by omega
      have hg : l[j]? = some (s[j]'hlt) := by
        rw [← HL.out, Array.getElem?_toList]
        exact Array.getElem?_eq_getElem hlt
      have HGT := hide hg
      clear hg
      by_cases hz : ((s[j]'hlt).toNat : Int) = 47
      · have hz2 : (((s[j]'hlt).toNat : Int) == 47) = true := by rw [hz]; rfl
        have HZ := hide hz
        go_wp2_with fail
        go_ret
        refine ⟨?_, rfl⟩
        have hb : s[j]'hlt = 47 := by
          have := HZ.out
          apply UInt8.toNat_inj.1
          show (s[j]'hlt).toNat = 47
          omega
        have h1 : sl l = j := sl_eq (by rw [HGT.out, hb]) HOK.out
        rw [slR, h1, if_pos (by rw [← HLEN.out]; exact hlt)]; rfl
      · have hz2 : (((s[j]'hlt).toNat : Int) == 47) = false := by rw [beq_eq_false_iff_ne]; exact hz
        have HZ := hide hz
        go_wp2_with fail
        go_roundg (gk - 1)
        case measure => have := HQ.out; omega
        case rel =>
          refine ⟨j + 1, by go_num, by have := HQ.out; omega, fun k hk => ?_, rfl⟩
          by_cases e : k = j
          · rw [e, HGT.out]
            intro h
            injection h with h
            exact HZ.out (by rw [h]; rfl)
          · exact HOK.out k (by omega)
    · have hji : ¬ (j : Int) < (s.size : Int) := by omega
      go_wp2_with fail
      go_ret
      refine ⟨?_, rfl⟩
      have h1 : sl l = l.length := sl_none (fun k => by
        by_cases hk : k < l.length
        · exact HOK.out k (by have := HLEN.out; omega)
        · rw [List.getElem?_eq_none (by omega)]; simp)
      rw [slR, h1, if_neg (by omega)]; rfl

set_option maxRecDepth 100000 in
theorem rsplit_any (w : World) (s : ByteArray) (l : List UInt8) (hl : s.data.toList = l) (hsz : s.size < 4000000000) :
    Calls Tryz.prog 49 #[.string s] w fun e w' => e = .returned (.tuple #[.string ⟨(numL l).toArray⟩, .string ⟨(denL l).toArray⟩]) ∧ Below w.heap.size w w' := by
  have hlen : s.size = l.length := by rw [Lib.size_eq, hl]
  have HS := hide (rslash_any w s l hl hsz)
  by_cases hz : sl l < l.length
  · have hsl : slR l = (sl l : Int) := by rw [slR, if_pos hz]
    obtain ⟨k, hk⟩ : ∃ k, sl l = k := ⟨_, rfl⟩
    rw [hk] at hsl hz
    have e1 : s.extract 0 k = ⟨(numL l).toArray⟩ := by
      apply ByteArray.ext
      apply Array.ext'
      rw [Lib.extract_data, hl, numL, hk]; simp
    have e2 : s.extract (k + 1) s.size = ⟨(denL l).toArray⟩ := by
      apply ByteArray.ext
      apply Array.ext'
      rw [Lib.extract_data, hl, denL, hk, if_pos hz, List.take_of_length_le (by simp; omega)]
    have hk0 : ¬ (k : Int) < 0 := by omega
    have hk1 : (k : Int) ≤ (s.size : Int) := by omega
    have hk2 : (k : Int) + 1 ≤ (s.size : Int) := by omega
    have hkn : ((k : Int) + 1).toNat = k + 1 := by omega
    have hkz : (k : Int) < (s.size : Int) := by omega
    have HSL := hide hsl
    have E1 := hide e1
    have E2 := hide e2
    clear hsl e1 e2 hl hk hz hlen
    go_enter Tryz.func49, Tryz.ntmps49
    go_wp2_with fail
    refine HS.out.mono ?_
    rw [HSL.out]
    rintro e w1 ⟨rfl, rfl⟩
    go_upto_region 4 with (fail)
    go_quiet (fail)
    go_wp2_with fail
    go_ret2
    exact ⟨by rw [← E1.out, ← E2.out]; rfl, below_drewN (Below.refl _ _) _⟩
  · have hsl : slR l = -1 := by rw [slR, if_neg hz]
    have e1 : s = ⟨(numL l).toArray⟩ := by
      apply ByteArray.ext
      apply Array.ext'
      have := sl_le l
      rw [hl, numL, List.take_of_length_le (by omega)]
    have e2 : denL l = [49] := by rw [denL, if_neg hz]
    have HSL := hide hsl
    have E1 := hide e1
    have E2 := hide e2
    clear hsl e1 e2 hl hz hlen
    go_enter Tryz.func49, Tryz.ntmps49
    go_wp2_with fail
    refine HS.out.mono ?_
    rw [HSL.out]
    rintro e w1 ⟨rfl, rfl⟩
    go_wp2_with fail
    go_ret2
    exact ⟨by rw [← E1.out, E2.out]; rfl, Below.refl _ _⟩
end Go.Proofs.YtaccdkbofhlbkaaGreatDoor

namespace Go.Proofs.YtaccdkbofhlbkaaGreatDoor
open Go.RowKit MLab

theorem T_len_pow {z : Int} {k : Nat} (hk : 1 ≤ k) (h : z.natAbs < 10 ^ k) : (T z).length ≤ k + 1 := by
  have := (dec_length_le hk).2 h
  rw [T_length]
  split <;> omega
theorem T_size_pow {s : ByteArray} {z : Int} {k : Nat} (hs : s.data.toList = T z) (hk : 1 ≤ k) (h : z.natAbs < 10 ^ k) : s.size ≤ k + 1 := by
  rw [Lib.size_eq, hs]; exact T_len_pow hk h
theorem den_lt {k n : Nat} (h : n ≤ 10 ^ k) : n < 10 ^ (k + 1) := Nat.lt_of_le_of_lt h (Nat.pow_lt_pow_right (by omega) (by omega))
theorem RT_size {s : ByteArray} {q : Rat} {m : Nat} (hm : m ≤ 1000) (hs : s.data.toList = RT q) (h : Sz m m q) : s.size ≤ 2100 := by
  have h1 := T_len_pow (z := q.num) (k := m + 1) (by omega) (pow_up h.1 (by omega))
  have h2 : (Lib.decDigits q.den).length ≤ m + 1 := (dec_length_le (by omega)).2 (den_lt h.2)
  rw [Lib.size_eq, hs]
  unfold RT
  split
  · omega
  · rw [List.length_append, List.length_cons]; omega
/-- Two right texts of numbers that are not great. -/
theorem rtwo_of {x y : Int} {k l : Nat} (hk : 1 ≤ k ∧ k ≤ 3000) (hl : 1 ≤ l ∧ l ≤ 3000) (hx : x.natAbs < 10 ^ k) (hy : y.natAbs < 10 ^ l) : RTwo ⟨(T x).toArray⟩ ⟨(T y).toArray⟩ x y :=
  ⟨rfl, rfl, by have := T_size_pow (s := ⟨(T x).toArray⟩) (z := x) rfl hk.1 hx; omega, by have := T_size_pow (s := ⟨(T y).toArray⟩) (z := y) rfl hl.1 hy; omega⟩
theorem num_ok {q : Rat} {m : Nat} (h : Sz m m q) : q.num.natAbs < 10 ^ (m + 1) := pow_up h.1 (by omega)
theorem den_ok {q : Rat} {m : Nat} (h : Sz m m q) : ((q.den : Int)).natAbs < 10 ^ (m + 1) := by rw [Int.natAbs_natCast]; exact den_lt h.2

/-- The row that crossed returns. -/
def CrossR (p q : Rat) (e : Ending) (w' : World) : Prop := ∃ g c, e = .returned (.slice (some ⟨g, 0, none⟩) 5 c) ∧ Blk w' g 63 #[.string ⟨(T (p.num * q.den)).toArray⟩, .string ⟨(T (q.num * p.den)).toArray⟩, .string ⟨(T ((p.den : Int) * q.den)).toArray⟩, .string ⟨(T (p.num * q.num)).toArray⟩, .string ⟨(T ((p.den : Int) * q.num)).toArray⟩]

set_option maxRecDepth 100000 in
set_option maxHeartbeats 2000000 in
theorem rcrossed_any (w : World) (a b : ByteArray) (p q : Rat) (ha : a.data.toList = RT p) (hb : b.data.toList = RT q) {m : Nat} (hm : m ≤ 1000) (hp : Sz m m p) (hq : Sz m m q) :
    Calls Tryz.prog 83 #[.string a, .string b] w fun e w' => CrossR p q e w' ∧ Below w.heap.size w w' := by
  have az := RT_size hm ha hp
  have bz := RT_size hm hb hq
  have hA := rsplit_any w a _ ha (by omega)
  have hB := fun W => rsplit_any W b _ hb (by omega)
  simp only [RT_num, RT_den] at hA hB
  have HA := hide hA
  have HB := hide hB
  have N1 := hide (num_ok hp)
  have N2 := hide (num_ok hq)
  have D1 := hide (den_ok hp)
  have D2 := hide (den_ok hq)
  clear ha hb hA hB az bz hp hq
  go_enter Tryz.func83, Tryz.ntmps83
  go_wp2_with fail
  refine HA.out.mono ?_
  rintro e u1 ⟨rfl, hb⟩
  have A1 := hide hb
  clear hb
  go_wp2_with fail
  refine (HB.out _).mono ?_
  rintro e u2 ⟨rfl, hb⟩
  have A2 := hide (A1.out.trans (hb.mono A1.out.size))
  clear hb
  go_wp2_with fail
  refine (rtimes_int _ _ _ (p.num) ((q.den : Int)) (rtwo_of ⟨by omega, by omega⟩ ⟨by omega, by omega⟩ N1.out D2.out)).mono ?_
  rintro e v1 ⟨rfl, hb⟩
  have B1 := hide (A2.out.trans (hb.mono A2.out.size))
  clear hb
  go_wp2_with fail
  refine (rtimes_int _ _ _ (q.num) ((p.den : Int)) (rtwo_of ⟨by omega, by omega⟩ ⟨by omega, by omega⟩ N2.out D1.out)).mono ?_
  rintro e v2 ⟨rfl, hb⟩
  have B2 := hide (B1.out.trans (hb.mono B1.out.size))
  clear hb
  go_wp2_with fail
  refine (rtimes_int _ _ _ ((p.den : Int)) ((q.den : Int)) (rtwo_of ⟨by omega, by omega⟩ ⟨by omega, by omega⟩ D1.out D2.out)).mono ?_
  rintro e v3 ⟨rfl, hb⟩
  have B3 := hide (B2.out.trans (hb.mono B2.out.size))
  clear hb
  go_wp2_with fail
  refine (rtimes_int _ _ _ (p.num) (q.num) (rtwo_of ⟨by omega, by omega⟩ ⟨by omega, by omega⟩ N1.out N2.out)).mono ?_
  rintro e v4 ⟨rfl, hb⟩
  have B4 := hide (B3.out.trans (hb.mono B3.out.size))
  clear hb
  go_wp2_with fail
  refine (rtimes_int _ _ _ ((p.den : Int)) (q.num) (rtwo_of ⟨by omega, by omega⟩ ⟨by omega, by omega⟩ D1.out N2.out)).mono ?_
  rintro e v5 ⟨rfl, hb⟩
  have B5 := hide (B4.out.trans (hb.mono B4.out.size))
  clear hb
  go_wp2_with fail
  go_ret
  exact ⟨⟨_, _, rfl, Blk.new _ _ _⟩, B5.out.alloc B5.out.size _⟩

set_option maxRecDepth 100000 in
set_option maxHeartbeats 2000000 in
theorem rqplus_any (w : World) (a b : ByteArray) (p q : Rat) (ha : a.data.toList = RT p) (hb : b.data.toList = RT q) {m : Nat} (hm : m ≤ 1000) (hp : Sz m m p) (hq : Sz m m q) :
    Calls Tryz.prog 34 #[.string a, .string b] w fun e w' => e = .returned (.string ⟨(RT (p + q)).toArray⟩) ∧ Below w.heap.size w w' := by
  have HC := hide (rcrossed_any w a b p q ha hb hm hp hq)
  have c1 := cross_lt hp hq
  have c2 := cross_lt hq hp
  have c3 := dens_le hp hq
  have cs := sum_lt (m := m + m) hp hq (by omega) (by omega)
  have T1 := hide (rtwo_of (x := p.num * q.den) (y := q.num * p.den) (k := m + m + 1) (l := m + m + 1) ⟨by omega, by omega⟩ ⟨by omega, by omega⟩ (pow_up c1 (by omega)) (pow_up c2 (by omega)))
  have T2 := hide (rtwo_of (x := p.num * q.den + q.num * p.den) (y := (p.den : Int) * q.den) (k := m + m + 1) (l := m + m + 1) ⟨by omega, by omega⟩ ⟨by omega, by omega⟩ (pow_up cs (by omega)) (den_lt c3))
  have Z1 := hide (T_size_pow (s := ⟨(T (p.num * q.den + q.num * p.den)).toArray⟩) (z := p.num * q.den + q.num * p.den) (k := m + m + 1) rfl (by omega) (pow_up cs (by omega)))
  have Z2 := hide (T_size_pow (s := ⟨(T ((p.den : Int) * q.den)).toArray⟩) (z := (p.den : Int) * q.den) rfl (by omega) (den_lt c3))
  have EQ := hide (add_divInt p q)
  clear c1 c2 c3 cs
  clear ha hb hp hq
  go_enter Tryz.func34, Tryz.ntmps34
  go_wp2_with fail
  refine HC.out.mono ?_
  rintro e w1 ⟨⟨g, c, rfl, hblk⟩, hb1⟩
  have k0 : w1.cell? ⟨g, 0, none⟩ = some (.string ⟨(T (p.num * q.den)).toArray⟩) := (Blk.cell hblk 0).trans rfl
  have k1 : w1.cell? ⟨g, 1, none⟩ = some (.string ⟨(T (q.num * p.den)).toArray⟩) := (Blk.cell hblk 1).trans rfl
  have k2 : w1.cell? ⟨g, 2, none⟩ = some (.string ⟨(T ((p.den : Int) * q.den)).toArray⟩) := (Blk.cell hblk 2).trans rfl
  have HB1 := hide hb1
  clear hblk hb1 HC
  have SK : ∀ w', Below w1.heap.size w1 w' → Below w1.heap.size w1 w' ∧ w'.cell? ⟨g, 0, none⟩ = some (.string ⟨(T (p.num * q.den)).toArray⟩) ∧ w'.cell? ⟨g, 1, none⟩ = some (.string ⟨(T (q.num * p.den)).toArray⟩) ∧ w'.cell? ⟨g, 2, none⟩ = some (.string ⟨(T ((p.den : Int) * q.den)).toArray⟩) := fun w' h => ⟨h, (bcell h _ _ (block_lt_of_cell k0)).trans k0, (bcell h _ _ (block_lt_of_cell k1)).trans k1, (bcell h _ _ (block_lt_of_cell k2)).trans k2⟩
  go_upto_region 2 with (fail)
  go_region_held3 (fun w' => Below w1.heap.size w1 w' ∧ w'.cell? ⟨g, 0, none⟩ = some (.string ⟨(T (p.num * q.den)).toArray⟩) ∧ w'.cell? ⟨g, 1, none⟩ = some (.string ⟨(T (q.num * p.den)).toArray⟩) ∧ w'.cell? ⟨g, 2, none⟩ = some (.string ⟨(T ((p.den : Int) * q.den)).toArray⟩)) (first | exact SK _ (Below.refl _ _).drew | exact SK _ (Below.refl _ _) | exact SK _ (bel_next (by assumption) (by assumption) (Nat.le_refl _)))
    (first
      | (go_at_call 84; refine (rplus_any _ _ _ _ _ T1.out).mono ?_; rintro e wx ⟨rfl, hbW⟩)
      | (go_at_call 66; refine (rlowest_any _ _ _ (p.num * q.den + q.num * p.den) ((p.den : Int) * q.den) T2.out (dens_ne p q) (by have := Z1.out; omega) (by have := Z2.out; omega)).mono ?_; rw [EQ.out]; rintro e wx ⟨rfl, hbW⟩))
  go_wp2_with fail
  go_ret
  exact ⟨rfl, HB1.out.trans (Below.mono (And.left (by assumption)) HB1.out.size)⟩

set_option maxRecDepth 100000 in
set_option maxHeartbeats 2000000 in
theorem rqtimes_any (w : World) (a b : ByteArray) (p q : Rat) (ha : a.data.toList = RT p) (hb : b.data.toList = RT q) {m : Nat} (hm : m ≤ 1000) (hp : Sz m m p) (hq : Sz m m q) :
    Calls Tryz.prog 35 #[.string a, .string b] w fun e w' => e = .returned (.string ⟨(RT (p * q)).toArray⟩) ∧ Below w.heap.size w w' := by
  have HC := hide (rcrossed_any w a b p q ha hb hm hp hq)
  have c1 := cross_lt hp hq
  have c2 := cross_lt hq hp
  have c3 := dens_le hp hq
  have cs := nums_lt hp hq
  have T1 := hide (rtwo_of (x := p.num * q.den) (y := q.num * p.den) (k := m + m + 1) (l := m + m + 1) ⟨by omega, by omega⟩ ⟨by omega, by omega⟩ (pow_up c1 (by omega)) (pow_up c2 (by omega)))
  have T2 := hide (rtwo_of (x := p.num * q.num) (y := (p.den : Int) * q.den) (k := m + m + 1) (l := m + m + 1) ⟨by omega, by omega⟩ ⟨by omega, by omega⟩ (pow_up cs (by omega)) (den_lt c3))
  have Z1 := hide (T_size_pow (s := ⟨(T (p.num * q.num)).toArray⟩) (z := p.num * q.num) (k := m + m + 1) rfl (by omega) (pow_up cs (by omega)))
  have Z2 := hide (T_size_pow (s := ⟨(T ((p.den : Int) * q.den)).toArray⟩) (z := (p.den : Int) * q.den) rfl (by omega) (den_lt c3))
  have EQ := hide (mul_divInt p q)
  clear c1 c2 c3 cs
  clear ha hb hp hq
  go_enter Tryz.func35, Tryz.ntmps35
  go_wp2_with fail
  refine HC.out.mono ?_
  rintro e w1 ⟨⟨g, c, rfl, hblk⟩, hb1⟩
  have k2 : w1.cell? ⟨g, 2, none⟩ = some (.string ⟨(T ((p.den : Int) * q.den)).toArray⟩) := (Blk.cell hblk 2).trans rfl
  have k3 : w1.cell? ⟨g, 3, none⟩ = some (.string ⟨(T (p.num * q.num)).toArray⟩) := (Blk.cell hblk 3).trans rfl
  have HB1 := hide hb1
  clear hblk hb1 HC
  have SK : ∀ w', Below w1.heap.size w1 w' → Below w1.heap.size w1 w' ∧ w'.cell? ⟨g, 2, none⟩ = some (.string ⟨(T ((p.den : Int) * q.den)).toArray⟩) ∧ w'.cell? ⟨g, 3, none⟩ = some (.string ⟨(T (p.num * q.num)).toArray⟩) := fun w' h => ⟨h, (bcell h _ _ (block_lt_of_cell k2)).trans k2, (bcell h _ _ (block_lt_of_cell k3)).trans k3⟩
  go_upto_region 2 with (fail)
  go_region_held3 (fun w' => Below w1.heap.size w1 w' ∧ w'.cell? ⟨g, 2, none⟩ = some (.string ⟨(T ((p.den : Int) * q.den)).toArray⟩) ∧ w'.cell? ⟨g, 3, none⟩ = some (.string ⟨(T (p.num * q.num)).toArray⟩)) (first | exact SK _ (Below.refl _ _).drew | exact SK _ (Below.refl _ _) | exact SK _ (bel_next (by assumption) (by assumption) (Nat.le_refl _)))
    (first
      | (go_at_call 66; refine (rlowest_any _ _ _ (p.num * q.num) ((p.den : Int) * q.den) T2.out (dens_ne p q) (by have := Z1.out; omega) (by have := Z2.out; omega)).mono ?_; rw [EQ.out]; rintro e wx ⟨rfl, hbW⟩))
  go_wp2_with fail
  go_ret
  exact ⟨rfl, HB1.out.trans (Below.mono (And.left (by assumption)) HB1.out.size)⟩
end Go.Proofs.YtaccdkbofhlbkaaGreatDoor

namespace Go.Proofs.YtaccdkbofhlbkaaGreatDoor
open Go.RowKit MLab

set_option maxRecDepth 100000 in
set_option maxHeartbeats 2000000 in
theorem rqminus_any (w : World) (a b : ByteArray) (p q : Rat) (ha : a.data.toList = RT p) (hb : b.data.toList = RT q) {m : Nat} (hm : m ≤ 1000) (hp : Sz m m p) (hq : Sz m m q) :
    Calls Tryz.prog 101 #[.string a, .string b] w fun e w' => e = .returned (.string ⟨(RT (p - q)).toArray⟩) ∧ Below w.heap.size w w' := by
  have HC := hide (rcrossed_any w a b p q ha hb hm hp hq)
  have c1 := cross_lt hp hq
  have c2 := cross_lt hq hp
  have c3 := dens_le hp hq
  have cs := dif_lt (m := m + m) hp hq (by omega) (by omega)
  have T1 := hide (rtwo_of (x := p.num * q.den) (y := q.num * p.den) (k := m + m + 1) (l := m + m + 1) ⟨by omega, by omega⟩ ⟨by omega, by omega⟩ (pow_up c1 (by omega)) (pow_up c2 (by omega)))
  have T2 := hide (rtwo_of (x := p.num * q.den - q.num * p.den) (y := (p.den : Int) * q.den) (k := m + m + 1) (l := m + m + 1) ⟨by omega, by omega⟩ ⟨by omega, by omega⟩ (pow_up cs (by omega)) (den_lt c3))
  have Z1 := hide (T_size_pow (s := ⟨(T (p.num * q.den - q.num * p.den)).toArray⟩) (z := p.num * q.den - q.num * p.den) (k := m + m + 1) rfl (by omega) (pow_up cs (by omega)))
  have Z2 := hide (T_size_pow (s := ⟨(T ((p.den : Int) * q.den)).toArray⟩) (z := (p.den : Int) * q.den) rfl (by omega) (den_lt c3))
  have Z0 := hide (T_size_pow (s := ⟨(T (q.num * p.den)).toArray⟩) (z := q.num * p.den) (k := m + m + 1) rfl (by omega) (pow_up c2 (by omega)))
  have EQ := hide (sub_divInt p q)
  clear c1 c2 c3 cs
  clear ha hb hp hq
  go_enter Tryz.func101, Tryz.ntmps101
  go_wp2_with fail
  refine HC.out.mono ?_
  rintro e w1 ⟨⟨g, c, rfl, hblk⟩, hb1⟩
  have k0 : w1.cell? ⟨g, 0, none⟩ = some (.string ⟨(T (p.num * q.den)).toArray⟩) := (Blk.cell hblk 0).trans rfl
  have k1 : w1.cell? ⟨g, 1, none⟩ = some (.string ⟨(T (q.num * p.den)).toArray⟩) := (Blk.cell hblk 1).trans rfl
  have k2 : w1.cell? ⟨g, 2, none⟩ = some (.string ⟨(T ((p.den : Int) * q.den)).toArray⟩) := (Blk.cell hblk 2).trans rfl
  have HB1 := hide hb1
  clear hblk hb1 HC
  have SK : ∀ w', Below w1.heap.size w1 w' → Below w1.heap.size w1 w' ∧ w'.cell? ⟨g, 0, none⟩ = some (.string ⟨(T (p.num * q.den)).toArray⟩) ∧ w'.cell? ⟨g, 1, none⟩ = some (.string ⟨(T (q.num * p.den)).toArray⟩) ∧ w'.cell? ⟨g, 2, none⟩ = some (.string ⟨(T ((p.den : Int) * q.den)).toArray⟩) := fun w' h => ⟨h, (bcell h _ _ (block_lt_of_cell k0)).trans k0, (bcell h _ _ (block_lt_of_cell k1)).trans k1, (bcell h _ _ (block_lt_of_cell k2)).trans k2⟩
  go_upto_region 2 with (fail)
  go_region_held3 (fun w' => Below w1.heap.size w1 w' ∧ w'.cell? ⟨g, 0, none⟩ = some (.string ⟨(T (p.num * q.den)).toArray⟩) ∧ w'.cell? ⟨g, 1, none⟩ = some (.string ⟨(T (q.num * p.den)).toArray⟩) ∧ w'.cell? ⟨g, 2, none⟩ = some (.string ⟨(T ((p.den : Int) * q.den)).toArray⟩)) (first | exact SK _ (Below.refl _ _).drew | exact SK _ (Below.refl _ _) | exact SK _ (bel_next (by assumption) (by assumption) (Nat.le_refl _)))
    (first
      | (go_at_call 125; refine (rminus_int _ _ _ _ _ T1.out (by have := Z0.out; omega)).mono ?_; rintro e wx ⟨rfl, hbW⟩)
      | (go_at_call 66; refine (rlowest_any _ _ _ (p.num * q.den - q.num * p.den) ((p.den : Int) * q.den) T2.out (dens_ne p q) (by have := Z1.out; omega) (by have := Z2.out; omega)).mono ?_; rw [EQ.out]; rintro e wx ⟨rfl, hbW⟩))
  go_wp2_with fail
  go_ret
  exact ⟨rfl, HB1.out.trans (Below.mono (And.left (by assumption)) HB1.out.size)⟩

theorem RT_zero : RT 0 = [48] := by rw [RT, if_pos (by rfl)]; exact T_zero
end Go.Proofs.YtaccdkbofhlbkaaGreatDoor
