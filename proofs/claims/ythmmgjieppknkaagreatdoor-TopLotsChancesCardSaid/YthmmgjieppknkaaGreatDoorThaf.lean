/- Contracts and plain laws that the statements of this seat share (part Thaf). -/
import Derived.Test.YthmmgjieppknkaaGreatDoorThaa
import Derived.Test.YthmmgjieppknkaaGreatDoorThac
import Derived.Test.YthmmgjieppknkaaGreatDoorThad
import Derived.Test.YthmmgjieppknkaaGreatDoorThae
import Derived.Test.YthmmgjieppknkaaGreatDoorKtaa
import Derived.Test.YthmmgjieppknkaaGreatDoorKtac
import Derived.Test.YthmmgjieppknkaaGreatDoorKtad
import Derived.Test.YthmmgjieppknkaaGreatDoorKtai
import Derived.Test.YthmmgjieppknkaaGreatDoorKtak
import Derived.Test.YthmmgjieppknkaaGreatDoorKtal
import Derived.Test.YthmmgjieppknkaaGreatDoorKtam
import Derived.Test.YthmmgjieppknkaaGreatDoorKtan
import Derived.Test.YthmmgjieppknkaaGreatDoorKtap
import Derived.Test.YthmmgjieppknkaaGreatDoorKtaq
import Derived.Test.YthmmgjieppknkaaGreatDoorKtas
import Derived.Test.YthmmgjieppknkaaGreatDoorKtat
import Derived.Test.YthmmgjieppknkaaGreatDoorKtau
import Derived.Deep.RegionHeld3
import Derived.Lib.IndexMore
import Derived.Lib.IndexBytes
import Derived.Lib.IndexLaws
import Derived.Deep.RegionWith
import Derived.Deep.RegionLaw
import Derived.RegionTactic
import Derived.Laws.Tables
import Derived.Test.YthmmgjieppknkaaGreatDoorChecked
import Derived.WalkKit
import Derived.WalkSpells
import Derived.WalkLawsBesides
import Derived.Lib.Hide
import Derived.IntWalk
import Derived.BigQuiet
import Derived.Deep.QuietTactic
import Derived.Deep.LoopGhost
import Derived.Deep.DeepCutAuto
import Derived.Deep.DeepFit
import Derived.Deep.Light
import Derived.Outline
import Derived.Laws.Rows
import Derived.Laws.NewBlocks
import Derived.Laws.CopyOwn
import Derived.Lib.ItoaNum
import Derived.Lib.ItoaLen
import Derived.Lib.Atoi
import Derived.Lib.AtoiAll
import Derived.Lib.Strings
import Derived.Lib.SlTrimSet
import Derived.Lib.Builder
import Derived.Lib.AppendStr
import Derived.Laws.Externs
import Derived.WalkSmall
import Derived.Lib.AtoiErrMem
import Derived.Shelf.Strings.SlTrimAscii
import Derived.Shelf.Strings.Builder1
import Derived.Shelf.Strings.Trim
import Derived.Shelf.Small.Utf8
import Derived.Shelf.Small.Strs
import Derived.Shelf.Strings.BuilderF
import Derived.Shelf.Strings.BuilderK
import Derived.Shelf.Strconv.Atoi
import Derived.Shelf.Strconv.Itoa0
import Derived.Shelf.Strconv.Itoa1
import Derived.Shelf.LaysM
import Derived.Shelf.Strconv.Itoa2
import Derived.Shelf.Strconv.Itoa3
import Derived.Shelf.Strings.Search1
import Derived.Shelf.Strings.Search2
import Derived.Shelf.Strings.Cut
import Derived.Shelf.Strings.Shaped
import Derived.Shelf.Strings.Prefix
import Derived.Shelf.Unicode.Decode
import Derived.Shelf.Strings.Runes
import Derived.Shelf.Strings.AsciiSet
import Derived.Shelf.Bits.Mul64
import Derived.Shelf.Unicode.DecodeSlow
import Derived.Shelf.Unicode.DecodeAny
import Derived.Shelf.Unicode.DecodeLast
import Derived.Ground.Names2Prog
import Derived.Shelf.Slices.Clone
import Derived.Ground.SlgnProg
import Derived.Shelf.SlicesE.Clone
import Derived.Test.YthmmgjieppknkaaGreatDoorProg
import Derived.Laws.ResultCell
import Derived.ChangeKeysEq
import Derived.DeepKeys
namespace Go.Proofs.YthmmgjieppknkaaGreatDoor
open Go.RowKit MLab
def slR (l : List UInt8) : Int := if sl l < l.length then (sl l : Int) else -1
set_option maxRecDepth 100000 in
set_option maxHeartbeats 1000000 in
theorem rslash_any (w : World) (s : ByteArray) (l : List UInt8) (hl : s.data.toList = l) (hsz : s.size < 4000000000) :
    Calls Tryz.prog 70 #[.string s] w fun e w' => e = .returned (.int .i64 (slR l)) ∧ w = w' := by
  have hlen : s.size = l.length := by rw [Lib.size_eq, hl]
  have HL := hide hl
  have HLEN := hide hlen
  clear hl hlen
  go_enter Tryz.func70, Tryz.ntmps70
  go_wp2_with fail
  go_loopg [3] s.size (fun q iv wr => ∃ j : Nat, iv = .int .i64 (j : Int) ∧ q + j = s.size ∧ (∀ k, k < j → l[k]? ≠ some 47) ∧ wr = w)
  case atStart => exact ⟨0, rfl, rfl, fun k h => by omega, rfl⟩
  case round =>
    obtain ⟨j, rfl, hq, hok, rfl⟩ := hrel
    have hj : j ≤ s.size := by omega
    have HQ := hide hq
    have HOK := hide hok
    clear hq hok
    by_cases hlt : j < s.size
    · have hji : (j : Int) < (s.size : Int) := by omega
      have hg : l[j]? = some (s[j]'hlt) := by
        rw [← HL.out, Array.getElem?_toList]
        exact Array.getElem?_eq_getElem hlt
      have HGT := hide hg
      clear hg
      by_cases hz : ((s[j]'hlt).toNat : Int) = 47
      · have hz2 : (((s[j]'hlt).toNat : Int) == 47) = true := by rw [hz]; rfl
        have HZ := hide hz
        go_wp2_with fail
        go_ret
        refine ⟨?_, rfl⟩
        have hb : s[j]'hlt = 47 := by
          have := HZ.out
          apply UInt8.toNat_inj.1
          show (s[j]'hlt).toNat = 47
          omega
        have h1 : sl l = j := sl_eq (by rw [HGT.out, hb]) HOK.out
        rw [slR, h1, if_pos (by rw [← HLEN.out]; exact hlt)]; rfl
      · have hz2 : (((s[j]'hlt).toNat : Int) == 47) = false := by rw [beq_eq_false_iff_ne]; exact hz
        have HZ := hide hz
        go_wp2_with fail
        go_roundg (gk - 1)
        case measure => have := HQ.out; omega
        case rel =>
          refine ⟨j + 1, by go_num, by have := HQ.out; omega, fun k hk => ?_, rfl⟩
          by_cases e : k = j
          · rw [e, HGT.out]
            intro h
            injection h with h
            exact HZ.out (by rw [h]; rfl)
          · exact HOK.out k (by omega)
    · have hji : ¬ (j : Int) < (s.size : Int) := by omega
      go_wp2_with fail
      go_ret
      refine ⟨?_, rfl⟩
      have h1 : sl l = l.length := sl_none (fun k => by
        by_cases hk : k < l.length
        · exact HOK.out k (by have := HLEN.out; omega)
        · rw [List.getElem?_eq_none (by omega)]; simp)
      rw [slR, h1, if_neg (by omega)]; rfl
set_option maxRecDepth 100000 in
theorem rsplit_any (w : World) (s : ByteArray) (l : List UInt8) (hl : s.data.toList = l) (hsz : s.size < 4000000000) :
    Calls Tryz.prog 62 #[.string s] w fun e w' => e = .returned (.tuple #[.string ⟨(numL l).toArray⟩, .string ⟨(denL l).toArray⟩]) ∧ Below w.heap.size w w' := by
  have hlen : s.size = l.length := by rw [Lib.size_eq, hl]
  have HS := hide (rslash_any w s l hl hsz)
  by_cases hz : sl l < l.length
  · have hsl : slR l = (sl l : Int) := by rw [slR, if_pos hz]
    obtain ⟨k, hk⟩ : ∃ k, sl l = k := ⟨_, rfl⟩
    rw [hk] at hsl hz
    have e1 : s.extract 0 k = ⟨(numL l).toArray⟩ := by
      apply ByteArray.ext
      apply Array.ext'
      rw [Lib.extract_data, hl, numL, hk]; simp
    have e2 : s.extract (k + 1) s.size = ⟨(denL l).toArray⟩ := by
      apply ByteArray.ext
      apply Array.ext'
      rw [Lib.extract_data, hl, denL, hk, if_pos hz, List.take_of_length_le (by simp; omega)]
    have hk0 : ¬ (k : Int) < 0 := by omega
    have hk1 : (k : Int) ≤ (s.size : Int) := by omega
    have hk2 : (k : Int) + 1 ≤ (s.size : Int) := by omega
    have hkn : ((k : Int) + 1).toNat = k + 1 := by omega
    have hkz : (k : Int) < (s.size : Int) := by omega
    have HSL := hide hsl
    have E1 := hide e1
    have E2 := hide e2
    clear hsl e1 e2 hl hk hz hlen
    go_enter Tryz.func62, Tryz.ntmps62
    go_wp2_with fail
    refine HS.out.mono ?_
    rw [HSL.out]
    rintro e w1 ⟨rfl, rfl⟩
    go_upto_region 4 with (fail)
    go_quiet (fail)
    go_wp2_with fail
    go_ret2
    exact ⟨by rw [← E1.out, ← E2.out]; rfl, below_drewN (Below.refl _ _) _⟩
  · have hsl : slR l = -1 := by rw [slR, if_neg hz]
    have e1 : s = ⟨(numL l).toArray⟩ := by
      apply ByteArray.ext
      apply Array.ext'
      have := sl_le l
      rw [hl, numL, List.take_of_length_le (by omega)]
    have e2 : denL l = [49] := by rw [denL, if_neg hz]
    have HSL := hide hsl
    have E1 := hide e1
    have E2 := hide e2
    clear hsl e1 e2 hl hz hlen
    go_enter Tryz.func62, Tryz.ntmps62
    go_wp2_with fail
    refine HS.out.mono ?_
    rw [HSL.out]
    rintro e w1 ⟨rfl, rfl⟩
    go_wp2_with fail
    go_ret2
    exact ⟨by rw [← E1.out, E2.out]; rfl, Below.refl _ _⟩
end Go.Proofs.YthmmgjieppknkaaGreatDoor
namespace Go.Proofs.YthmmgjieppknkaaGreatDoor
open Go.RowKit MLab
theorem T_len_pow {z : Int} {k : Nat} (hk : 1 ≤ k) (h : z.natAbs < 10 ^ k) : (T z).length ≤ k + 1 := by
  have := (dec_length_le hk).2 h
  rw [T_length]
  split <;> omega
theorem T_size_pow {s : ByteArray} {z : Int} {k : Nat} (hs : s.data.toList = T z) (hk : 1 ≤ k) (h : z.natAbs < 10 ^ k) : s.size ≤ k + 1 := by
  rw [Lib.size_eq, hs]; exact T_len_pow hk h
theorem den_lt {k n : Nat} (h : n ≤ 10 ^ k) : n < 10 ^ (k + 1) := Nat.lt_of_le_of_lt h (Nat.pow_lt_pow_right (by omega) (by omega))
theorem RT_size {s : ByteArray} {q : Rat} {m : Nat} (hm : m ≤ 1000) (hs : s.data.toList = RT q) (h : Sz m m q) : s.size ≤ 2100 := by
  have h1 := T_len_pow (z := q.num) (k := m + 1) (by omega) (pow_up h.1 (by omega))
  have h2 : (Lib.decDigits q.den).length ≤ m + 1 := (dec_length_le (by omega)).2 (den_lt h.2)
  rw [Lib.size_eq, hs]
  unfold RT
  split
  · omega
  · rw [List.length_append, List.length_cons]; omega
theorem rtwo_of {x y : Int} {k l : Nat} (hk : 1 ≤ k ∧ k ≤ 3000) (hl : 1 ≤ l ∧ l ≤ 3000) (hx : x.natAbs < 10 ^ k) (hy : y.natAbs < 10 ^ l) : RTwo ⟨(T x).toArray⟩ ⟨(T y).toArray⟩ x y :=
  ⟨rfl, rfl, by have := T_size_pow (s := ⟨(T x).toArray⟩) (z := x) rfl hk.1 hx; omega, by have := T_size_pow (s := ⟨(T y).toArray⟩) (z := y) rfl hl.1 hy; omega⟩
theorem num_ok {q : Rat} {m : Nat} (h : Sz m m q) : q.num.natAbs < 10 ^ (m + 1) := pow_up h.1 (by omega)
theorem den_ok {q : Rat} {m : Nat} (h : Sz m m q) : ((q.den : Int)).natAbs < 10 ^ (m + 1) := by rw [Int.natAbs_natCast]; exact den_lt h.2
def CrossR (p q : Rat) (e : Ending) (w' : World) : Prop := ∃ g c, e = .returned (.slice (some ⟨g, 0, none⟩) 5 c) ∧ Blk w' g 116 #[.string ⟨(T (p.num * q.den)).toArray⟩, .string ⟨(T (q.num * p.den)).toArray⟩, .string ⟨(T ((p.den : Int) * q.den)).toArray⟩, .string ⟨(T (p.num * q.num)).toArray⟩, .string ⟨(T ((p.den : Int) * q.num)).toArray⟩]
set_option maxRecDepth 100000 in
set_option maxHeartbeats 2000000 in
theorem rcrossed_any (w : World) (a b : ByteArray) (p q : Rat) (ha : a.data.toList = RT p) (hb : b.data.toList = RT q) {m : Nat} (hm : m ≤ 1000) (hp : Sz m m p) (hq : Sz m m q) :
    Calls Tryz.prog 73 #[.string a, .string b] w fun e w' => CrossR p q e w' ∧ Below w.heap.size w w' := by
  have az := RT_size hm ha hp
  have bz := RT_size hm hb hq
  have hA := rsplit_any w a _ ha (by omega)
  have hB := fun W => rsplit_any W b _ hb (by omega)
  simp only [RT_num, RT_den] at hA hB
  have HA := hide hA
  have HB := hide hB
  have N1 := hide (num_ok hp)
  have N2 := hide (num_ok hq)
  have D1 := hide (den_ok hp)
  have D2 := hide (den_ok hq)
  clear ha hb hA hB az bz hp hq
  go_enter Tryz.func73, Tryz.ntmps73
  go_wp2_with fail
  refine HA.out.mono ?_
  rintro e u1 ⟨rfl, hb⟩
  have A1 := hide hb
  clear hb
  go_wp2_with fail
  refine (HB.out _).mono ?_
  rintro e u2 ⟨rfl, hb⟩
  have A2 := hide (A1.out.trans (hb.mono A1.out.size))
  clear hb
  go_wp2_with fail
  refine (rtimes_int _ _ _ (p.num) ((q.den : Int)) (rtwo_of ⟨by omega, by omega⟩ ⟨by omega, by omega⟩ N1.out D2.out)).mono ?_
  rintro e v1 ⟨rfl, hb⟩
  have B1 := hide (A2.out.trans (hb.mono A2.out.size))
  clear hb
  go_wp2_with fail
  refine (rtimes_int _ _ _ (q.num) ((p.den : Int)) (rtwo_of ⟨by omega, by omega⟩ ⟨by omega, by omega⟩ N2.out D1.out)).mono ?_
  rintro e v2 ⟨rfl, hb⟩
  have B2 := hide (B1.out.trans (hb.mono B1.out.size))
  clear hb
  go_wp2_with fail
  refine (rtimes_int _ _ _ ((p.den : Int)) ((q.den : Int)) (rtwo_of ⟨by omega, by omega⟩ ⟨by omega, by omega⟩ D1.out D2.out)).mono ?_
  rintro e v3 ⟨rfl, hb⟩
  have B3 := hide (B2.out.trans (hb.mono B2.out.size))
  clear hb
  go_wp2_with fail
  refine (rtimes_int _ _ _ (p.num) (q.num) (rtwo_of ⟨by omega, by omega⟩ ⟨by omega, by omega⟩ N1.out N2.out)).mono ?_
  rintro e v4 ⟨rfl, hb⟩
  have B4 := hide (B3.out.trans (hb.mono B3.out.size))
  clear hb
  go_wp2_with fail
  refine (rtimes_int _ _ _ ((p.den : Int)) (q.num) (rtwo_of ⟨by omega, by omega⟩ ⟨by omega, by omega⟩ D1.out N2.out)).mono ?_
  rintro e v5 ⟨rfl, hb⟩
  have B5 := hide (B4.out.trans (hb.mono B4.out.size))
  clear hb
  go_wp2_with fail
  go_ret
  exact ⟨⟨_, _, rfl, Blk.new _ _ _⟩, B5.out.alloc B5.out.size _⟩
set_option maxRecDepth 100000 in
set_option maxHeartbeats 2000000 in
theorem rqtimes_any (w : World) (a b : ByteArray) (p q : Rat) (ha : a.data.toList = RT p) (hb : b.data.toList = RT q) {m : Nat} (hm : m ≤ 1000) (hp : Sz m m p) (hq : Sz m m q) :
    Calls Tryz.prog 49 #[.string a, .string b] w fun e w' => e = .returned (.string ⟨(RT (p * q)).toArray⟩) ∧ Below w.heap.size w w' := by
  have HC := hide (rcrossed_any w a b p q ha hb hm hp hq)
  have c1 := cross_lt hp hq
  have c2 := cross_lt hq hp
  have c3 := dens_le hp hq
  have cs := nums_lt hp hq
  have T1 := hide (rtwo_of (x := p.num * q.den) (y := q.num * p.den) (k := m + m + 1) (l := m + m + 1) ⟨by omega, by omega⟩ ⟨by omega, by omega⟩ (pow_up c1 (by omega)) (pow_up c2 (by omega)))
  have T2 := hide (rtwo_of (x := p.num * q.num) (y := (p.den : Int) * q.den) (k := m + m + 1) (l := m + m + 1) ⟨by omega, by omega⟩ ⟨by omega, by omega⟩ (pow_up cs (by omega)) (den_lt c3))
  have Z1 := hide (T_size_pow (s := ⟨(T (p.num * q.num)).toArray⟩) (z := p.num * q.num) (k := m + m + 1) rfl (by omega) (pow_up cs (by omega)))
  have Z2 := hide (T_size_pow (s := ⟨(T ((p.den : Int) * q.den)).toArray⟩) (z := (p.den : Int) * q.den) rfl (by omega) (den_lt c3))
  have EQ := hide (mul_divInt p q)
  clear c1 c2 c3 cs
  clear ha hb hp hq
  go_enter Tryz.func49, Tryz.ntmps49
  go_wp2_with fail
  refine HC.out.mono ?_
  rintro e w1 ⟨⟨g, c, rfl, hblk⟩, hb1⟩
  have k2 : w1.cell? ⟨g, 2, none⟩ = some (.string ⟨(T ((p.den : Int) * q.den)).toArray⟩) := (Blk.cell hblk 2).trans rfl
  have k3 : w1.cell? ⟨g, 3, none⟩ = some (.string ⟨(T (p.num * q.num)).toArray⟩) := (Blk.cell hblk 3).trans rfl
  have HB1 := hide hb1
  clear hblk hb1 HC
  have SK : ∀ w', Below w1.heap.size w1 w' → Below w1.heap.size w1 w' ∧ w'.cell? ⟨g, 2, none⟩ = some (.string ⟨(T ((p.den : Int) * q.den)).toArray⟩) ∧ w'.cell? ⟨g, 3, none⟩ = some (.string ⟨(T (p.num * q.num)).toArray⟩) := fun w' h => ⟨h, (bcell h _ _ (block_lt_of_cell k2)).trans k2, (bcell h _ _ (block_lt_of_cell k3)).trans k3⟩
  go_upto_region 2 with (fail)
  go_region_held3 (fun w' => Below w1.heap.size w1 w' ∧ w'.cell? ⟨g, 2, none⟩ = some (.string ⟨(T ((p.den : Int) * q.den)).toArray⟩) ∧ w'.cell? ⟨g, 3, none⟩ = some (.string ⟨(T (p.num * q.num)).toArray⟩)) (first | exact SK _ (Below.refl _ _).drew | exact SK _ (Below.refl _ _) | exact SK _ (bel_next (by assumption) (by assumption) (Nat.le_refl _)))
    (first
      | (go_at_call 74; refine (rlowest_any _ _ _ (p.num * q.num) ((p.den : Int) * q.den) T2.out (dens_ne p q) (by have := Z1.out; omega) (by have := Z2.out; omega)).mono ?_; rw [EQ.out]; rintro e wx ⟨rfl, hbW⟩))
  go_wp2_with fail
  go_ret
  exact ⟨rfl, HB1.out.trans (Below.mono (And.left (by assumption)) HB1.out.size)⟩
end Go.Proofs.YthmmgjieppknkaaGreatDoor
namespace Go.Proofs.YthmmgjieppknkaaGreatDoor
open Go.RowKit MLab
set_option maxRecDepth 100000 in
set_option maxHeartbeats 2000000 in
theorem rqminus_any (w : World) (a b : ByteArray) (p q : Rat) (ha : a.data.toList = RT p) (hb : b.data.toList = RT q) {m : Nat} (hm : m ≤ 1000) (hp : Sz m m p) (hq : Sz m m q) :
    Calls Tryz.prog 48 #[.string a, .string b] w fun e w' => e = .returned (.string ⟨(RT (p - q)).toArray⟩) ∧ Below w.heap.size w w' := by
  have HC := hide (rcrossed_any w a b p q ha hb hm hp hq)
  have c1 := cross_lt hp hq
  have c2 := cross_lt hq hp
  have c3 := dens_le hp hq
  have cs := dif_lt (m := m + m) hp hq (by omega) (by omega)
  have T1 := hide (rtwo_of (x := p.num * q.den) (y := q.num * p.den) (k := m + m + 1) (l := m + m + 1) ⟨by omega, by omega⟩ ⟨by omega, by omega⟩ (pow_up c1 (by omega)) (pow_up c2 (by omega)))
  have T2 := hide (rtwo_of (x := p.num * q.den - q.num * p.den) (y := (p.den : Int) * q.den) (k := m + m + 1) (l := m + m + 1) ⟨by omega, by omega⟩ ⟨by omega, by omega⟩ (pow_up cs (by omega)) (den_lt c3))
  have Z1 := hide (T_size_pow (s := ⟨(T (p.num * q.den - q.num * p.den)).toArray⟩) (z := p.num * q.den - q.num * p.den) (k := m + m + 1) rfl (by omega) (pow_up cs (by omega)))
  have Z2 := hide (T_size_pow (s := ⟨(T ((p.den : Int) * q.den)).toArray⟩) (z := (p.den : Int) * q.den) rfl (by omega) (den_lt c3))
  have Z0 := hide (T_size_pow (s := ⟨(T (q.num * p.den)).toArray⟩) (z := q.num * p.den) (k := m + m + 1) rfl (by omega) (pow_up c2 (by omega)))
  have EQ := hide (sub_divInt p q)
  clear c1 c2 c3 cs
  clear ha hb hp hq
  go_enter Tryz.func48, Tryz.ntmps48
  go_wp2_with fail
  refine HC.out.mono ?_
  rintro e w1 ⟨⟨g, c, rfl, hblk⟩, hb1⟩
  have k0 : w1.cell? ⟨g, 0, none⟩ = some (.string ⟨(T (p.num * q.den)).toArray⟩) := (Blk.cell hblk 0).trans rfl
  have k1 : w1.cell? ⟨g, 1, none⟩ = some (.string ⟨(T (q.num * p.den)).toArray⟩) := (Blk.cell hblk 1).trans rfl
  have k2 : w1.cell? ⟨g, 2, none⟩ = some (.string ⟨(T ((p.den : Int) * q.den)).toArray⟩) := (Blk.cell hblk 2).trans rfl
  have HB1 := hide hb1
  clear hblk hb1 HC
  have SK : ∀ w', Below w1.heap.size w1 w' → Below w1.heap.size w1 w' ∧ w'.cell? ⟨g, 0, none⟩ = some (.string ⟨(T (p.num * q.den)).toArray⟩) ∧ w'.cell? ⟨g, 1, none⟩ = some (.string ⟨(T (q.num * p.den)).toArray⟩) ∧ w'.cell? ⟨g, 2, none⟩ = some (.string ⟨(T ((p.den : Int) * q.den)).toArray⟩) := fun w' h => ⟨h, (bcell h _ _ (block_lt_of_cell k0)).trans k0, (bcell h _ _ (block_lt_of_cell k1)).trans k1, (bcell h _ _ (block_lt_of_cell k2)).trans k2⟩
  go_upto_region 2 with (fail)
  go_region_held3 (fun w' => Below w1.heap.size w1 w' ∧ w'.cell? ⟨g, 0, none⟩ = some (.string ⟨(T (p.num * q.den)).toArray⟩) ∧ w'.cell? ⟨g, 1, none⟩ = some (.string ⟨(T (q.num * p.den)).toArray⟩) ∧ w'.cell? ⟨g, 2, none⟩ = some (.string ⟨(T ((p.den : Int) * q.den)).toArray⟩)) (first | exact SK _ (Below.refl _ _).drew | exact SK _ (Below.refl _ _) | exact SK _ (bel_next (by assumption) (by assumption) (Nat.le_refl _)))
    (first
      | (go_at_call 88; refine (rminus_int _ _ _ _ _ T1.out (by have := Z0.out; omega)).mono ?_; rintro e wx ⟨rfl, hbW⟩)
      | (go_at_call 74; refine (rlowest_any _ _ _ (p.num * q.den - q.num * p.den) ((p.den : Int) * q.den) T2.out (dens_ne p q) (by have := Z1.out; omega) (by have := Z2.out; omega)).mono ?_; rw [EQ.out]; rintro e wx ⟨rfl, hbW⟩))
  go_wp2_with fail
  go_ret
  exact ⟨rfl, HB1.out.trans (Below.mono (And.left (by assumption)) HB1.out.size)⟩
end Go.Proofs.YthmmgjieppknkaaGreatDoor

namespace Go.Proofs.YthmmgjieppknkaaGreatDoor
open Go.RowKit MLab
set_option maxRecDepth 100000 in
set_option maxHeartbeats 4000000 in
theorem rchk_any (w : World) (s : ByteArray) (l : List UInt8) (hl : s.data.toList = l) (hsz : s.size ≤ 1000000000000) :
    Calls Tryz.prog 69 #[.string s] w fun e w' => e = .returned (.int .i64 (chk l)) ∧ w = w' := by
  have hls : s.size = l.length := by rw [Lib.size_eq, hl]
  have hsz1 := rsize_any w s l hl hsz
  obtain ⟨g, hg⟩ : ∃ g : ByteArray, (⟨(mag l).toArray⟩ : ByteArray) = g := ⟨_, rfl⟩
  have hgm : g.data.toList = mag l := by rw [← hg]
  have hgl : g.toList = mag l := by rw [Lib.toList_data, hgm]
  have hgs : g.size = (mag l).length := by rw [Lib.size_eq, hgm]
  rw [hg] at hsz1
  have HSZ := hide hsz1
  have HGM := hide hgm
  have HGS := hide hgs
  have hml : (mag l).length ≤ l.length := by unfold mag; split <;> simp
  have hgle : g.size ≤ 1000000000000 := by omega
  clear hg hsz1
  by_cases h0 : mag l = []
  · have hg0 : g.toList = [] := by rw [hgl, h0]
    have HC3 := hide (show chk l = 3 by rw [chk, if_pos (.inl h0)])
    clear h0 hgl hgm hgs hl
    go_enter Tryz.func69, Tryz.ntmps69
    go_wp2_with fail
    refine HSZ.out.mono ?_
    rintro e w1 ⟨rfl, rfl⟩
    go_wp2_with fail
    go_ret
    exact ⟨by rw [HC3.out]; rfl, rfl⟩
  · have hg0 : ¬ g.toList = [] := by rw [hgl]; exact h0
    have hpos : 0 < g.size := by rw [hgs]; exact List.length_pos_iff.2 h0
    have hem : g.toList.isEmpty = false := by cases h : g.toList with | nil => exact absurd h hg0 | cons a r => rfl
    have hhd := getElem_head hgm hpos
    have HNE := hide h0
    have hli : g.size ≤ 1 ∧ s.size ≤ 1 → (g[0]'hpos).toNat = 48 → l = [48] := by
      rintro ⟨_, h2⟩ h3
      have h4 : (mag l).length = 1 := by omega
      have h5 : l.length = 1 := by omega
      match l, h5 with
      | [b], _ =>
        have h6 : mag [b] = [b] := by
          unfold mag
          split
          · rename_i t ht
            injection ht with e1 e2
            subst e2
            rw [e1] at h4
            simp [mag] at h4
          · rfl
        rw [h6] at hhd
        simp only [List.head?_cons, Option.some.injEq] at hhd
        rw [← hhd] at h3
        rw [UInt8.toNat_inj.1 (show b.toNat = (48 : UInt8).toNat from h3)]
    have h3of : (mag l).head? = some 48 → l ≠ [48] → chk l = 3 := by
      intro a b
      by_cases hd : mag l = [] ∨ digB (mag l) = false
      · rw [chk, if_pos hd]
      · rw [chk, if_neg hd, if_pos ⟨a, b⟩]
    by_cases hz : ((g[0]'hpos).toNat : Int) = 48
    · have hh : (mag l).head? = some 48 := by rw [hhd]; congr 1; exact UInt8.toNat_inj.1 (by simp; omega)
      by_cases h1 : 1 < g.size
      · have h1i : (1 : Int) < (g.size : Int) := by omega
        have HC3 := hide (h3of hh (by intro h; rw [h] at hgs; simp [mag] at hgs; omega))
        clear hgl hgm hgs hl hhd hli h3of hh h0
        go_enter Tryz.func69, Tryz.ntmps69
        go_wp2_with fail
        refine HSZ.out.mono ?_
        rintro e w1 ⟨rfl, rfl⟩
        go_wp2_with fail
        go_ret
        exact ⟨by rw [HC3.out]; rfl, rfl⟩
      · have h1i : ¬ (1 : Int) < (g.size : Int) := by omega
        by_cases h2 : 1 < s.size
        · have h2i : (1 : Int) < (s.size : Int) := by omega
          have HC3 := hide (h3of hh (by intro h; rw [h] at hls; simp at hls; omega))
          clear hgl hgm hgs hl hhd hli h3of hh h0
          go_enter Tryz.func69, Tryz.ntmps69
          go_wp2_with fail
          refine HSZ.out.mono ?_
          rintro e w1 ⟨rfl, rfl⟩
          go_wp2_with fail
          go_ret
          exact ⟨by rw [HC3.out]; rfl, rfl⟩
        · have h2i : ¬ (1 : Int) < (s.size : Int) := by omega
          have HBAD := hide (show ¬ ((mag l).head? = some 48 ∧ l ≠ [48]) from fun h => h.2 (hli ⟨by omega, by omega⟩ (by omega)))
          clear hgl hgm hgs hl hhd hli h3of hh h0
          go_enter Tryz.func69, Tryz.ntmps69
          go_wp2_with fail
          refine HSZ.out.mono ?_
          rintro e w1 ⟨rfl, rfl⟩
          go_wp2_with fail
          go_loopg [4] g.size (fun q iv wr => ∃ j : Nat, iv = .int .i64 (j : Int) ∧ q + j = g.size ∧ (∀ k b, k < j → (mag l)[k]? = some b → 48 ≤ b.toNat ∧ b.toNat ≤ 57) ∧ wr = w)
          case atStart => exact ⟨0, rfl, rfl, fun k b h => by omega, rfl⟩
          case round =>
            obtain ⟨j, rfl, hq, hok, rfl⟩ := hrel
            have hj : j ≤ g.size := by omega
            have HQ := hide hq
            have HOK := hide hok
            clear hq hok
            by_cases hlt : j < g.size
            · have hji : (j : Int) < (g.size : Int) := by omega
              have hgj : (mag l)[j]? = some (g[j]'hlt) := by
                rw [← HGM.out, Array.getElem?_toList]
                exact Array.getElem?_eq_getElem hlt
              have HGJ := hide hgj
              clear hgj
              by_cases h48 : ((g[j]'hlt).toNat : Int) < 48
              · have HB := hide h48
                go_wp2_with fail
                go_ret
                refine ⟨?_, rfl⟩
                have hd : digB (mag l) = false := by
                  rw [← Bool.not_eq_true]
                  intro h
                  have := (List.all_eq_true.1 h _ (List.mem_of_getElem? HGJ.out))
                  have h2 := of_decide_eq_true this
                  have := HB.out
                  omega
                rw [chk, if_pos (.inr hd)]; rfl
              · by_cases h57 : (57 : Int) < ((g[j]'hlt).toNat : Int)
                · have HB := hide h57
                  go_wp2_with fail
                  go_ret
                  refine ⟨?_, rfl⟩
                  have hd : digB (mag l) = false := by
                    rw [← Bool.not_eq_true]
                    intro h
                    have := (List.all_eq_true.1 h _ (List.mem_of_getElem? HGJ.out))
                    have h2 := of_decide_eq_true this
                    have := HB.out
                    omega
                  rw [chk, if_pos (.inr hd)]; rfl
                · have HB1 := hide h48
                  have HB2 := hide h57
                  go_wp2_with fail
                  go_roundg (gk - 1)
                  case measure => have := HQ.out; omega
                  case rel =>
                    refine ⟨j + 1, by go_num, by have := HQ.out; omega, fun k b hk hb => ?_, rfl⟩
                    by_cases e : k = j
                    · rw [e, HGJ.out] at hb
                      injection hb with hb
                      rw [← hb]
                      have := HB1.out
                      have := HB2.out
                      exact ⟨by omega, by omega⟩
                    · exact HOK.out k b (by omega) hb
            · have hji : ¬ (j : Int) < (g.size : Int) := by omega
              have hd : digB (mag l) = true := by
                unfold digB
                rw [List.all_eq_true]
                intro b hb
                obtain ⟨k, hk, rfl⟩ := List.mem_iff_getElem.1 hb
                exact decide_eq_true (HOK.out k _ (by have := HGS.out; omega) (List.getElem?_eq_getElem hk))
              have h1 : ¬ (mag l = [] ∨ digB (mag l) = false) := by
                rintro (h | h)
                · exact HNE.out h
                · rw [hd] at h; cases h
              have H1 := hide h1
              clear hd h1
              by_cases hlong : 1024 < g.size
              · have hli : (1024 : Int) < (g.size : Int) := by omega
                go_wp2_with fail
                go_ret
                refine ⟨?_, rfl⟩
                rw [chk, if_neg H1.out, if_neg HBAD.out, if_pos (by rw [← HGS.out]; exact hlong)]; rfl
              · have hli : ¬ (1024 : Int) < (g.size : Int) := by omega
                go_wp2_with fail
                go_ret
                refine ⟨?_, rfl⟩
                rw [chk, if_neg H1.out, if_neg HBAD.out, if_neg (by rw [← HGS.out]; exact hlong)]; rfl
    · have HBAD := hide (show ¬ ((mag l).head? = some 48 ∧ l ≠ [48]) by
        rintro ⟨h, _⟩; rw [hhd] at h; injection h with h; rw [h] at hz; exact hz rfl)
      clear hgl hgm hgs hl hhd hli h3of h0
      go_enter Tryz.func69, Tryz.ntmps69
      go_wp2_with fail
      refine HSZ.out.mono ?_
      rintro e w1 ⟨rfl, rfl⟩
      go_wp2_with fail
      go_loopg [4] g.size (fun q iv wr => ∃ j : Nat, iv = .int .i64 (j : Int) ∧ q + j = g.size ∧ (∀ k b, k < j → (mag l)[k]? = some b → 48 ≤ b.toNat ∧ b.toNat ≤ 57) ∧ wr = w)
      case atStart => exact ⟨0, rfl, rfl, fun k b h => by omega, rfl⟩
      case round =>
        obtain ⟨j, rfl, hq, hok, rfl⟩ := hrel
        have hj : j ≤ g.size := by omega
        have HQ := hide hq
        have HOK := hide hok
        clear hq hok
        by_cases hlt : j < g.size
        · have hji : (j : Int) < (g.size : Int) := by omega
          have hgj : (mag l)[j]? = some (g[j]'hlt) := by
            rw [← HGM.out, Array.getElem?_toList]
            exact Array.getElem?_eq_getElem hlt
          have HGJ := hide hgj
          clear hgj
          by_cases h48 : ((g[j]'hlt).toNat : Int) < 48
          · have HB := hide h48
            go_wp2_with fail
            go_ret
            refine ⟨?_, rfl⟩
            have hd : digB (mag l) = false := by
              rw [← Bool.not_eq_true]
              intro h
              have := (List.all_eq_true.1 h _ (List.mem_of_getElem? HGJ.out))
              have h2 := of_decide_eq_true this
              have := HB.out
              omega
            rw [chk, if_pos (.inr hd)]; rfl
          · by_cases h57 : (57 : Int) < ((g[j]'hlt).toNat : Int)
            · have HB := hide h57
              go_wp2_with fail
              go_ret
              refine ⟨?_, rfl⟩
              have hd : digB (mag l) = false := by
                rw [← Bool.not_eq_true]
                intro h
                have := (List.all_eq_true.1 h _ (List.mem_of_getElem? HGJ.out))
                have h2 := of_decide_eq_true this
                have := HB.out
                omega
              rw [chk, if_pos (.inr hd)]; rfl
            · have HB1 := hide h48
              have HB2 := hide h57
              go_wp2_with fail
              go_roundg (gk - 1)
              case measure => have := HQ.out; omega
              case rel =>
                refine ⟨j + 1, by go_num, by have := HQ.out; omega, fun k b hk hb => ?_, rfl⟩
                by_cases e : k = j
                · rw [e, HGJ.out] at hb
                  injection hb with hb
                  rw [← hb]
                  have := HB1.out
                  have := HB2.out
                  exact ⟨by omega, by omega⟩
                · exact HOK.out k b (by omega) hb
        · have hji : ¬ (j : Int) < (g.size : Int) := by omega
          have hd : digB (mag l) = true := by
            unfold digB
            rw [List.all_eq_true]
            intro b hb
            obtain ⟨k, hk, rfl⟩ := List.mem_iff_getElem.1 hb
            exact decide_eq_true (HOK.out k _ (by have := HGS.out; omega) (List.getElem?_eq_getElem hk))
          have h1 : ¬ (mag l = [] ∨ digB (mag l) = false) := by
            rintro (h | h)
            · exact HNE.out h
            · rw [hd] at h; cases h
          have H1 := hide h1
          clear hd h1
          by_cases hlong : 1024 < g.size
          · have hli : (1024 : Int) < (g.size : Int) := by omega
            go_wp2_with fail
            go_ret
            refine ⟨?_, rfl⟩
            rw [chk, if_neg H1.out, if_neg HBAD.out, if_pos (by rw [← HGS.out]; exact hlong)]; rfl
          · have hli : ¬ (1024 : Int) < (g.size : Int) := by omega
            go_wp2_with fail
            go_ret
            refine ⟨?_, rfl⟩
            rw [chk, if_neg H1.out, if_neg HBAD.out, if_neg (by rw [← HGS.out]; exact hlong)]; rfl
end Go.Proofs.YthmmgjieppknkaaGreatDoor
namespace Go.Proofs.YthmmgjieppknkaaGreatDoor
open Go.RowKit MLab
set_option maxRecDepth 100000 in
set_option maxHeartbeats 1000000 in
theorem rorder_any (w : World) (a b : ByteArray) (x y : Int) (h : RTwo a b x y) (hb : b.size ≤ 799999) :
    Calls Tryz.prog 71 #[.string a, .string b] w fun e w' => e = .returned (.int .i64 (Int.sign (x - y))) ∧ Below w.heap.size w w' := by
  have HM := hide (rminus_int w a b x y h hb)
  obtain ⟨z, hz⟩ : ∃ z : Int, x - y = z := ⟨_, rfl⟩
  rw [hz] at HM ⊢
  clear h hb hz
  rcases Int.lt_trichotomy z 0 with hx | hx | hx
  · have hd := hide (decide_eq_true hx)
    rw [Int.sign_eq_neg_one_of_neg hx]
    have h0 := hide (show T z ≠ [48] from fun e => by have := T_inj (e.trans T_zero.symm); omega)
    clear hx
    go_enter Tryz.func71, Tryz.ntmps71
    go_wp2_with fail
    refine HM.out.mono ?_
    rintro e w1 ⟨rfl, hb1⟩
    have HB := hide hb1
    obtain ⟨t, ht⟩ : ∃ t : ByteArray, (⟨(T z).toArray⟩ : ByteArray) = t := ⟨_, rfl⟩
    have htd : t.data.toList = T z := by rw [← ht]
    have ht0 : (t.toList == [48]) = false := by rw [Lib.toList_data, htd, beq_eq_false_iff_ne]; exact h0.out
    rw [ht]
    have HTD := hide htd
    clear ht htd hb1
    go_wp2_with fail
    refine (rbelow_any _ t z HTD.out).mono ?_
    rw [hd.out]
    rintro e w2 ⟨rfl, rfl⟩
    go_wp2_with fail
    go_ret
    exact ⟨rfl, HB.out⟩
  · subst hx
    go_enter Tryz.func71, Tryz.ntmps71
    go_wp2_with fail
    refine HM.out.mono ?_
    rintro e w1 ⟨rfl, hb1⟩
    have HB := hide hb1
    obtain ⟨t, ht⟩ : ∃ t : ByteArray, (⟨(T 0).toArray⟩ : ByteArray) = t := ⟨_, rfl⟩
    have htd : t.data.toList = T 0 := by rw [← ht]
    have ht0 : (t.toList == [48]) = true := by rw [Lib.toList_data, htd, T_zero]; rfl
    rw [ht]
    clear ht htd hb1
    go_wp2_with fail
    go_ret
    exact ⟨rfl, HB.out⟩
  · have hd := hide (decide_eq_false (show ¬ z < 0 by omega))
    rw [Int.sign_eq_one_of_pos hx]
    have h0 := hide (show T z ≠ [48] from fun e => by have := T_inj (e.trans T_zero.symm); omega)
    clear hx
    go_enter Tryz.func71, Tryz.ntmps71
    go_wp2_with fail
    refine HM.out.mono ?_
    rintro e w1 ⟨rfl, hb1⟩
    have HB := hide hb1
    obtain ⟨t, ht⟩ : ∃ t : ByteArray, (⟨(T z).toArray⟩ : ByteArray) = t := ⟨_, rfl⟩
    have htd : t.data.toList = T z := by rw [← ht]
    have ht0 : (t.toList == [48]) = false := by rw [Lib.toList_data, htd, beq_eq_false_iff_ne]; exact h0.out
    rw [ht]
    have HTD := hide htd
    clear ht htd hb1
    go_wp2_with fail
    refine (rbelow_any _ t z HTD.out).mono ?_
    rw [hd.out]
    rintro e w2 ⟨rfl, rfl⟩
    go_wp2_with fail
    go_ret
    exact ⟨rfl, HB.out⟩
set_option maxRecDepth 100000 in
set_option maxHeartbeats 4000000 in
theorem rrcheck_any (w : World) (s : ByteArray) (l : List UInt8) (hl : s.data.toList = l) (hsz : s.size ≤ 200000) :
    Calls Tryz.prog 35 #[.string s] w fun e w' => e = .returned (.int .i64 (chkR l)) ∧ Below w.heap.size w w' := by
  have hlz : l.length ≤ 200000 := by rw [← hl, ← Lib.size_eq]; exact hsz
  have SPL := hide (rsplit_any w s l hl (by omega))
  have SLA := hide (fun W => rslash_any W s l hl (by omega))
  have zn := numL_len l
  have zd := denL_len l
  obtain ⟨n, hn⟩ : ∃ n : ByteArray, (⟨(numL l).toArray⟩ : ByteArray) = n := ⟨_, rfl⟩
  obtain ⟨d, hd⟩ : ∃ d : ByteArray, (⟨(denL l).toArray⟩ : ByteArray) = d := ⟨_, rfl⟩
  have hnd : n.data.toList = numL l := by rw [← hn]
  have hdd : d.data.toList = denL l := by rw [← hd]
  have zn2 : n.size ≤ 200001 := by rw [Lib.size_eq, hnd]; omega
  have zd2 : d.size ≤ 200001 := by rw [Lib.size_eq, hdd]; omega
  rw [hn, hd] at SPL
  have CN := hide (fun W => rchk_any W n (numL l) hnd (by omega))
  have CD := hide (fun W => rchk_any W d (denL l) hdd (by omega))
  have vn := chk_vals (numL l)
  have vd := chk_vals (denL l)
  clear hl hn hd zn zd
  by_cases e3 : chk (numL l) = 3
  · have HC := hide (show chkR l = 3 by rw [chkR, if_pos (.inl e3)])
    have EN := hide e3
    clear e3 vn vd hnd hdd
    go_enter Tryz.func35, Tryz.ntmps35
    go_wp2_with fail
    refine SPL.out.mono ?_
    rintro e w1 ⟨rfl, hb1⟩
    have HB := hide hb1
    clear hb1
    go_wp2_with fail
    refine (CN.out _).mono ?_
    rw [EN.out]
    rintro e v ⟨rfl, rfl⟩
    go_wp2_with fail
    go_ret
    exact ⟨by rw [HC.out]; rfl, HB.out⟩
  · by_cases f3 : chk (denL l) = 3
    · have HC := hide (show chkR l = 3 by rw [chkR, if_pos (.inr f3)])
      have ED := hide f3
      rcases vn with v0 | v3 | v11
      · have EN := hide v0
        clear v0 e3 f3 vd hnd hdd
        go_enter Tryz.func35, Tryz.ntmps35
        go_wp2_with fail
        refine SPL.out.mono ?_
        rintro e w1 ⟨rfl, hb1⟩
        have HB := hide hb1
        clear hb1
        go_wp2_with fail
        refine (CN.out _).mono ?_
        rw [EN.out]
        rintro e v ⟨rfl, rfl⟩
        go_wp2_with fail
        refine (CD.out _).mono ?_
        rw [ED.out]
        rintro e v ⟨rfl, rfl⟩
        go_wp2_with fail
        go_ret
        exact ⟨by rw [HC.out]; rfl, HB.out⟩
      · exact absurd v3 e3
      · have EN := hide v11
        clear v11 e3 f3 vd hnd hdd
        go_enter Tryz.func35, Tryz.ntmps35
        go_wp2_with fail
        refine SPL.out.mono ?_
        rintro e w1 ⟨rfl, hb1⟩
        have HB := hide hb1
        clear hb1
        go_wp2_with fail
        refine (CN.out _).mono ?_
        rw [EN.out]
        rintro e v ⟨rfl, rfl⟩
        go_wp2_with fail
        refine (CD.out _).mono ?_
        rw [ED.out]
        rintro e v ⟨rfl, rfl⟩
        go_wp2_with fail
        go_ret
        exact ⟨by rw [HC.out]; rfl, HB.out⟩
    · rcases vn with v0 | v3 | v11
      · rcases vd with u0 | u3 | u11
        · obtain ⟨x, hx, hxb⟩ := chk_zero v0
          obtain ⟨y, hy, hyb⟩ := chk_zero u0
          have hcc : chkR l = if wrB l = false then 0 else if 1 < y ∧ Int.gcd x y = 1 then 0 else 3 := by
            rw [chkR, if_neg (by omega), if_neg (by omega), ← hx, ← hy, atoi_T, atoi_T]; rfl
          have hnT : n.data.toList = T x := by rw [hnd, hx]
          have hdT : d.data.toList = T y := by rw [hdd, hy]
          have EN := hide v0
          have ED := hide u0
          by_cases hw : sl l < l.length
          · have hsl : slR l = (sl l : Int) := by rw [slR, if_pos hw]
            have hk0 : (0 : Int) ≤ (sl l : Int) := by omega
            rw [if_neg (by rw [wrB, decide_eq_true hw]; simp)] at hcc
            have HCC := hide hcc
            have HSL := hide hsl
            have TW := hide (show RTwo d ⟨#[49]⟩ y 1 from ⟨hdT, T_one.symm, by omega, by decide⟩)
            have TG := hide (show RTwo n d x y from ⟨hnT, hdT, by omega, by omega⟩)
            clear v0 u0 e3 f3 hcc hsl hw hx hy hnd hdd hnT hdT
            by_cases h1 : 1 < y
            · have hsg : Int.sign (y - 1) = 1 := Int.sign_eq_one_of_pos (by omega)
              have HSG := hide hsg
              clear hsg
              obtain ⟨g, hg⟩ : ∃ g : ByteArray, (⟨(T (Int.gcd x y : Int)).toArray⟩ : ByteArray) = g := ⟨_, rfl⟩
              have hgt : g.toList = T (Int.gcd x y : Int) := by rw [Lib.toList_data, ← hg]
              have HG := hide hg
              clear hg
              by_cases h2 : Int.gcd x y = 1
              · have HC := hide (show chkR l = 0 by rw [HCC.out, if_pos ⟨h1, h2⟩])
                have hg1 : (g.toList == [49]) = true := by rw [hgt, h2, show ((1 : Nat) : Int) = 1 from rfl, T_one]; rfl
                have hg2 : (g.toList != [49]) = false := by rw [bne, hg1]; rfl
                have hg3 : (!(g.toList == [49])) = false := by rw [hg1]; rfl
                clear h1 h2 hgt
                go_enter Tryz.func35, Tryz.ntmps35
                go_wp2_with fail
                refine SPL.out.mono ?_
                rintro e w1 ⟨rfl, hb1⟩
                have HB := hide hb1
                clear hb1
                go_wp2_with fail
                refine (CN.out _).mono ?_
                rw [EN.out]
                rintro e v ⟨rfl, rfl⟩
                go_wp2_with fail
                refine (CD.out _).mono ?_
                rw [ED.out]
                rintro e v ⟨rfl, rfl⟩
                go_wp2_with fail
                refine (CN.out _).mono ?_
                rw [EN.out]
                rintro e v ⟨rfl, rfl⟩
                go_wp2_with fail
                refine (CD.out _).mono ?_
                rw [ED.out]
                rintro e v ⟨rfl, rfl⟩
                go_wp2_with fail
                refine (SLA.out _).mono ?_
                rw [HSL.out]
                rintro e v ⟨rfl, rfl⟩
                go_wp2_with fail
                refine (rorder_any _ d ⟨#[49]⟩ y 1 TW.out (by decide)).mono ?_
                rw [HSG.out]
                rintro e w2 ⟨rfl, hb2⟩
                have HB2 := hide (HB.out.trans (hb2.mono HB.out.size))
                clear hb2
                go_wp2_with fail
                refine (rshared_any _ n d x y TG.out (by omega) (by omega)).mono ?_
                rw [HG.out]
                rintro e w3 ⟨rfl, hb3⟩
                have HB3 := hide (HB2.out.trans (hb3.mono HB2.out.size))
                clear hb3
                go_wp2_with fail
                go_ret
                exact ⟨by rw [HC.out]; rfl, HB3.out⟩
              · have HC := hide (show chkR l = 3 by rw [HCC.out, if_neg (fun h => h2 h.2)])
                have hne : g.toList ≠ [49] := by
                  rw [hgt]; intro h
                  have := T_inj (h.trans T_one.symm)
                  exact h2 (by omega)
                have hg1 : (g.toList == [49]) = false := by rw [beq_eq_false_iff_ne]; exact hne
                have hg2 : (g.toList != [49]) = true := by rw [bne, hg1]; rfl
                have hg3 : (!(g.toList == [49])) = true := by rw [hg1]; rfl
                clear h1 h2 hgt hne
                go_enter Tryz.func35, Tryz.ntmps35
                go_wp2_with fail
                refine SPL.out.mono ?_
                rintro e w1 ⟨rfl, hb1⟩
                have HB := hide hb1
                clear hb1
                go_wp2_with fail
                refine (CN.out _).mono ?_
                rw [EN.out]
                rintro e v ⟨rfl, rfl⟩
                go_wp2_with fail
                refine (CD.out _).mono ?_
                rw [ED.out]
                rintro e v ⟨rfl, rfl⟩
                go_wp2_with fail
                refine (CN.out _).mono ?_
                rw [EN.out]
                rintro e v ⟨rfl, rfl⟩
                go_wp2_with fail
                refine (CD.out _).mono ?_
                rw [ED.out]
                rintro e v ⟨rfl, rfl⟩
                go_wp2_with fail
                refine (SLA.out _).mono ?_
                rw [HSL.out]
                rintro e v ⟨rfl, rfl⟩
                go_wp2_with fail
                refine (rorder_any _ d ⟨#[49]⟩ y 1 TW.out (by decide)).mono ?_
                rw [HSG.out]
                rintro e w2 ⟨rfl, hb2⟩
                have HB2 := hide (HB.out.trans (hb2.mono HB.out.size))
                clear hb2
                go_wp2_with fail
                refine (rshared_any _ n d x y TG.out (by omega) (by omega)).mono ?_
                rw [HG.out]
                rintro e w3 ⟨rfl, hb3⟩
                have HB3 := hide (HB2.out.trans (hb3.mono HB2.out.size))
                clear hb3
                go_wp2_with fail
                go_ret
                exact ⟨by rw [HC.out]; rfl, HB3.out⟩
            · have hsg : Int.sign (y - 1) ≤ 0 := by
                rcases Int.lt_or_eq_of_le (show y - 1 ≤ 0 by omega) with h | h
                · rw [Int.sign_eq_neg_one_of_neg h]; omega
                · rw [h]; decide
              have HC := hide (show chkR l = 3 by rw [HCC.out, if_neg (fun h => h1 h.1)])
              obtain ⟨sg, hsg2⟩ : ∃ z : Int, Int.sign (y - 1) = z := ⟨_, rfl⟩
              rw [hsg2] at hsg
              have HSG := hide hsg2
              clear hsg2 h1
              go_enter Tryz.func35, Tryz.ntmps35
              go_wp2_with fail
              refine SPL.out.mono ?_
              rintro e w1 ⟨rfl, hb1⟩
              have HB := hide hb1
              clear hb1
              go_wp2_with fail
              refine (CN.out _).mono ?_
              rw [EN.out]
              rintro e v ⟨rfl, rfl⟩
              go_wp2_with fail
              refine (CD.out _).mono ?_
              rw [ED.out]
              rintro e v ⟨rfl, rfl⟩
              go_wp2_with fail
              refine (CN.out _).mono ?_
              rw [EN.out]
              rintro e v ⟨rfl, rfl⟩
              go_wp2_with fail
              refine (CD.out _).mono ?_
              rw [ED.out]
              rintro e v ⟨rfl, rfl⟩
              go_wp2_with fail
              refine (SLA.out _).mono ?_
              rw [HSL.out]
              rintro e v ⟨rfl, rfl⟩
              go_wp2_with fail
              refine (rorder_any _ d ⟨#[49]⟩ y 1 TW.out (by decide)).mono ?_
              rw [HSG.out]
              rintro e w2 ⟨rfl, hb2⟩
              have HB2 := hide (HB.out.trans (hb2.mono HB.out.size))
              clear hb2
              go_wp2_with fail
              go_ret
              exact ⟨by rw [HC.out]; rfl, HB2.out⟩
          · have HC := hide (show chkR l = 0 by rw [hcc, if_pos (by rw [wrB, decide_eq_false hw])])
            have HSL := hide (show slR l = -1 by rw [slR, if_neg hw])
            clear v0 u0 e3 f3 hcc hw hx hy hnd hdd hnT hdT
            go_enter Tryz.func35, Tryz.ntmps35
            go_wp2_with fail
            refine SPL.out.mono ?_
            rintro e w1 ⟨rfl, hb1⟩
            have HB := hide hb1
            clear hb1
            go_wp2_with fail
            refine (CN.out _).mono ?_
            rw [EN.out]
            rintro e v ⟨rfl, rfl⟩
            go_wp2_with fail
            refine (CD.out _).mono ?_
            rw [ED.out]
            rintro e v ⟨rfl, rfl⟩
            go_wp2_with fail
            refine (CN.out _).mono ?_
            rw [EN.out]
            rintro e v ⟨rfl, rfl⟩
            go_wp2_with fail
            refine (CD.out _).mono ?_
            rw [ED.out]
            rintro e v ⟨rfl, rfl⟩
            go_wp2_with fail
            refine (SLA.out _).mono ?_
            rw [HSL.out]
            rintro e v ⟨rfl, rfl⟩
            go_wp2_with fail
            go_ret
            exact ⟨by rw [HC.out]; rfl, HB.out⟩
        · exact absurd u3 f3
        · have HC := hide (show chkR l = 11 by rw [chkR, if_neg (by omega), if_pos (.inr (by omega))])
          have EN := hide v0
          have ED := hide u11
          clear v0 u11 e3 f3 hnd hdd
          go_enter Tryz.func35, Tryz.ntmps35
          go_wp2_with fail
          refine SPL.out.mono ?_
          rintro e w1 ⟨rfl, hb1⟩
          have HB := hide hb1
          clear hb1
          go_wp2_with fail
          refine (CN.out _).mono ?_
          rw [EN.out]
          rintro e v ⟨rfl, rfl⟩
          go_wp2_with fail
          refine (CD.out _).mono ?_
          rw [ED.out]
          rintro e v ⟨rfl, rfl⟩
          go_wp2_with fail
          refine (CN.out _).mono ?_
          rw [EN.out]
          rintro e v ⟨rfl, rfl⟩
          go_wp2_with fail
          refine (CD.out _).mono ?_
          rw [ED.out]
          rintro e v ⟨rfl, rfl⟩
          go_wp2_with fail
          go_ret
          exact ⟨by rw [HC.out]; rfl, HB.out⟩
      · exact absurd v3 e3
      · rcases vd with u0 | u3 | u11
        · have HC := hide (show chkR l = 11 by rw [chkR, if_neg (by omega), if_pos (.inl (by omega))])
          have EN := hide v11
          have ED := hide u0
          clear v11 u0 e3 f3 hnd hdd
          go_enter Tryz.func35, Tryz.ntmps35
          go_wp2_with fail
          refine SPL.out.mono ?_
          rintro e w1 ⟨rfl, hb1⟩
          have HB := hide hb1
          clear hb1
          go_wp2_with fail
          refine (CN.out _).mono ?_
          rw [EN.out]
          rintro e v ⟨rfl, rfl⟩
          go_wp2_with fail
          refine (CD.out _).mono ?_
          rw [ED.out]
          rintro e v ⟨rfl, rfl⟩
          go_wp2_with fail
          refine (CN.out _).mono ?_
          rw [EN.out]
          rintro e v ⟨rfl, rfl⟩
          go_wp2_with fail
          go_ret
          exact ⟨by rw [HC.out]; rfl, HB.out⟩
        · exact absurd u3 f3
        · have HC := hide (show chkR l = 11 by rw [chkR, if_neg (by omega), if_pos (.inl (by omega))])
          have EN := hide v11
          have ED := hide u11
          clear v11 u11 e3 f3 hnd hdd
          go_enter Tryz.func35, Tryz.ntmps35
          go_wp2_with fail
          refine SPL.out.mono ?_
          rintro e w1 ⟨rfl, hb1⟩
          have HB := hide hb1
          clear hb1
          go_wp2_with fail
          refine (CN.out _).mono ?_
          rw [EN.out]
          rintro e v ⟨rfl, rfl⟩
          go_wp2_with fail
          refine (CD.out _).mono ?_
          rw [ED.out]
          rintro e v ⟨rfl, rfl⟩
          go_wp2_with fail
          refine (CN.out _).mono ?_
          rw [EN.out]
          rintro e v ⟨rfl, rfl⟩
          go_wp2_with fail
          go_ret
          exact ⟨by rw [HC.out]; rfl, HB.out⟩
end Go.Proofs.YthmmgjieppknkaaGreatDoor

namespace Go.Proofs.YthmmgjieppknkaaGreatDoor
open Go.RowKit MLab
set_option maxRecDepth 100000 in
set_option maxHeartbeats 2000000 in
theorem rqorder_any (w : World) (a b : ByteArray) (p q : Rat) (ha : a.data.toList = RT p) (hb : b.data.toList = RT q) {m : Nat} (hm : m ≤ 1000) (hp : Sz m m p) (hq : Sz m m q) :
    Calls Tryz.prog 36 #[.string a, .string b] w fun e w' => e = .returned (.int .i64 (p.num * q.den - q.num * p.den).sign) ∧ Below w.heap.size w w' := by
  have HC := hide (rcrossed_any w a b p q ha hb hm hp hq)
  have c1 := cross_lt hp hq
  have c2 := cross_lt hq hp
  have T1 := hide (rtwo_of (x := p.num * q.den) (y := q.num * p.den) (k := m + m + 1) (l := m + m + 1) ⟨by omega, by omega⟩ ⟨by omega, by omega⟩ (pow_up c1 (by omega)) (pow_up c2 (by omega)))
  have Z0 := hide (T_size_pow (s := ⟨(T (q.num * p.den)).toArray⟩) (z := q.num * p.den) (k := m + m + 1) rfl (by omega) (pow_up c2 (by omega)))
  clear c1 c2 ha hb hp hq
  go_enter Tryz.func36, Tryz.ntmps36
  go_wp2_with fail
  refine HC.out.mono ?_
  rintro e w1 ⟨⟨g, c, rfl, hblk⟩, hb1⟩
  have k0 : w1.cell? ⟨g, 0, none⟩ = some (.string ⟨(T (p.num * q.den)).toArray⟩) := (Blk.cell hblk 0).trans rfl
  have k1 : w1.cell? ⟨g, 1, none⟩ = some (.string ⟨(T (q.num * p.den)).toArray⟩) := (Blk.cell hblk 1).trans rfl
  have HB1 := hide hb1
  clear hblk hb1 HC
  have SK : ∀ w', Below w1.heap.size w1 w' → Below w1.heap.size w1 w' ∧ w'.cell? ⟨g, 0, none⟩ = some (.string ⟨(T (p.num * q.den)).toArray⟩) ∧ w'.cell? ⟨g, 1, none⟩ = some (.string ⟨(T (q.num * p.den)).toArray⟩) := fun w' h => ⟨h, (bcell h _ _ (block_lt_of_cell k0)).trans k0, (bcell h _ _ (block_lt_of_cell k1)).trans k1⟩
  go_upto_region 2 with (fail)
  go_region_held3 (fun w' => Below w1.heap.size w1 w' ∧ w'.cell? ⟨g, 0, none⟩ = some (.string ⟨(T (p.num * q.den)).toArray⟩) ∧ w'.cell? ⟨g, 1, none⟩ = some (.string ⟨(T (q.num * p.den)).toArray⟩)) (first | exact SK _ (Below.refl _ _).drew | exact SK _ (Below.refl _ _) | exact SK _ (bel_next (by assumption) (by assumption) (Nat.le_refl _)))
    (first
      | (go_at_call 71; refine (rorder_any _ _ _ _ _ T1.out (by have := Z0.out; omega)).mono ?_; rintro e wx ⟨rfl, hbW⟩))
  go_wp2_with fail
  go_ret
  exact ⟨rfl, HB1.out.trans (Below.mono (And.left (by assumption)) HB1.out.size)⟩
end Go.Proofs.YthmmgjieppknkaaGreatDoor

namespace Go.Proofs.YthmmgjieppknkaaGreatDoor
open Go.RowKit Go.Shelf MLab
def unitQ (q : Rat) : Int := if 0 ≤ q ∧ q ≤ 1 then 0 else 2
set_option maxRecDepth 100000 in
set_option maxHeartbeats 2000000 in
theorem unit_any (w : World) (a : ByteArray) (q : Rat) (ha : a.data.toList = RT q) (hq : Fit q) (hs : Std w) :
    Calls Tryz.prog 79 #[.string a] w fun e w' => e = .returned (.int .i64 (unitQ q)) ∧ Below w.heap.size w w' := by
  have HC := hide (rsignq_any w a q ha hq hs)
  have HD := hide (fun W (hS : Std W) => rcompare_any W a ⟨#[49]⟩ q 1 ha RT_one.symm hq fit_one hS)
  rw [cmp_one hq] at HD
  have HS := hide hs
  clear ha hq hs
  by_cases h1 : q.num.sign < 0
  · have hv : unitQ q = 2 := if_neg (fun h => num_sign.1 h1 h.1)
    rw [hv]
    obtain ⟨r, hr⟩ : ∃ r, q.num.sign = r := ⟨_, rfl⟩
    obtain ⟨s, hs1⟩ : ∃ s, (q.num - (q.den : Int)).sign = s := ⟨_, rfl⟩
    rw [hr] at HC
    rw [hs1] at HD
    rw [hr] at h1
    clear hr hs1 hv
    go_enter Tryz.func79, Tryz.ntmps79
    go_wp2_with fail
    refine HC.out.mono ?_
    rintro e w1 ⟨rfl, hb1⟩
    have HB := hide hb1
    clear hb1 HC
    go_wp2_with fail
    refine (HD.out _ (HS.out.below HB.out (Nat.le_refl _))).mono ?_
    rintro e w2 ⟨rfl, hb2⟩
    replace HB := hide (HB.out.trans (hb2.mono HB.out.size))
    clear hb2 HD
    go_wp2_with fail
    go_ret
    exact ⟨rfl, HB.out⟩
  · by_cases h2 : 0 < (q.num - (q.den : Int)).sign
    · have hv : unitQ q = 2 := if_neg (fun h => one_sign.1 h2 h.2)
      rw [hv]
      obtain ⟨r, hr⟩ : ∃ r, q.num.sign = r := ⟨_, rfl⟩
      obtain ⟨s, hs1⟩ : ∃ s, (q.num - (q.den : Int)).sign = s := ⟨_, rfl⟩
      rw [hr] at HC
      rw [hs1] at HD
      rw [hr] at h1
      rw [hs1] at h2
      clear hr hs1 hv
      go_enter Tryz.func79, Tryz.ntmps79
      go_wp2_with fail
      refine HC.out.mono ?_
      rintro e w1 ⟨rfl, hb1⟩
      have HB := hide hb1
      clear hb1 HC
      go_wp2_with fail
      refine (HD.out _ (HS.out.below HB.out (Nat.le_refl _))).mono ?_
      rintro e w2 ⟨rfl, hb2⟩
      replace HB := hide (HB.out.trans (hb2.mono HB.out.size))
      clear hb2 HD
      go_wp2_with fail
      go_ret
      exact ⟨rfl, HB.out⟩
    · have hv : unitQ q = 0 := if_pos ⟨Classical.not_not.1 (fun h => h1 (num_sign.2 h)), Classical.not_not.1 (fun h => h2 (one_sign.2 h))⟩
      rw [hv]
      obtain ⟨r, hr⟩ : ∃ r, q.num.sign = r := ⟨_, rfl⟩
      obtain ⟨s, hs1⟩ : ∃ s, (q.num - (q.den : Int)).sign = s := ⟨_, rfl⟩
      rw [hr] at HC
      rw [hs1] at HD
      rw [hr] at h1
      rw [hs1] at h2
      clear hr hs1 hv
      go_enter Tryz.func79, Tryz.ntmps79
      go_wp2_with fail
      refine HC.out.mono ?_
      rintro e w1 ⟨rfl, hb1⟩
      have HB := hide hb1
      clear hb1 HC
      go_wp2_with fail
      refine (HD.out _ (HS.out.below HB.out (Nat.le_refl _))).mono ?_
      rintro e w2 ⟨rfl, hb2⟩
      replace HB := hide (HB.out.trans (hb2.mono HB.out.size))
      clear hb2 HD
      go_wp2_with fail
      go_ret
      exact ⟨rfl, HB.out⟩
theorem unit_parts {q : Rat} (h0 : 0 ≤ q) (h1 : q ≤ 1) : ∃ x y : Nat, q.num = (x : Int) ∧ q.den = x + y ∧ (1 - q).num = (y : Int) ∧ (1 - q).den = x + y := by
  have hn : 0 ≤ q.num := Rat.num_nonneg.2 h0
  have hd : q.num ≤ (q.den : Int) := by
    have h := (Rat.le_iff _ _).1 h1
    simpa using h
  obtain ⟨x, hx⟩ : ∃ x : Nat, q.num = (x : Int) := ⟨q.num.toNat, by omega⟩
  obtain ⟨y, hy⟩ : ∃ y : Nat, q.den = x + y := ⟨q.den - x, by omega⟩
  have hc : Nat.Coprime ((y : Int).natAbs) q.den := by
    have h := q.reduced
    rw [hx] at h
    rw [Int.natAbs_natCast] at h ⊢
    rw [hy] at h ⊢
    have h2 : Nat.gcd x (x + y) = 1 := h
    show Nat.gcd y (x + y) = 1
    rw [Nat.gcd_add_self_right, Nat.gcd_comm]
    rwa [Nat.add_comm x y, Nat.gcd_add_self_right] at h2
  have hr : (⟨(y : Int), q.den, q.den_nz, hc⟩ : Rat) = 1 - q := by
    rw [← sub_divInt, Rat.mk_eq_divInt]
    rw [show (1 : Rat).num = 1 from rfl, show (1 : Rat).den = 1 from rfl, hx]
    congr 1
    · omega
    · omega
  exact ⟨x, y, hx, hy, by rw [← hr], by rw [← hr]; exact hy⟩
theorem divi_sz {a b m : Nat} (hb : b ≠ 0) (ha : a < 10 ^ m) (hbm : b ≤ 10 ^ m) : Sz m m (Rat.divInt (a : Int) (b : Int)) := by
  have h := low_le (a : Int) (y := (b : Int)) (by omega)
  rw [Int.natAbs_natCast, Int.natAbs_natCast] at h
  exact ⟨Nat.lt_of_le_of_lt h.1 ha, Nat.le_trans h.2 hbm⟩
theorem powle {x d k n : Nat} (hx : x ≤ 10 ^ d) (hk : k ≤ n) : x ^ k ≤ 10 ^ (d * n) :=
  Nat.le_trans (Nat.pow_le_pow_left hx k) (by rw [← Nat.pow_mul]; exact Nat.pow_le_pow_right (by omega) (Nat.mul_le_mul_left d hk))
theorem term_le (f : Nat → Nat) {i n : Nat} (h : i < n) : f i ≤ sumN f n := by
  have h1 := sumN_mono f (a := i + 1) (b := n) (by omega)
  have h2 : sumN f (i + 1) = sumN f i + f i := rfl
  omega
theorem proterm_le {x y N k : Nat} (hk : k ≤ N) : bin N k * (x ^ k * y ^ (N - k)) ≤ (x + y) ^ N := by
  rw [← proN_all]
  exact term_le (fun k => bin N k * (x ^ k * y ^ (N - k))) (by omega)
theorem pow_two_mul (a b : Nat) : 10 ^ a * 10 ^ b = 10 ^ (a + b) := (Nat.pow_add 10 a b).symm
set_option maxRecDepth 100000 in
set_option maxHeartbeats 4000000 in
theorem powN_any (w : World) (x n d : Nat) (hx : x ≤ 10 ^ d) (hd0 : d < 1024) (hd : d * n < 1024) (hn : n ≤ 4096) (hs : Std w) :
    Calls Tryz.prog 82 #[tx ((x : Nat) : Int), .int .i64 (n : Int)] w fun e w' => e = .returned (.tuple #[tx ((x ^ n : Nat) : Int), .int .i64 0]) ∧ Below w.heap.size w w' := by
  have HS := hide hs
  have hn0 : ¬ (n : Int) < 0 := by omega
  have hn1 : ¬ 4096 < (n : Int) := by omega
  have hB : ∀ j, j ≤ n → ((x ^ j : Nat) : Int).natAbs < Big := fun j hj => by rw [Int.natAbs_natCast]; exact big_of_le (powle hx hj) hd
  have hxB : ((x : Nat) : Int).natAbs < Big := by rw [Int.natAbs_natCast]; exact big_of_le hx hd0
  have HB := hide hB
  have HXB := hide hxB
  have HC := hide (check_any ⟨(T ((x : Nat) : Int)).toArray⟩ _ rfl (by have := T_size (s := ⟨(T ((x : Nat) : Int)).toArray⟩) (z := ((x : Nat) : Int)) rfl hxB; omega) w)
  rw [chk_T, if_pos hxB] at HC
  have H1 : Hid (Value.string ⟨#[49]⟩ = tx ((x ^ 0 : Nat) : Int)) := hide (by rw [Nat.pow_zero]; exact tx_one.symm)
  obtain ⟨R, hR⟩ : ∃ R, x ^ n = R := ⟨_, rfl⟩
  rw [hR]
  have HR := hide hR
  clear hs hx hd hd0 hB hxB hR
  go_enter Tryz.func82, Tryz.ntmps82
  go_wp2_with fail
  refine HC.out.mono ?_
  rintro e w1 ⟨rfl, hb0⟩
  have HB0 := hide hb0
  clear hb0 HC
  go_wp2_with fail
  go_loopg [7, 21] n (fun q ov iv wr => ∃ j : Nat, iv = .int .i64 (j : Int) ∧ q + j = n ∧ ov = tx ((x ^ j : Nat) : Int) ∧ Below w.heap.size w wr)
  case atStart => exact ⟨0, rfl, by omega, H1.out, HB0.out⟩
  case round =>
    obtain ⟨j, rfl, hq, rfl, hb⟩ := hrel
    have HQ := hide hq
    have HW := hide hb
    have hjK : j ≤ n := by omega
    clear hq hb
    by_cases hlt : j < n
    · have hji : (j : Int) < (n : Int) := by omega
      have C1 := hide (fun W (hS : Std W) => mulT_any W ((x ^ j : Nat) : Int) ((x : Nat) : Int) (HB.out j hjK) HXB.out (by rw [← Int.natCast_mul, ← Nat.pow_succ]; exact HB.out (j + 1) (by omega)) hS)
      rw [← Int.natCast_mul, ← Nat.pow_succ] at C1
      obtain ⟨s, hs1⟩ : ∃ s, x ^ j = s := ⟨_, rfl⟩
      obtain ⟨t, ht⟩ : ∃ t, x ^ (j + 1) = t := ⟨_, rfl⟩
      rw [show j.succ = j + 1 from rfl, ht] at C1
      rw [hs1] at C1 ⊢
      have HT := hide ht
      clear ht hs1
      go_wp2_with fail
      refine (C1.out _ (HS.out.below HW.out (Nat.le_refl _))).mono ?_
      rintro e w2 ⟨rfl, hb1⟩
      replace HW := hide (HW.out.trans (hb1.mono HW.out.size))
      clear hb1 C1
      go_wp2_with fail
      go_roundg (gk - 1)
      case measure => have := HQ.out; omega
      case rel => exact ⟨j + 1, by go_num, by have := HQ.out; omega, by rw [← HT.out], HW.out⟩
    · have hji : ¬ (j : Int) < (n : Int) := by omega
      obtain rfl : j = n := by omega
      obtain ⟨s, hs1⟩ : ∃ s, x ^ j = s := ⟨_, rfl⟩
      rw [hs1]
      have HS1 := hide hs1
      clear hs1
      go_wp2_with fail
      go_ret2
      obtain rfl : s = R := HS1.out.symm.trans HR.out
      exact ⟨rfl, HW.out⟩
set_option maxRecDepth 100000 in
set_option maxHeartbeats 4000000 in
theorem binom1_any (w : World) (N C x y d k b1 b2 b3 : Nat) (h1 : Blk w b1 91 #[.int .i64 (N : Int), .int .i64 (C : Int)]) (h2 : Blk w b2 116 #[tx ((x : Nat) : Int)]) (h3 : Blk w b3 116 #[tx ((y : Nat) : Int)]) (hxy : x + y ≤ 10 ^ d) (hd : d * N ≤ 1000) (h1N : 1 ≤ N) (hk : k ≤ N) (hN : N ≤ 64) (hs : Std w) :
    Calls Tryz.prog 84 #[.int .i64 (k : Int), .pointer (some ⟨b1, 0, none⟩), .pointer (some ⟨b2, 0, none⟩), .pointer (some ⟨b3, 0, none⟩)] w fun e w' => e = .returned (.tuple #[tx ((bin N k * (x ^ k * y ^ (N - k)) : Nat) : Int), .int .i64 0]) ∧ Below w.heap.size w w' := by
  have HS := hide hs
  have hw : IntKind.i64.wrap ((N : Int) - (k : Int)) = ((N - k : Nat) : Int) := (IntWalk.i64_in _ (by omega)).trans (by omega)
  have s1 := bin64 (n := N) (k := k) hN
  have s2 : x ^ k ≤ 10 ^ (d * N) := powle (by omega) hk
  have s3 : y ^ (N - k) ≤ 10 ^ (d * N) := powle (by omega) (by omega)
  have s4 := proterm_le (x := x) (y := y) hk
  have s5 : (x + y) ^ N ≤ 10 ^ (d * N) := powle hxy (Nat.le_refl _)
  have s6 := pow_two_mul (d * N) 21
  have hdm : d * k ≤ d * N := Nat.mul_le_mul_left d hk
  have hdm2 : d * (N - k) ≤ d * N := Nat.mul_le_mul_left d (by omega)
  have hd1 : d ≤ d * N := Nat.le_mul_of_pos_right d h1N
  have C1 := hide (fun W (hS : Std W) => chosen_any W N k hN (by omega) hS)
  have C2 := hide (fun W (hS : Std W) => powN_any W x k d (by omega) (by omega) (by omega) (by omega) hS)
  have C3 := hide (fun W (hS : Std W) => powN_any W y (N - k) d (by omega) (by omega) (by omega) (by omega) hS)
  obtain ⟨A, hA⟩ : ∃ A, bin N k = A := ⟨_, rfl⟩
  obtain ⟨B, hB⟩ : ∃ B, x ^ k = B := ⟨_, rfl⟩
  obtain ⟨D, hD⟩ : ∃ D, y ^ (N - k) = D := ⟨_, rfl⟩
  rw [hA] at C1 s1 s4 ⊢
  rw [hB] at C2 s2 s4 ⊢
  rw [hD] at C3 s3 s4 ⊢
  clear hA hB hD
  obtain ⟨E, hE⟩ : ∃ E, 10 ^ (d * N) = E := ⟨_, rfl⟩
  have p20 : (10 : Nat) ^ 20 * 10 = 10 ^ 21 := by decide
  have hE1 : 1 ≤ E := by rw [← hE]; exact Nat.one_le_pow _ _ (by omega)
  rw [hE] at s2 s3 s5 s6
  obtain ⟨F, hF⟩ : ∃ F, (10 : Nat) ^ 20 = F := ⟨_, rfl⟩
  have hF1 : 1 ≤ F := by rw [← hF]; decide
  obtain ⟨G, hG⟩ : ∃ G, (10 : Nat) ^ (d * N + 21) = G := ⟨_, rfl⟩
  rw [← p20, hF] at s6
  rw [hF] at s1
  have t0 : E * (F * 10) = 10 * (E * F) := by rw [Nat.mul_comm F 10, Nat.mul_left_comm]
  have t1 : A * B ≤ F * E := Nat.mul_le_mul (by omega) s2
  have t2 : F ≤ E * F := Nat.le_mul_of_pos_left F (by omega)
  have t3 : E ≤ E * F := Nat.le_mul_of_pos_right E (by omega)
  rw [Nat.mul_comm F E] at t1
  rw [hG, t0] at s6
  have t4 : A * B * D < G := by rw [Nat.mul_assoc]; omega
  have C4 := hide (fun W g (hg : Blk W g 116 #[tx ((A : Nat) : Int), tx ((B : Nat) : Int), tx ((D : Nat) : Int)]) (hS : Std W) => product3_any W g 3 (d * N + 21) ((A : Nat) : Int) ((B : Nat) : Int) ((D : Nat) : Int) hg (by omega) (by rw [hG, Int.natAbs_natCast]; omega) (by rw [hG, Int.natAbs_natCast]; omega) (by rw [hG, Int.natAbs_natCast]; omega) (by rw [hG, ← Int.natCast_mul, Int.natAbs_natCast]; omega) (by rw [hG, ← Int.natCast_mul, ← Int.natCast_mul, Int.natAbs_natCast]; exact t4) hS)
  rw [← Int.natCast_mul, ← Int.natCast_mul, Nat.mul_assoc] at C4
  clear s1 s2 s3 s4 s5 s6 hdm hdm2 hd1 hE hE1 p20 hF hF1 hG t0 t1 t2 t3 t4 hxy hd
  obtain ⟨R, hR⟩ : ∃ R, A * (B * D) = R := ⟨_, rfl⟩
  rw [hR] at C4 ⊢
  clear hR
  have HB := hide (Below.refl w.heap.size w)
  have K_p := hide h1
  have K_x := hide h2
  have K_y := hide h3
  clear h1 h2 h3 hs
  go_enter Tryz.func84, Tryz.ntmps84
  have p0 := (Blk.cell K_p.out 0).trans (rfl : _ = some (Value.int .i64 (N : Int)))
  have p1 := (Blk.cell K_p.out 1).trans (rfl : _ = some (Value.int .i64 (C : Int)))
  go_wp2_with fail
  refine (C1.out _ (HS.out.below HB.out (Nat.le_refl _))).mono ?_
  rintro e w1 ⟨rfl, hb⟩
  clear p0 p1
  replace K_p := hide (Blk.below K_p.out hb (Blk.lt K_p.out))
  replace K_x := hide (Blk.below K_x.out hb (Blk.lt K_x.out))
  replace K_y := hide (Blk.below K_y.out hb (Blk.lt K_y.out))
  replace HB := hide (HB.out.trans (hb.mono HB.out.size))
  clear hb
  have x0 := (Blk.cell K_x.out 0).trans (rfl : _ = some (tx ((x : Nat) : Int)))
  go_wp2_with fail
  refine (C2.out _ (HS.out.below HB.out (Nat.le_refl _))).mono ?_
  rintro e w2 ⟨rfl, hb⟩
  clear x0
  replace K_p := hide (Blk.below K_p.out hb (Blk.lt K_p.out))
  replace K_x := hide (Blk.below K_x.out hb (Blk.lt K_x.out))
  replace K_y := hide (Blk.below K_y.out hb (Blk.lt K_y.out))
  replace HB := hide (HB.out.trans (hb.mono HB.out.size))
  clear hb
  have p0 := (Blk.cell K_p.out 0).trans (rfl : _ = some (Value.int .i64 (N : Int)))
  have p1 := (Blk.cell K_p.out 1).trans (rfl : _ = some (Value.int .i64 (C : Int)))
  have y0 := (Blk.cell K_y.out 0).trans (rfl : _ = some (tx ((y : Nat) : Int)))
  go_wp2_with fail
  refine (C3.out _ (HS.out.below HB.out (Nat.le_refl _))).mono ?_
  rintro e w3 ⟨rfl, hb⟩
  clear p0 p1 y0
  replace K_p := hide (Blk.below K_p.out hb (Blk.lt K_p.out))
  replace K_x := hide (Blk.below K_x.out hb (Blk.lt K_x.out))
  replace K_y := hide (Blk.below K_y.out hb (Blk.lt K_y.out))
  replace HB := hide (HB.out.trans (hb.mono HB.out.size))
  clear hb
  go_wp2_with fail
  have K_m := Blk.new w3 116 #[tx ((A : Nat) : Int), tx ((B : Nat) : Int), tx ((D : Nat) : Int)]
  replace HB := hide (HB.out.alloc HB.out.size (.cells #[tx ((A : Nat) : Int), tx ((B : Nat) : Int), tx ((D : Nat) : Int)] 116))
  clear K_p K_x K_y
  generalize w3.alloc (.cells #[tx ((A : Nat) : Int), tx ((B : Nat) : Int), tx ((D : Nat) : Int)] 116) = wb at *
  refine (C4.out _ _ K_m (HS.out.below HB.out (Nat.le_refl _))).mono ?_
  rintro e w9 ⟨rfl, hb⟩
  replace HB := hide (HB.out.trans (hb.mono HB.out.size))
  clear hb K_m
  go_wp2_with fail
  go_ret2
  exact ⟨rfl, HB.out⟩
end Go.Proofs.YthmmgjieppknkaaGreatDoor

namespace Go.Proofs.YthmmgjieppknkaaGreatDoor
open Go.RowKit Go.Shelf MLab
set_option maxRecDepth 100000 in
set_option maxHeartbeats 8000000 in
theorem plBin_any (w : World) (N C x y d : Nat) (a : ByteArray) (q : Rat) (ha : a.data.toList = RT q) (hn : q.num = (x : Int)) (hden : q.den = x + y) (hxy : x + y ≤ 10 ^ d) (hdN : d * N ≤ 1000) (h1N : 1 ≤ N) (hC : C ≤ N) (hN : N ≤ 64) (hs : Std w) :
    Calls Tryz.prog 46 #[.agg #[.int .i64 (N : Int), .int .i64 (C : Int)], .string a] w fun e w' => RetRat (proQ x y N C) e ∧ Below w.heap.size w w' := by
  have HS := hide hs
  have h01 : x + y ≤ 10 ^ (d * N) := Nat.le_trans hxy (Nat.pow_le_pow_right (by omega) (Nat.le_mul_of_pos_right d h1N))
  have hd1 : d ≤ d * N := Nat.le_mul_of_pos_right d h1N
  have hxyp : 0 < x + y := by rw [← hden]; exact Nat.pos_of_ne_zero q.den_nz
  have hqF : Fit q := ⟨by rw [hn, Int.natAbs_natCast]; exact big_of_le (k := d) (by omega) (by omega), by rw [hden]; exact big_of_le (k := d) hxy (by omega)⟩
  have hyB : ((y : Nat) : Int).natAbs < Big := by rw [Int.natAbs_natCast]; exact big_of_le (k := d) (by omega) (by omega)
  have hxB : ((x : Nat) : Int).natAbs < Big := by rw [Int.natAbs_natCast]; exact big_of_le (k := d) (by omega) (by omega)
  have hxyB : ((x + y : Nat) : Int).natAbs < Big := by rw [Int.natAbs_natCast]; exact big_of_le (k := d) hxy (by omega)
  have hu : unitQ q = 0 := if_pos ⟨Rat.num_nonneg.1 (by omega), by rw [Rat.le_iff, hn, hden]; simp; omega⟩
  have HC := hide (fun W => plck_any W (N : Int) (C : Int))
  rw [ckP_zero.2 (by omega)] at HC
  have HU := hide (fun W (hS : Std W) => unit_any W a q ha hqF hS)
  rw [hu] at HU
  have HP := hide (fun W (hS : Std W) => rparts_any W a q ha hqF hS)
  rw [hn, hden] at HP
  have HD := hide (fun W (hS : Std W) => subT_any W ((x + y : Nat) : Int) ((x : Nat) : Int) hxyB hxB (by rw [show ((x + y : Nat) : Int) - (x : Int) = (y : Int) by omega]; exact hyB) hS)
  rw [show ((x + y : Nat) : Int) - (x : Int) = (y : Int) by omega] at HD
  have HPW := hide (fun W (hS : Std W) => powN_any W (x + y) N d hxy (by omega) (by omega) (by omega) hS)
  have hal : (((x + y) ^ N : Nat) : Int).natAbs < Big := by rw [Int.natAbs_natCast]; exact big_of_le (powle hxy (Nat.le_refl _)) (by omega)
  have HAL := hide hal
  have hal0 : (((x + y) ^ N : Nat) : Int) ≠ 0 := by have := Nat.pow_pos (n := N) hxyp; omega
  have HAL0 := hide hal0
  have hsm : sumN (fun k => bin N k * (x ^ k * y ^ (N - k))) (C + 1) < 10 ^ (d * N + 1) := by
    have h1 := proN_lt (x := x) (y := y) hC
    have h2 : (x + y) ^ N ≤ 10 ^ (d * N) := powle hxy (Nat.le_refl _)
    have h3 : (10 : Nat) ^ (d * N) < 10 ^ (d * N + 1) := Nat.pow_lt_pow_right (by omega) (by omega)
    unfold proN at h1
    omega
  have HSM := hide hsm
  have HQ : Hid (proQ x y N C = Rat.divInt ((sumN (fun k => bin N k * (x ^ k * y ^ (N - k))) (C + 1) : Nat) : Int) (((x + y) ^ N : Nat) : Int)) := hide rfl
  have HXY := hide hxy
  have HDN := hide hdN
  obtain ⟨dn, hdn⟩ : ∃ dn, x + y = dn := ⟨_, rfl⟩
  rw [hdn] at HP HD HPW HAL HAL0 HQ
  obtain ⟨AL, hAL⟩ : ∃ AL : Int, ((dn ^ N : Nat) : Int) = AL := ⟨_, rfl⟩
  rw [hAL] at HPW HAL HAL0 HQ
  clear hdn hAL
  clear hs h01 hd1 hqF hyB hxB hxyB hu hal hal0 hsm ha hn hden hxyp hdN hxy
  have HB := allocs_below w [.cells #[.int .i64 (N : Int), .int .i64 (C : Int)] 91]
  have K_p : Blk (allocs w [.cells #[.int .i64 (N : Int), .int .i64 (C : Int)] 91]) (w.heap.size + 0) 91 #[.int .i64 (N : Int), .int .i64 (C : Int)] := allocs_at w [.cells #[.int .i64 (N : Int), .int .i64 (C : Int)] 91] 0 rfl
  unfold allocs at HB K_p
  simp only [List.foldl_cons, List.foldl_nil] at HB K_p
  rw [Nat.add_zero] at K_p
  go_enter Tryz.func46, Tryz.ntmps46
  go_upto_region 1 with (fail)
  generalize (w.alloc (.cells #[.int .i64 (N : Int), .int .i64 (C : Int)] 91)) = w0 at *
  replace K_p := hide K_p
  replace HB := hide HB
  have p0 := (Blk.cell K_p.out 0).trans (rfl : _ = some (Value.int .i64 (N : Int)))
  have p1 := (Blk.cell K_p.out 1).trans (rfl : _ = some (Value.int .i64 (C : Int)))
  go_wp2_with fail
  refine (HC.out _).mono ?_
  rintro e w1 ⟨rfl, hb⟩
  clear p0 p1
  replace K_p := hide (Blk.below K_p.out hb (Blk.lt K_p.out))
  replace HB := hide (HB.out.trans (hb.mono HB.out.size))
  clear hb
  go_wp2_with fail
  refine (HU.out _ (HS.out.below HB.out (Nat.le_refl _))).mono ?_
  rintro e w2 ⟨rfl, hb⟩
  replace K_p := hide (Blk.below K_p.out hb (Blk.lt K_p.out))
  replace HB := hide (HB.out.trans (hb.mono HB.out.size))
  clear hb
  go_wp2_with fail
  refine (HP.out _ (HS.out.below HB.out (Nat.le_refl _))).mono ?_
  rintro e w3 ⟨rfl, hb⟩
  replace K_p := hide (Blk.below K_p.out hb (Blk.lt K_p.out))
  replace HB := hide (HB.out.trans (hb.mono HB.out.size))
  clear hb
  go_upto_region 8 with (fail)
  have lt_x_p : w.heap.size < w3.heap.size := Blk.lt K_p.out
  replace K_p := K_p.out.alloc (.cells #[.string ⟨(T ((x : Nat) : Int)).toArray⟩] 116)
  replace HB := HB.out.alloc HB.out.size (.cells #[.string ⟨(T ((x : Nat) : Int)).toArray⟩] 116)
  have K_x := Blk.new w3 116 #[.string ⟨(T ((x : Nat) : Int)).toArray⟩]
  generalize w3.alloc (.cells #[.string ⟨(T ((x : Nat) : Int)).toArray⟩] 116) = wb at *
  replace K_p := hide K_p
  replace K_x := hide K_x
  replace HB := hide HB
  have x0 := (Blk.cell K_x.out 0).trans (rfl : _ = some (Value.string ⟨(T ((x : Nat) : Int)).toArray⟩))
  go_wp2_with fail
  refine (HD.out _ (HS.out.below HB.out (Nat.le_refl _))).mono ?_
  rintro e w4 ⟨rfl, hb⟩
  clear x0
  replace K_p := hide (Blk.below K_p.out hb (Blk.lt K_p.out))
  replace K_x := hide (Blk.below K_x.out hb (Blk.lt K_x.out))
  replace HB := hide (HB.out.trans (hb.mono HB.out.size))
  clear hb
  go_upto_region 11 with (fail)
  have lt_y_p : w.heap.size < w4.heap.size := Blk.lt K_p.out
  have lt_y_x : w3.heap.size < w4.heap.size := Blk.lt K_x.out
  replace K_p := K_p.out.alloc (.cells #[.string ⟨(T ((y : Nat) : Int)).toArray⟩] 116)
  replace K_x := K_x.out.alloc (.cells #[.string ⟨(T ((y : Nat) : Int)).toArray⟩] 116)
  replace HB := HB.out.alloc HB.out.size (.cells #[.string ⟨(T ((y : Nat) : Int)).toArray⟩] 116)
  have K_y := Blk.new w4 116 #[.string ⟨(T ((y : Nat) : Int)).toArray⟩]
  generalize w4.alloc (.cells #[.string ⟨(T ((y : Nat) : Int)).toArray⟩] 116) = wd at *
  replace K_p := hide K_p
  replace K_x := hide K_x
  replace K_y := hide K_y
  replace HB := hide HB
  have p0 := (Blk.cell K_p.out 0).trans (rfl : _ = some (Value.int .i64 (N : Int)))
  have p1 := (Blk.cell K_p.out 1).trans (rfl : _ = some (Value.int .i64 (C : Int)))
  go_wp2_with fail
  refine (HPW.out _ (HS.out.below HB.out (Nat.le_refl _))).mono ?_
  rintro e w5 ⟨rfl, hb⟩
  clear p0 p1
  replace K_p := hide (Blk.below K_p.out hb (Blk.lt K_p.out))
  replace K_x := hide (Blk.below K_x.out hb (Blk.lt K_x.out))
  replace K_y := hide (Blk.below K_y.out hb (Blk.lt K_y.out))
  replace HB := hide (HB.out.trans (hb.mono HB.out.size))
  clear hb
  have HCT := hide (total_any w5 C (d * N + 1) AL 84 #[.pointer (some ⟨w.heap.size, 0, none⟩), .pointer (some ⟨w3.heap.size, 0, none⟩), .pointer (some ⟨w4.heap.size, 0, none⟩)] (enters_of Tryz.func84 (by kernel_rfl) rfl) (fun k => bin N k * (x ^ k * y ^ (N - k))) (fun k hk W' hb => binom1_any W' N C x y d k _ _ _ (Blk.below K_p.out hb (Blk.lt K_p.out)) (Blk.below K_x.out hb (Blk.lt K_x.out)) (Blk.below K_y.out hb (Blk.lt K_y.out)) HXY.out HDN.out h1N (by omega) hN ((HS.out.below HB.out (Nat.le_refl _)).below hb (Nat.le_refl _))) (by have := HDN.out; omega) HSM.out HAL0.out HAL.out (by omega) (HS.out.below HB.out (Nat.le_refl _)))
  have p0 := (Blk.cell K_p.out 0).trans (rfl : _ = some (Value.int .i64 (N : Int)))
  have p1 := (Blk.cell K_p.out 1).trans (rfl : _ = some (Value.int .i64 (C : Int)))
  go_wp2_with fail
  refine HCT.out.mono ?_
  rintro e w19 ⟨rfl, hb⟩
  clear HCT
  clear p0 p1
  replace K_p := hide (Blk.below K_p.out hb (Blk.lt K_p.out))
  replace K_x := hide (Blk.below K_x.out hb (Blk.lt K_x.out))
  replace K_y := hide (Blk.below K_y.out hb (Blk.lt K_y.out))
  replace HB := hide (HB.out.trans (hb.mono HB.out.size))
  clear hb
  go_wp2_with fail
  go_ret2
  exact ⟨by rw [HQ.out]; rfl, HB.out⟩
end Go.Proofs.YthmmgjieppknkaaGreatDoor
