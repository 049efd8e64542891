/- Contracts and plain laws that the statements of this seat share (part Thac). -/
import Derived.Test.YthmmgjieppknkaaGreatDoorKtaa
import Derived.Test.YthmmgjieppknkaaGreatDoorKtab
import Derived.Test.YthmmgjieppknkaaGreatDoorKtac
import Derived.Test.YthmmgjieppknkaaGreatDoorKtad
import Derived.Test.YthmmgjieppknkaaGreatDoorKtai
import Derived.Test.YthmmgjieppknkaaGreatDoorKtal
import Derived.Test.YthmmgjieppknkaaGreatDoorKtam
import Derived.Test.YthmmgjieppknkaaGreatDoorKtas
import Derived.Test.YthmmgjieppknkaaGreatDoorKtat
import Derived.Test.YthmmgjieppknkaaGreatDoorKtau
import Derived.Deep.RegionWith
import Derived.Deep.RegionLaw
import Derived.RegionTactic
import Derived.Laws.Tables
import Derived.Test.YthmmgjieppknkaaGreatDoorChecked
import Derived.WalkKit
import Derived.WalkSpells
import Derived.WalkLawsBesides
import Derived.Lib.Hide
import Derived.IntWalk
import Derived.BigQuiet
import Derived.Deep.QuietTactic
import Derived.Deep.LoopGhost
import Derived.Deep.DeepCutAuto
import Derived.Deep.DeepFit
import Derived.Deep.Light
import Derived.Outline
import Derived.Laws.Rows
import Derived.Laws.NewBlocks
import Derived.Laws.CopyOwn
import Derived.Lib.ItoaNum
import Derived.Lib.ItoaLen
import Derived.Lib.Atoi
import Derived.Lib.AtoiAll
import Derived.Lib.Strings
import Derived.Lib.SlTrimSet
import Derived.Lib.Builder
import Derived.Lib.AppendStr
import Derived.Laws.Externs
import Derived.WalkSmall
import Derived.Lib.AtoiErrMem
import Derived.Shelf.Strings.SlTrimAscii
import Derived.Shelf.Strings.Builder1
import Derived.Shelf.Strings.Trim
import Derived.Shelf.Small.Utf8
import Derived.Shelf.Small.Strs
import Derived.Shelf.Strings.BuilderF
import Derived.Shelf.Strings.BuilderK
import Derived.Shelf.Strconv.Atoi
import Derived.Shelf.Strconv.Itoa0
import Derived.Shelf.Strconv.Itoa1
import Derived.Shelf.LaysM
import Derived.Shelf.Strconv.Itoa2
import Derived.Shelf.Strconv.Itoa3
import Derived.Shelf.Strings.Search1
import Derived.Shelf.Strings.Search2
import Derived.Shelf.Strings.Cut
import Derived.Shelf.Strings.Shaped
import Derived.Shelf.Strings.Prefix
import Derived.Shelf.Unicode.Decode
import Derived.Shelf.Strings.Runes
import Derived.Shelf.Strings.AsciiSet
import Derived.Shelf.Bits.Mul64
import Derived.Shelf.Unicode.DecodeSlow
import Derived.Shelf.Unicode.DecodeAny
import Derived.Shelf.Unicode.DecodeLast
import Derived.Ground.Names2Prog
import Derived.Shelf.Slices.Clone
import Derived.Ground.SlgnProg
import Derived.Shelf.SlicesE.Clone
import Derived.Test.YthmmgjieppknkaaGreatDoorProg
namespace Go.Proofs.YthmmgjieppknkaaGreatDoor
open Go.RowKit MLab
theorem subT_any (w : World) (x y : Int) (hx : x.natAbs < Big) (hy : y.natAbs < Big) (hz : (x - y).natAbs < Big) (hs : Std w) :
    Calls Tryz.prog 81 #[tx x, tx y] w fun e w' => e = .returned (.tuple #[tx (x - y), .int .i64 0]) ∧ Below w.heap.size w w' := by
  refine (sub_any w _ _ x y (twoT hx hy) hs).mono ?_
  rintro e w' ⟨h, hb⟩
  rw [lim_ok hz] at h
  exact ⟨h, hb⟩
end Go.Proofs.YthmmgjieppknkaaGreatDoor

namespace MLab
open Go.Lib
theorem val_drop_zero {l : List UInt8} {k : Nat} (h : l[k]? = some 48) : val (l.drop (k + 1)) = val (l.drop k) := by
  have hk : k < l.length := by
    rcases Nat.lt_or_ge k l.length with h1 | h1
    · exact h1
    · rw [List.getElem?_eq_none h1] at h; cases h
  rw [List.drop_eq_getElem_cons hk, val_cons]
  have : l[k] = 48 := by rw [List.getElem?_eq_getElem hk] at h; simpa using h
  rw [this]; simp
theorem val_cons_zero (t : List UInt8) : val (48 :: t) = val t := by rw [val_cons]; simp
theorem val_zeros (k : Nat) (t : List UInt8) : val (List.replicate k 48 ++ t) = val t := by
  induction k with
  | zero => rfl
  | succ k ih => rw [List.replicate_succ, List.cons_append, val_cons_zero, ih]
theorem dig_zeros (k : Nat) : Dig (List.replicate k 48) := fun b hb => by
  rw [List.eq_of_mem_replicate hb]; decide
def wideL (l : List UInt8) (n : Nat) : List UInt8 := List.replicate (n - l.length) 48 ++ l
theorem wideL_length {l : List UInt8} {n : Nat} (h : l.length ≤ n) : (wideL l n).length = n := by
  rw [wideL, List.length_append, List.length_replicate]; omega
theorem wideL_dig {l : List UInt8} (h : Dig l) (n : Nat) : Dig (wideL l n) := (dig_zeros _).append h
theorem val_wideL (l : List UInt8) (n : Nat) : val (wideL l n) = val l := val_zeros _ _
theorem val_drop {l : List UInt8} {k : Nat} (h : k < l.length) : val (l.drop k) = (l[k].toNat - 48) * 10 ^ (l.length - (k + 1)) + val (l.drop (k + 1)) := by
  rw [List.drop_eq_getElem_cons h, val_cons, List.length_drop]
theorem dval_drop {l : List UInt8} : ∀ (k i : Nat), i + k = l.length → dval (dg l) i k = val (l.drop i)
  | 0, i, h => by rw [List.drop_of_length_le (by omega)]; rfl
  | k + 1, i, h => by
    rw [dval, dval_drop k (i + 1) (by omega), val_drop (show i < l.length by omega), dg_at (show i < l.length by omega), show l.length - (i + 1) = k by omega]
def drow (d : Nat → Nat) (n : Nat) : List UInt8 := (List.range n).map fun i => UInt8.ofNat (48 + d i)
theorem drow_length (d : Nat → Nat) (n : Nat) : (drow d n).length = n := by simp [drow]
theorem drow_at (d : Nat → Nat) {n i : Nat} (h : i < n) : (drow d n)[i]? = some (UInt8.ofNat (48 + d i)) := by
  simp [drow, List.getElem?_map, List.getElem?_range h]
theorem drow_dig {d : Nat → Nat} {n : Nat} (h : ∀ i, i < n → d i ≤ 9) : Dig (drow d n) := fun b hb => by
  obtain ⟨i, hi, rfl⟩ := List.mem_map.1 hb
  have := h i (List.mem_range.1 hi)
  rw [ofNat_toNat (by omega)]; omega
theorem dg_drow {d : Nat → Nat} {n i : Nat} (hi : i < n) (h : d i ≤ 9) : dg (drow d n) i = d i := by
  rw [dg_at (by rw [drow_length]; exact hi)]
  have := drow_at d hi
  rw [List.getElem?_eq_getElem (by rw [drow_length]; exact hi)] at this
  rw [Option.some.inj this, ofNat_toNat (by omega)]; omega
theorem val_drow {d : Nat → Nat} {n : Nat} (h : ∀ i, i < n → d i ≤ 9) : val (drow d n) = dval d 0 n := by
  have := dval_drop (l := drow d n) n 0 (by rw [drow_length]; omega)
  rw [List.drop_zero] at this
  rw [← this]
  exact dval_congr n 0 fun j _ hj => dg_drow (by omega) (h j (by omega))
theorem dec_less (m n : Nat) : ((decDigits m).length < (decDigits n).length → m < n) ∧ ((decDigits n).length < (decDigits m).length → n < m) := by
  constructor
  · intro h
    have h1 : (decDigits m).length ≤ (decDigits m).length := Nat.le_refl _
    have h2 := (dec_length_le (n := m) (dec_length_pos m)).1 h1
    exact Nat.lt_of_lt_of_le h2 (pow_le_of_length h (dec_length_pos m))
  · intro h
    have h1 : (decDigits n).length ≤ (decDigits n).length := Nat.le_refl _
    have h2 := (dec_length_le (n := n) (dec_length_pos n)).1 h1
    exact Nat.lt_of_lt_of_le h2 (pow_le_of_length h (dec_length_pos n))
theorem dec_len_mono {m n : Nat} (h : m ≤ n) : (decDigits m).length ≤ (decDigits n).length := by
  rcases Nat.lt_or_ge (decDigits n).length (decDigits m).length with h1 | h1
  · have := (dec_less m n).2 h1; omega
  · exact h1
end MLab
namespace Go.Proofs.YthmmgjieppknkaaGreatDoor
open Go.RowKit MLab
theorem ret_int {k : IntKind} {a b : Int} (h : a = b) : Ending.returned (.int k a) = .returned (.int k b) := by rw [h]
theorem ret_tup {k : IntKind} {a b : Int} {v : Value} (h : a = b) : Ending.returned (.tuple #[.int k a, v]) = .returned (.tuple #[.int k b, v]) := by rw [h]
set_option maxRecDepth 100000 in
set_option maxHeartbeats 1000000 in
theorem rsize_any (w : World) (s : ByteArray) (l : List UInt8) (hl : s.data.toList = l) (hsz : s.size ≤ 1000000000000) :
    Calls Tryz.prog 110 #[.string s] w fun e w' => e = .returned (.string ⟨(mag l).toArray⟩) ∧ w = w' := by
  have hsl : s.toList = l := by rw [Lib.toList_data, hl]
  by_cases h0 : l = []
  · have e1 : (!s.toList.isEmpty) = false := by rw [hsl, h0]; rfl
    have e2 : s.toList.isEmpty = true := by rw [hsl, h0]; rfl
    have e3 : s.toList = [] := by rw [hsl, h0]
    have hm : s = ⟨(mag l).toArray⟩ := ba_eq (by rw [hl, h0]; rfl)
    have HM := hide hm
    clear hm hl hsl h0
    go_enter Tryz.func110, Tryz.ntmps110
    go_wp2_with fail
    go_ret
    exact ⟨by rw [← HM.out]; rfl, rfl⟩
  · have hpos : 0 < s.size := by rw [Lib.size_eq, hl]; exact List.length_pos_iff.2 h0
    have e1 : (!s.toList.isEmpty) = true := by rw [hsl]; cases l with | nil => exact absurd rfl h0 | cons a t => rfl
    have e2 : s.toList.isEmpty = false := by simpa using e1
    have e3 : ¬ s.toList = [] := by rw [hsl]; exact h0
    have hhd := getElem_head hl hpos
    by_cases hm : ((s[0].toNat : Int) == 45) = true
    · have hmm : s.extract 1 s.size = ⟨(mag l).toArray⟩ := by
        refine ba_eq ?_
        rw [Lib.extract_data, hl, Lib.size_eq, hl]
        cases l with
        | nil => exact absurd rfl h0
        | cons a t =>
          have : a = 45 := by
            simp only [List.head?_cons, Option.some.injEq] at hhd
            rw [hhd]; exact UInt8.toNat_inj.1 (by simp at hm; simp; omega)
          subst this
          simp [mag]
      have HM := hide hmm
      have hs1 : (1 : Int) ≤ (s.size : Int) := by omega
      clear hl hsl h0 hhd hmm
      go_enter Tryz.func110, Tryz.ntmps110
      go_wp2_with fail
      go_ret
      exact ⟨by rw [← HM.out]; rfl, rfl⟩
    · rw [Bool.not_eq_true] at hm
      have hmm : s = ⟨(mag l).toArray⟩ := by
        refine ba_eq ?_
        rw [hl]
        cases l with
        | nil => rfl
        | cons a t =>
          have : a ≠ 45 := by
            simp only [List.head?_cons, Option.some.injEq] at hhd
            rintro rfl
            rw [← hhd] at hm
            exact absurd hm (by decide)
          simp [mag, this]
      have HM := hide hmm
      clear hl hsl h0 hhd hmm
      go_enter Tryz.func110, Tryz.ntmps110
      go_wp2_with fail
      go_ret
      exact ⟨by rw [← HM.out]; rfl, rfl⟩
set_option maxRecDepth 100000 in
theorem rbelow_any (w : World) (s : ByteArray) (z : Int) (hs : s.data.toList = T z) :
    Calls Tryz.prog 111 #[.string s] w fun e w' => e = .returned (.bool (decide (z < 0))) ∧ w = w' := by
  have hpos : 0 < s.size := by rw [Lib.size_eq, hs]; exact List.length_pos_iff.2 (T_ne z)
  have hbit := T_head z _ (getElem_head hs hpos)
  have HB := hide hbit
  clear hs hbit
  go_enter Tryz.func111, Tryz.ntmps111
  go_wp2_with fail
  go_ret
  exact ⟨by rw [← HB.out]; rfl, rfl⟩
set_option maxRecDepth 100000 in
set_option maxHeartbeats 1000000 in
theorem rbare_any (w : World) (s : ByteArray) (l : List UInt8) (hl : s.data.toList = l) (hd : Dig l) (hne : l ≠ []) (hsz : s.size ≤ 1000000000000) :
    Calls Tryz.prog 150 #[.string s] w fun e w' => e = .returned (.string ⟨(Lib.decDigits (val l)).toArray⟩) ∧ w = w' := by
  have HL := hide hl
  have HD := hide hd
  have HN := hide hne
  clear hl hd hne
  go_enter Tryz.func150, Tryz.ntmps150
  go_wp2_with fail
  go_loopg [0] l.length (fun k v wr => ∃ g : ByteArray, v = .string g ∧ g.size = k ∧ g.size ≤ 1000000000000 ∧ Dig g.data.toList ∧ 0 < g.size ∧ val g.data.toList = val l ∧ w = wr)
  case atStart =>
    refine ⟨s, rfl, by rw [Lib.size_eq, HL.out], hsz, by rw [HL.out]; exact HD.out, ?_, by rw [HL.out], rfl⟩
    rw [Lib.size_eq, HL.out]; exact List.length_pos_iff.2 HN.out
  case round =>
    obtain ⟨g, rfl, hk, hg, hgd, hpos, hv, rfl⟩ := hrel
    have hhd := getElem_head (m := g.data.toList) rfl hpos
    have HK := hide hk
    have HGD := hide hgd
    have HV := hide hv
    have HH := hide hhd
    clear hk hgd hv hhd
    by_cases h1 : (1 : Int) < (g.size : Int)
    · by_cases hz : ((g[0].toNat : Int) == 48) = true
      · have hs1 : (1 : Int) ≤ (g.size : Int) := by omega
        have hsz1 : (g.extract 1 g.size).size = g.size - 1 := by rw [ByteArray.size_extract]; omega
        have hdat : (g.extract 1 g.size).data.toList = g.data.toList.drop 1 := by
          rw [Lib.extract_data, List.take_of_length_le]
          rw [List.length_drop, Lib.size_eq]; omega
        have hvv : val (g.data.toList.drop 1) = val g.data.toList := by
          have h48 : g.data.toList[0]? = some 48 := by
            rw [← List.head?_eq_getElem?, HH.out]
            congr 1; exact UInt8.toNat_inj.1 (by simp at hz; simp; omega)
          exact val_drop_zero (k := 0) h48
        have HS := hide hsz1
        have HDT := hide hdat
        have HVV := hide hvv
        clear hsz1 hdat hvv
        go_wp2_with fail
        go_roundg (gk - 1)
        case measure => have := HK.out; omega
        case rel =>
          exact ⟨g.extract 1 g.size, rfl, by rw [HS.out, HK.out], by rw [HS.out]; omega, by rw [HDT.out]; exact HGD.out.drop 1, by rw [HS.out]; omega, by rw [HDT.out, HVV.out, HV.out], rfl⟩
      · rw [Bool.not_eq_true] at hz
        have hfin : g = ⟨(Lib.decDigits (val l)).toArray⟩ := by
          refine ba_eq ?_
          rw [← HV.out]
          refine (dec_val HGD.out (by rw [← List.length_pos_iff, ← Lib.size_eq]; exact hpos) (.inl ?_)).symm
          intro e
          have := HH.out
          rw [List.head?_eq_some_head (by rw [← List.length_pos_iff, ← Lib.size_eq]; exact hpos), e] at this
          injection this with this
          rw [← this] at hz
          exact absurd hz (by decide)
        have HF := hide hfin
        clear hfin
        go_wp2_with fail
        go_ret
        exact ⟨by rw [← HF.out]; rfl, rfl⟩
    · have hfin : g = ⟨(Lib.decDigits (val l)).toArray⟩ := by
        refine ba_eq ?_
        rw [← HV.out]
        exact (dec_val HGD.out (by rw [← List.length_pos_iff, ← Lib.size_eq]; exact hpos) (.inr (by rw [← Lib.size_eq]; omega))).symm
      have HF := hide hfin
      clear hfin
      go_wp2_with fail
      go_ret
      exact ⟨by rw [← HF.out]; rfl, rfl⟩
set_option maxRecDepth 100000 in
set_option maxHeartbeats 1000000 in
theorem rsigned_any (w : World) (s : ByteArray) (n : Nat) (b : Bool) (hs : s.data.toList = Lib.decDigits n) (hsz : s.size ≤ 1000000000000) :
    Calls Tryz.prog 112 #[.string s, .bool b] w fun e w' => e = .returned (.string ⟨(T (sval b n)).toArray⟩) ∧ w = w' := by
  have hsl : s.toList = Lib.decDigits n := by rw [Lib.toList_data, hs]
  cases b
  · have hm : s = ⟨(T (sval false n)).toArray⟩ := ba_eq (by rw [hs, sval, if_neg (by simp), T_nat])
    have HM := hide hm
    clear hm hs hsl
    go_enter Tryz.func112, Tryz.ntmps112
    go_wp2_with fail
    go_ret
    exact ⟨by rw [← HM.out]; rfl, rfl⟩
  · by_cases h0 : n = 0
    · have e1 : (!(s.toList == [48])) = false := by rw [hsl, h0, dec_zero]; rfl
      have e2 : (s.toList == [48]) = true := by rw [hsl, h0, dec_zero]; rfl
      have hm : s = ⟨(T (sval true n)).toArray⟩ := ba_eq (by rw [hs, h0]; rfl)
      have HM := hide hm
      clear hm hs hsl
      go_enter Tryz.func112, Tryz.ntmps112
      go_wp2_with fail
      go_ret
      exact ⟨by rw [← HM.out]; rfl, rfl⟩
    · have e2 : (s.toList == [48]) = false := by
        rw [beq_eq_false_iff_ne, hsl, ← dec_zero]; intro e; exact h0 (dec_inj e)
      have e1 : (!(s.toList == [48])) = true := by rw [e2]; rfl
      have hm : (⟨#[45]⟩ : ByteArray) ++ s = ⟨(T (sval true n)).toArray⟩ := by
        refine ba_eq ?_
        rw [ByteArray.data_append, Array.toList_append, hs, T_sval h0]; rfl
      have HM := hide hm
      clear hm hs hsl
      go_enter Tryz.func112, Tryz.ntmps112
      go_wp2_with fail
      go_ret
      exact ⟨by rw [← HM.out]; rfl, rfl⟩
end Go.Proofs.YthmmgjieppknkaaGreatDoor
namespace Go.Proofs.YthmmgjieppknkaaGreatDoor
open Go.RowKit MLab
theorem bytesLess_dig : ∀ (a b : List UInt8), Dig a → Dig b → a.length = b.length → Op.bytesLess a b = decide (val a < val b)
  | [], [], _, _, _ => by simp [Op.bytesLess, val]
  | [], _ :: _, _, _, h => by simp at h
  | _ :: _, [], _, _, h => by simp at h
  | x :: s, y :: t, hx, hy, h => by
    have hl : s.length = t.length := by simpa using h
    have ih := bytesLess_dig s t hx.tail hy.tail hl
    have v1 := val_lt hx.tail
    have v2 := val_lt hy.tail
    have h1 := hx.head
    have h2 := hy.head
    rw [Op.bytesLess, val_cons, val_cons, ← hl, ih]
    rw [← hl] at v2
    generalize 10 ^ s.length = P at *
    by_cases hlt : x < y
    · have hn : x.toNat < y.toNat := UInt8.lt_iff_toNat_lt.1 hlt
      have := Nat.mul_le_mul_right P (show x.toNat - 48 + 1 ≤ y.toNat - 48 by omega)
      rw [Nat.add_mul, Nat.one_mul] at this
      rw [decide_eq_true hlt, Bool.true_or]
      exact (decide_eq_true (by omega)).symm
    · rw [decide_eq_false hlt, Bool.false_or]
      by_cases he : x = y
      · subst he
        simp
      · rw [beq_eq_false_iff_ne.2 he, Bool.false_and]
        have hgt : y.toNat < x.toNat := by
          have h3 : ¬ x.toNat < y.toNat := fun h => hlt (UInt8.lt_iff_toNat_lt.2 h)
          have h4 : x.toNat ≠ y.toNat := fun h => he (UInt8.toNat_inj.1 h)
          omega
        have := Nat.mul_le_mul_right P (show y.toNat - 48 + 1 ≤ x.toNat - 48 by omega)
        rw [Nat.add_mul, Nat.one_mul] at this
        exact (decide_eq_false (by omega)).symm
set_option maxRecDepth 100000 in
set_option maxHeartbeats 1000000 in
theorem rlessd_any (w : World) (s t : ByteArray) (m n : Nat) (hs : s.data.toList = Lib.decDigits m) (ht : t.data.toList = Lib.decDigits n) :
    Calls Tryz.prog 118 #[.string s, .string t] w fun e w' => e = .returned (.bool (decide (m < n))) ∧ w = w' := by
  have h1 : s.size = (Lib.decDigits m).length := by rw [Lib.size_eq, hs]
  have h2 : t.size = (Lib.decDigits n).length := by rw [Lib.size_eq, ht]
  obtain ⟨l1, l2⟩ := dec_less m n
  by_cases hlt : s.size < t.size
  · have hd : decide (m < n) = true := decide_eq_true (l1 (by omega))
    have hi : (s.size : Int) < (t.size : Int) := by omega
    rw [hd]
    clear hd l1 l2 h1 h2 hs ht
    go_enter Tryz.func118, Tryz.ntmps118
    go_wp2_with fail
    go_ret
    exact ⟨rfl, rfl⟩
  · have hi : ¬ (s.size : Int) < (t.size : Int) := by omega
    by_cases heq : s.size = t.size
    · have hb : Op.bytesLess s.toList t.toList = decide (m < n) := by
        rw [Lib.toList_data, Lib.toList_data, hs, ht, bytesLess_dig _ _ (dec_dig m) (dec_dig n) (by omega), val_dec, val_dec]
      have hq : ((s.size : Int) == (t.size : Int)) = true := by rw [heq]; simp
      have HB := hide hb
      clear l1 l2 h1 h2 hs ht heq hb
      go_enter Tryz.func118, Tryz.ntmps118
      go_wp2_with fail
      go_ret
      exact ⟨by rw [← HB.out]; rfl, rfl⟩
    · have hd : decide (m < n) = false := decide_eq_false (by have := l2 (by omega); omega)
      have hq : ((s.size : Int) == (t.size : Int)) = false := by rw [beq_eq_false_iff_ne]; omega
      rw [hd]
      clear hd l1 l2 h1 h2 hs ht heq
      go_enter Tryz.func118, Tryz.ntmps118
      go_wp2_with fail
      go_ret
      exact ⟨rfl, rfl⟩
set_option maxRecDepth 100000 in
set_option maxHeartbeats 1000000 in
theorem rcol_add (w : World) (a b c : Int) (ha : 48 ≤ a) (ha' : a ≤ 57) (hb : 48 ≤ b) (hb' : b ≤ 57) (hc : 0 ≤ c) (hc' : c ≤ 1) :
    Calls Tryz.prog 149 #[.int .u8 a, .int .u8 b, .int .i64 c, .bool true] w fun e w' => e = .returned (.tuple #[.int .u8 (48 + (a - 48 + (b - 48) + c) % 10), .int .i64 ((a - 48 + (b - 48) + c) / 10)]) ∧ w = w' := by
  by_cases h : 9 < a - 48 + (b - 48) + c
  · rw [show (a - 48 + (b - 48) + c) % 10 = a - 48 + (b - 48) + c - 10 by omega, show (a - 48 + (b - 48) + c) / 10 = 1 by omega]
    go_enter Tryz.func149, Tryz.ntmps149
    go_wp2_with fail
    go_ret2
    exact ⟨ret_tup (by omega), rfl⟩
  · rw [show (a - 48 + (b - 48) + c) % 10 = a - 48 + (b - 48) + c by omega, show (a - 48 + (b - 48) + c) / 10 = 0 by omega]
    have h2 : ¬ a - 48 + (b - 48) + c < 0 := by omega
    go_enter Tryz.func149, Tryz.ntmps149
    go_wp2_with fail
    go_ret2
    exact ⟨rfl, rfl⟩
set_option maxRecDepth 100000 in
set_option maxHeartbeats 1000000 in
theorem rcol_sub (w : World) (a b c : Int) (ha : 48 ≤ a) (ha' : a ≤ 57) (hb : 48 ≤ b) (hb' : b ≤ 57) (hc : 0 ≤ c) (hc' : c ≤ 1) :
    Calls Tryz.prog 149 #[.int .u8 a, .int .u8 b, .int .i64 c, .bool false] w fun e w' => e = .returned (.tuple #[.int .u8 (48 + (a - 48 - (b - 48) - c) % 10), .int .i64 (-((a - 48 - (b - 48) - c) / 10))]) ∧ w = w' := by
  have h0 : ¬ 9 < a - 48 - (b - 48) - c := by omega
  by_cases h : a - 48 - (b - 48) - c < 0
  · rw [show (a - 48 - (b - 48) - c) % 10 = a - 48 - (b - 48) - c + 10 by omega, show (a - 48 - (b - 48) - c) / 10 = -1 by omega]
    go_enter Tryz.func149, Tryz.ntmps149
    go_wp2_with fail
    go_ret2
    exact ⟨ret_tup (by omega), rfl⟩
  · rw [show (a - 48 - (b - 48) - c) % 10 = a - 48 - (b - 48) - c by omega, show (a - 48 - (b - 48) - c) / 10 = 0 by omega]
    go_enter Tryz.func149, Tryz.ntmps149
    go_wp2_with fail
    go_ret2
    exact ⟨rfl, rfl⟩
theorem val_take_le {l : List UInt8} (h : Dig l) (k : Nat) : val (l.take k) < 10 ^ k := by
  refine Nat.lt_of_lt_of_le (val_lt (h.take k)) (Nat.pow_le_pow_right (by decide) ?_)
  exact List.length_take_le _ _
theorem sval_turn (z : Int) : sval (!decide (z < 0)) z.natAbs = -z := by
  unfold sval
  by_cases h : z < 0
  · rw [decide_eq_true h]; simp; omega
  · rw [decide_eq_false h]; simp; omega
set_option maxRecDepth 100000 in
set_option maxHeartbeats 1000000 in
theorem rturned_any (w : World) (s : ByteArray) (z : Int) (hs : s.data.toList = T z) (hsz : s.size ≤ 1000000000000) :
    Calls Tryz.prog 116 #[.string s] w fun e w' => e = .returned (.string ⟨(T (-z)).toArray⟩) ∧ w = w' := by
  have HS := hide hs
  have hl := (mag_T_len hs).1
  clear hs
  go_enter Tryz.func116, Tryz.ntmps116
  go_wp2_with fail
  refine (rsize_any _ s _ HS.out hsz).mono ?_
  rintro e w1 ⟨rfl, rfl⟩
  rw [mag_T]
  go_wp2_with fail
  refine (rbelow_any _ s z HS.out).mono ?_
  rintro e w1 ⟨rfl, rfl⟩
  go_wp2_with fail
  refine (rsigned_any _ _ z.natAbs _ rfl (by rw [ba_size]; omega)).mono ?_
  rintro e w1 ⟨rfl, rfl⟩
  rw [sval_turn]
  go_wp2_with fail
  go_ret
  exact ⟨rfl, rfl⟩
set_option maxRecDepth 100000 in
set_option maxHeartbeats 1000000 in
theorem rnumber_any (w : World) (s : ByteArray) (z : Int) (hs : s.data.toList = T z) (hz : (Lib.decDigits z.natAbs).length ≤ 18) :
    Calls Tryz.prog 145 #[.string s] w fun e w' => e = .returned (.int .i64 z) ∧ w = w' := by
  have HS := hide hs
  have hl := (mag_T_len hs).2
  clear hs
  generalize hD : Lib.decDigits z.natAbs = D at *
  have hdd : Dig D := by rw [← hD]; exact dec_dig _
  have hvv : val D = z.natAbs := by rw [← hD]; exact val_dec _
  have HD := hide hD
  have HV := hide hvv
  have HG := hide hdd
  clear hD hdd hvv
  go_enter Tryz.func145, Tryz.ntmps145
  go_wp2_with fail
  refine (rsize_any _ s _ HS.out (by omega)).mono ?_
  rintro e w1 ⟨rfl, rfl⟩
  rw [mag_T, HD.out]
  have hgs : (⟨D.toArray⟩ : ByteArray).size = D.length := ba_size D
  have hgd : (⟨D.toArray⟩ : ByteArray).data.toList = D := rfl
  generalize (⟨D.toArray⟩ : ByteArray) = g at *
  have HGS := hide hgs
  have HGD := hide hgd
  have hg18 : g.size ≤ 18 := by omega
  clear hgs hgd
  go_wp2_with fail
  go_loopg [3, 5] D.length (fun k v i wr => ∃ j : Nat, i = .int .i64 (j : Int) ∧ k + j = D.length ∧ v = .int .i64 ((val (D.take j) : Nat) : Int) ∧ w = wr)
  case atStart => exact ⟨0, rfl, rfl, rfl, rfl⟩
  case round =>
    obtain ⟨j, rfl, hk, rfl, rfl⟩ := hrel
    have hv1 := val_take_le HG.out j
    have hjl : j ≤ D.length := by omega
    have hp : 10 ^ j ≤ 10 ^ 18 := Nat.pow_le_pow_right (by decide) (by omega)
    by_cases hlt : j < g.size
    · have hji : (j : Int) < (g.size : Int) := by omega
      have hjD : j < D.length := by rw [← HGS.out]; exact hlt
      have hp2 : 10 ^ j ≤ 10 ^ 17 := Nat.pow_le_pow_right (by decide) (by omega)
      have hb : g[j] = D[j] := by
        have : g.data.toList[j]? = D[j]? := by rw [HGD.out]
        rw [List.getElem?_eq_getElem hjD, List.getElem?_eq_getElem (by rw [← Lib.size_eq]; exact hlt)] at this
        exact Option.some.inj this
      have hdj := HG.out D[j] (List.getElem_mem hjD)
      rw [← hb] at hdj
      have hnext : val (D.take (j + 1)) = val (D.take j) * 10 + (g[j].toNat - 48) := by rw [take_snoc hjD, val_snoc, hb]
      have b1 : (val (D.take j) : Int) ≤ 100000000000000000 := by
        have : val (D.take j) < 100000000000000000 := Nat.lt_of_lt_of_le hv1 hp2
        omega
      obtain ⟨hd1, hd2⟩ := hdj
      have hd1' : (48 : Int) ≤ (g[j].toNat : Int) := by omega
      have hd2' : (g[j].toNat : Int) ≤ 57 := by omega
      have hnn : (0 : Int) ≤ (val (D.take j) : Int) := by omega
      have HN := hide hnext
      have HK := hide hk
      clear hnext hk hb hp hp2 hv1
      generalize val (D.take j) = V at *
      go_wp2_with fail
      go_roundg (gk - 1)
      case measure => have := HK.out; omega
      case rel => exact ⟨j + 1, by go_num, by have := HK.out; omega, by rw [HN.out]; congr 1; omega, rfl⟩
    · have hji : ¬ (j : Int) < (g.size : Int) := by omega
      have hfull : val (D.take j) = z.natAbs := by rw [List.take_of_length_le (by have := HGS.out; omega), HV.out]
      rw [hfull]
      have hzb : z.natAbs < 10 ^ 18 := by
        have h18 := hz
        rw [← HD.out] at h18
        exact (dec_length_le (by decide)).1 h18
      clear hv1 hp hfull hk
      by_cases hn : z < 0
      · have hd : decide (z < 0) = true := decide_eq_true hn
        have e1 : (z.natAbs : Int) = -z := by omega
        have E1 := hide e1
        clear e1
        go_wp2_with fail
        refine (rbelow_any _ s z HS.out).mono ?_
        rintro e w2 ⟨rfl, rfl⟩
        rw [hd]
        clear hd
        go_wp2_with fail
        go_ret
        exact ⟨ret_int (by have := E1.out; omega), rfl⟩
      · have hd : decide (z < 0) = false := decide_eq_false hn
        have e1 : (z.natAbs : Int) = z := by omega
        have E1 := hide e1
        clear e1
        go_wp2_with fail
        refine (rbelow_any _ s z HS.out).mono ?_
        rintro e w2 ⟨rfl, rfl⟩
        rw [hd]
        clear hd
        go_wp2_with fail
        go_ret
        exact ⟨ret_int (by have := E1.out; omega), rfl⟩
theorem brief_bound {x : Int} (h : (Lib.decDigits x.natAbs).length ≤ 18) : -1000000000000000000 < x ∧ x < 1000000000000000000 := by
  have : x.natAbs < 10 ^ 18 := (dec_length_le (by decide)).1 h
  omega
set_option maxRecDepth 100000 in
set_option maxHeartbeats 1000000 in
theorem rbrief_yes (w : World) (s t : ByteArray) (x y : Int) (hs : s.data.toList = T x) (ht : t.data.toList = T y) (hx : (Lib.decDigits x.natAbs).length ≤ 18) (hy : (Lib.decDigits y.natAbs).length ≤ 18) :
    Calls Tryz.prog 113 #[.string s, .string t] w fun e w' => e = .returned (.tuple #[.int .i64 x, .int .i64 y, .bool true]) ∧ w = w' := by
  have l1 := (mag_T_len hs).2
  have l2 := (mag_T_len ht).2
  have HS := hide hs
  have HT := hide ht
  have hx2 : (⟨(Lib.decDigits x.natAbs).toArray⟩ : ByteArray).size ≤ 18 := by rw [ba_size]; exact hx
  have hy2 : (⟨(Lib.decDigits y.natAbs).toArray⟩ : ByteArray).size ≤ 18 := by rw [ba_size]; exact hy
  have mx : (⟨(mag (T x)).toArray⟩ : ByteArray) = ⟨(Lib.decDigits x.natAbs).toArray⟩ := by rw [mag_T]
  have my : (⟨(mag (T y)).toArray⟩ : ByteArray) = ⟨(Lib.decDigits y.natAbs).toArray⟩ := by rw [mag_T]
  generalize (⟨(Lib.decDigits x.natAbs).toArray⟩ : ByteArray) = gx at *
  generalize (⟨(Lib.decDigits y.natAbs).toArray⟩ : ByteArray) = gy at *
  have MX := hide mx
  have MY := hide my
  have hx3 : ¬ (18 : Int) < (gx.size : Int) := by omega
  have hy3 : ¬ (18 : Int) < (gy.size : Int) := by omega
  clear hs ht mx my
  go_enter Tryz.func113, Tryz.ntmps113
  go_wp2_with fail
  refine (rsize_any _ s _ HS.out (by omega)).mono ?_
  rintro e w1 ⟨rfl, rfl⟩
  rw [MX.out]
  go_wp2_with fail
  refine (rsize_any _ t _ HT.out (by omega)).mono ?_
  rintro e w1 ⟨rfl, rfl⟩
  rw [MY.out]
  go_wp2_with fail
  refine (rnumber_any _ s x HS.out hx).mono ?_
  rintro e w1 ⟨rfl, rfl⟩
  go_wp2_with fail
  refine (rnumber_any _ t y HT.out hy).mono ?_
  rintro e w1 ⟨rfl, rfl⟩
  go_wp2_with fail
  go_ret3
  exact ⟨rfl, rfl⟩
set_option maxRecDepth 100000 in
set_option maxHeartbeats 1000000 in
theorem rbrief_no (w : World) (s t : ByteArray) (x y : Int) (hs : s.data.toList = T x) (ht : t.data.toList = T y) (hsz : s.size ≤ 1000000000000) (htz : t.size ≤ 1000000000000) (h : ¬ ((Lib.decDigits x.natAbs).length ≤ 18 ∧ (Lib.decDigits y.natAbs).length ≤ 18)) :
    Calls Tryz.prog 113 #[.string s, .string t] w fun e w' => e = .returned (.tuple #[.int .i64 0, .int .i64 0, .bool false]) ∧ w = w' := by
  have HS := hide hs
  have HT := hide ht
  have hx2 : (⟨(Lib.decDigits x.natAbs).toArray⟩ : ByteArray).size = (Lib.decDigits x.natAbs).length := by rw [ba_size]
  have hy2 : (⟨(Lib.decDigits y.natAbs).toArray⟩ : ByteArray).size = (Lib.decDigits y.natAbs).length := by rw [ba_size]
  have sx := (mag_T_len hs).1
  have sy := (mag_T_len ht).1
  have mx : (⟨(mag (T x)).toArray⟩ : ByteArray) = ⟨(Lib.decDigits x.natAbs).toArray⟩ := by rw [mag_T]
  have my : (⟨(mag (T y)).toArray⟩ : ByteArray) = ⟨(Lib.decDigits y.natAbs).toArray⟩ := by rw [mag_T]
  generalize (⟨(Lib.decDigits x.natAbs).toArray⟩ : ByteArray) = gx at *
  generalize (⟨(Lib.decDigits y.natAbs).toArray⟩ : ByteArray) = gy at *
  have MX := hide mx
  have MY := hide my
  clear hs ht mx my
  by_cases h1 : (Lib.decDigits x.natAbs).length ≤ 18
  · have h2 : ¬ (Lib.decDigits y.natAbs).length ≤ 18 := fun h2 => h ⟨h1, h2⟩
    have hx3 : ¬ (18 : Int) < (gx.size : Int) := by omega
    have hy3 : (18 : Int) < (gy.size : Int) := by omega
    have bx : gx.size ≤ 1000000000000 := by omega
    have by_ : gy.size ≤ 1000000000000 := by omega
    clear h h1 h2 hx2 hy2 sx sy
    go_enter Tryz.func113, Tryz.ntmps113
    go_wp2_with fail
    refine (rsize_any _ s _ HS.out hsz).mono ?_
    rintro e w1 ⟨rfl, rfl⟩
    rw [MX.out]
    go_wp2_with fail
    refine (rsize_any _ t _ HT.out htz).mono ?_
    rintro e w1 ⟨rfl, rfl⟩
    rw [MY.out]
    go_wp2_with fail
    go_ret3
    exact ⟨rfl, rfl⟩
  · have hx3 : (18 : Int) < (gx.size : Int) := by omega
    have bx : gx.size ≤ 1000000000000 := by omega
    clear h h1 hx2 hy2 sx sy
    go_enter Tryz.func113, Tryz.ntmps113
    go_wp2_with fail
    refine (rsize_any _ s _ HS.out hsz).mono ?_
    rintro e w1 ⟨rfl, rfl⟩
    rw [MX.out]
    go_wp2_with fail
    go_ret3
    exact ⟨rfl, rfl⟩
end Go.Proofs.YthmmgjieppknkaaGreatDoor
