/- The reference's digits: size, Below, bare, less, signed, column. -/
import Derived.Test.YtblfinpfcpglcaaGreatDoorStd
import Derived.Test.YtblfinpfcpglcaaGreatDoorRead
import Derived.Test.YtblfinpfcpglcaaGreatDoorRdig
import Derived.Test.YtblfinpfcpglcaaGreatDoorOps
namespace Go.Proofs.YtblfinpfcpglcaaGreatDoor
open Go.RowKit MLab

theorem ret_int {k : IntKind} {a b : Int} (h : a = b) : Ending.returned (.int k a) = .returned (.int k b) := by rw [h]
theorem ret_tup {k : IntKind} {a b : Int} {v : Value} (h : a = b) : Ending.returned (.tuple #[.int k a, v]) = .returned (.tuple #[.int k b, v]) := by rw [h]
theorem ba_toList (l : List UInt8) : (⟨l.toArray⟩ : ByteArray).toList = l := by rw [Lib.toList_data]
theorem ba_size (l : List UInt8) : (⟨l.toArray⟩ : ByteArray).size = l.length := by rw [Lib.size_eq]

set_option maxRecDepth 100000 in
set_option maxHeartbeats 1000000 in
theorem rsize_any (w : World) (s : ByteArray) (l : List UInt8) (hl : s.data.toList = l) (hsz : s.size ≤ 1000000000000) :
    Calls Tryz.prog 153 #[.string s] w fun e w' => e = .returned (.string ⟨(mag l).toArray⟩) ∧ w = w' := by
  have hsl : s.toList = l := by rw [Lib.toList_data, hl]
  by_cases h0 : l = []
  · have e1 : (!s.toList.isEmpty) = false := by rw [hsl, h0]; rfl
    have e2 : s.toList.isEmpty = true := by rw [hsl, h0]; rfl
    have e3 : s.toList = [] := by rw [hsl, h0]
    have hm : s = ⟨(mag l).toArray⟩ := ba_eq (by rw [hl, h0]; rfl)
    have HM := hide hm
    clear hm hl hsl h0
    go_enter Tryz.func153, Tryz.ntmps153
    go_wp2_with fail
    go_ret
    exact ⟨by rw [← HM.out]; rfl, rfl⟩
  · have hpos : 0 < s.size := by rw [Lib.size_eq, hl]; exact List.length_pos_iff.2 h0
    have e1 : (!s.toList.isEmpty) = true := by rw [hsl]; cases l with | nil => exact absurd rfl h0 | cons a t => rfl
    have e2 : s.toList.isEmpty = false := by simpa using e1
    have e3 : ¬ s.toList = [] := by rw [hsl]; exact h0
    have hhd := getElem_head hl hpos
    by_cases hm : ((s[0].toNat : Int) == 45) = true
    · have hmm : s.extract 1 s.size = ⟨(mag l).toArray⟩ := by
        refine ba_eq ?_
        rw [Lib.extract_data, hl, Lib.size_eq, hl]
        cases l with
        | nil => exact absurd rfl h0
        | cons a t =>
          have : a = 45 := by
            simp only [List.head?_cons, Option.some.injEq] at hhd
            rw [hhd]; exact UInt8.toNat_inj.1 (by simp at hm; simp; omega)
          subst this
          simp [mag]
      have HM := hide hmm
      have hs1 : (1 : Int) ≤ (s.size : Int) := by omega
      clear hl hsl h0 hhd hmm
      go_enter Tryz.func153, Tryz.ntmps153
      go_wp2_with fail
      go_ret
      exact ⟨by rw [← HM.out]; rfl, rfl⟩
    · rw [Bool.not_eq_true] at hm
      have hmm : s = ⟨(mag l).toArray⟩ := by
        refine ba_eq ?_
        rw [hl]
        cases l with
        | nil => rfl
        | cons a t =>
          have : a ≠ 45 := by
            simp only [List.head?_cons, Option.some.injEq] at hhd
            rintro rfl
            rw [← hhd] at hm
            exact absurd hm (by decide)
          simp [mag, this]
      have HM := hide hmm
      clear hl hsl h0 hhd hmm
      go_enter Tryz.func153, Tryz.ntmps153
      go_wp2_with fail
      go_ret
      exact ⟨by rw [← HM.out]; rfl, rfl⟩

set_option maxRecDepth 100000 in
theorem rbelow_any (w : World) (s : ByteArray) (z : Int) (hs : s.data.toList = T z) :
    Calls Tryz.prog 148 #[.string s] w fun e w' => e = .returned (.bool (decide (z < 0))) ∧ w = w' := by
  have hpos : 0 < s.size := by rw [Lib.size_eq, hs]; exact List.length_pos_iff.2 (T_ne z)
  have hbit := T_head z _ (getElem_head hs hpos)
  have HB := hide hbit
  clear hs hbit
  go_enter Tryz.func148, Tryz.ntmps148
  go_wp2_with fail
  go_ret
  exact ⟨by rw [← HB.out]; rfl, rfl⟩

set_option maxRecDepth 100000 in
set_option maxHeartbeats 1000000 in
theorem rbare_any (w : World) (s : ByteArray) (l : List UInt8) (hl : s.data.toList = l) (hd : Dig l) (hne : l ≠ []) (hsz : s.size ≤ 1000000000000) :
    Calls Tryz.prog 176 #[.string s] w fun e w' => e = .returned (.string ⟨(Lib.decDigits (val l)).toArray⟩) ∧ w = w' := by
  have HL := hide hl
  have HD := hide hd
  have HN := hide hne
  clear hl hd hne
  go_enter Tryz.func176, Tryz.ntmps176
  go_wp2_with fail
  go_loopg [0] l.length (fun k v wr => ∃ g : ByteArray, v = .string g ∧ g.size = k ∧ g.size ≤ 1000000000000 ∧ Dig g.data.toList ∧ 0 < g.size ∧ val g.data.toList = val l ∧ w = wr)
  case atStart =>
    refine ⟨s, rfl, by rw [Lib.size_eq, HL.out], hsz, by rw [HL.out]; exact HD.out, ?_, by rw [HL.out], rfl⟩
    rw [Lib.size_eq, HL.out]; exact List.length_pos_iff.2 HN.out
  case round =>
    obtain ⟨g, rfl, hk, hg, hgd, hpos, hv, rfl⟩ := hrel
    have hhd := getElem_head (m := g.data.toList) rfl hpos
    have HK := hide hk
    have HGD := hide hgd
    have HV := hide hv
    have HH := hide hhd
    clear hk hgd hv hhd
    by_cases h1 : (1 : Int) < (g.size : Int)
    · by_cases hz : ((g[0].toNat : Int) == 48) = true
      · have hs1 : (1 : Int) ≤ (g.size : Int) := by omega
        have hsz1 : (g.extract 1 g.size).size = g.size - 1 := by rw [ByteArray.size_extract]; omega
        have hdat : (g.extract 1 g.size).data.toList = g.data.toList.drop 1 := by
          rw [Lib.extract_data, List.take_of_length_le]
          rw [List.length_drop, Lib.size_eq]; omega
        have hvv : val (g.data.toList.drop 1) = val g.data.toList := by
          have h48 : g.data.toList[0]? = some 48 := by
            rw [← List.head?_eq_getElem?, HH.out]
            congr 1; exact UInt8.toNat_inj.1 (by simp at hz; simp; omega)
          exact val_drop_zero (k := 0) h48
        have HS := hide hsz1
        have HDT := hide hdat
        have HVV := hide hvv
        clear hsz1 hdat hvv
        go_wp2_with fail
        go_roundg (gk - 1)
        case measure => have := HK.out; omega
        case rel =>
          exact ⟨g.extract 1 g.size, rfl, by rw [HS.out, HK.out], by rw [HS.out]; omega, by rw [HDT.out]; exact HGD.out.drop 1, by rw [HS.out]; omega, by rw [HDT.out, HVV.out, HV.out], rfl⟩
      · rw [Bool.not_eq_true] at hz
        have hfin : g = ⟨(Lib.decDigits (val l)).toArray⟩ := by
          refine ba_eq ?_
          rw [← HV.out]
          refine (dec_val HGD.out (by rw [← List.length_pos_iff, ← Lib.size_eq]; exact hpos) (.inl ?_)).symm
          intro e
          have := HH.out
          rw [List.head?_eq_some_head (by rw [← List.length_pos_iff, ← Lib.size_eq]; exact hpos), e] at this
          injection this with this
          rw [← this] at hz
          exact absurd hz (by decide)
        have HF := hide hfin
        clear hfin
        go_wp2_with fail
        go_ret
        exact ⟨by rw [← HF.out]; rfl, rfl⟩
    · have hfin : g = ⟨(Lib.decDigits (val l)).toArray⟩ := by
        refine ba_eq ?_
        rw [← HV.out]
        exact (dec_val HGD.out (by rw [← List.length_pos_iff, ← Lib.size_eq]; exact hpos) (.inr (by rw [← Lib.size_eq]; omega))).symm
      have HF := hide hfin
      clear hfin
      go_wp2_with fail
      go_ret
      exact ⟨by rw [← HF.out]; rfl, rfl⟩

set_option maxRecDepth 100000 in
set_option maxHeartbeats 1000000 in
theorem rsigned_any (w : World) (s : ByteArray) (n : Nat) (b : Bool) (hs : s.data.toList = Lib.decDigits n) (hsz : s.size ≤ 1000000000000) :
    Calls Tryz.prog 151 #[.string s, .bool b] w fun e w' => e = .returned (.string ⟨(T (sval b n)).toArray⟩) ∧ w = w' := by
  have hsl : s.toList = Lib.decDigits n := by rw [Lib.toList_data, hs]
  cases b
  · have hm : s = ⟨(T (sval false n)).toArray⟩ := ba_eq (by rw [hs, sval, if_neg (by simp), T_nat])
    have HM := hide hm
    clear hm hs hsl
    go_enter Tryz.func151, Tryz.ntmps151
    go_wp2_with fail
    go_ret
    exact ⟨by rw [← HM.out]; rfl, rfl⟩
  · by_cases h0 : n = 0
    · have e1 : (!(s.toList == [48])) = false := by rw [hsl, h0, dec_zero]; rfl
      have e2 : (s.toList == [48]) = true := by rw [hsl, h0, dec_zero]; rfl
      have hm : s = ⟨(T (sval true n)).toArray⟩ := ba_eq (by rw [hs, h0]; rfl)
      have HM := hide hm
      clear hm hs hsl
      go_enter Tryz.func151, Tryz.ntmps151
      go_wp2_with fail
      go_ret
      exact ⟨by rw [← HM.out]; rfl, rfl⟩
    · have e2 : (s.toList == [48]) = false := by
        rw [beq_eq_false_iff_ne, hsl, ← dec_zero]; intro e; exact h0 (dec_inj e)
      have e1 : (!(s.toList == [48])) = true := by rw [e2]; rfl
      have hm : (⟨#[45]⟩ : ByteArray) ++ s = ⟨(T (sval true n)).toArray⟩ := by
        refine ba_eq ?_
        rw [ByteArray.data_append, Array.toList_append, hs, T_sval h0]; rfl
      have HM := hide hm
      clear hm hs hsl
      go_enter Tryz.func151, Tryz.ntmps151
      go_wp2_with fail
      go_ret
      exact ⟨by rw [← HM.out]; rfl, rfl⟩
end Go.Proofs.YtblfinpfcpglcaaGreatDoor
