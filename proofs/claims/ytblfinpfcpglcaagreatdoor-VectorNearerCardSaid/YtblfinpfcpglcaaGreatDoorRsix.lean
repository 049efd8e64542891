/- The reference's digits: divided, Plus, Minus, Times. -/
import Derived.Test.YtblfinpfcpglcaaGreatDoorRfive
namespace Go.Proofs.YtblfinpfcpglcaaGreatDoor
open Go.RowKit MLab

theorem mod_step {n v d : Nat} (hn : 0 < n) (r k : Nat) (hr : v % n = r) (h1 : k * n ≤ 10 * r + d) (h2 : 10 * r + d < (k + 1) * n) : (v * 10 + d) / n = v / n * 10 + k ∧ (v * 10 + d) % n = 10 * r + d - k * n := by
  have hdm := Nat.div_add_mod v n
  rw [hr] at hdm
  generalize v / n = q at *
  have h3 : v * 10 + d = (q * 10 + k) * n + (10 * r + d - k * n) := by
    have e2 : (q * 10 + k) * n = q * 10 * n + k * n := Nat.add_mul _ _ _
    rw [← hdm, e2]
    have : q * 10 * n = 10 * (n * q) := by rw [Nat.mul_comm (q * 10) n, Nat.mul_comm q 10, ← Nat.mul_assoc, Nat.mul_comm n 10, Nat.mul_assoc]
    omega
  have h4 : 10 * r + d - k * n < n := by rw [Nat.add_mul, Nat.one_mul] at h2; omega
  rw [h3]
  exact ⟨by rw [Nat.mul_comm, Nat.mul_add_div hn, Nat.div_eq_of_lt h4, Nat.add_zero], by rw [Nat.mul_comm, Nat.mul_add_mod, Nat.mod_eq_of_lt h4]⟩

set_option maxRecDepth 100000 in
set_option maxHeartbeats 4000000 in
theorem rdivided_any (w : World) (s t : ByteArray) (m n : Nat) (hs : s.data.toList = Lib.decDigits m) (ht : t.data.toList = Lib.decDigits n) (hn : 0 < n) (hsz : s.size ≤ 900000) (htz : t.size ≤ 900000) :
    Calls Tryz.prog 173 #[.string s, .string t] w fun e w' => e = .returned (.tuple #[.string ⟨(Lib.decDigits (m / n)).toArray⟩, .string ⟨(Lib.decDigits (m % n)).toArray⟩]) ∧ Below w.heap.size w w' := by
  have s1 : s.size = (Lib.decDigits m).length := by rw [Lib.size_eq, hs]
  have s2 : t.size = (Lib.decDigits n).length := by rw [Lib.size_eq, ht]
  have p1 := dec_length_pos m
  have vA := val_dec m
  have dA := dec_dig m
  generalize hA : Lib.decDigits m = A at *
  have HS := hide hs
  have HT := hide ht
  have S1 := hide s1
  have S2 := hide s2
  have VA := hide vA
  have DA := hide dA
  have hz0 : (0 : Nat) % n = 0 := Nat.zero_mod n
  have HZ0 := hide hz0
  clear hA hs ht s1 s2 vA dA hz0
  go_enter Tryz.func173, Tryz.ntmps173
  go_wp2_with fail
  go_loopg [6, 7, 8] s.size (fun z qv rv iv wr => ∃ (i : Nat) (g r : ByteArray), qv = .string g ∧ rv = .string r ∧ iv = .int .i64 (i : Int) ∧ z + i = s.size ∧ g.size = i ∧ Dig g.data.toList ∧ val g.data.toList = val (A.take i) / n ∧ r.data.toList = Lib.decDigits (val (A.take i) % n) ∧ Below w.heap.size w wr)
  case atStart =>
    refine ⟨0, ⟨#[]⟩, ⟨#[48]⟩, rfl, rfl, rfl, rfl, rfl, fun _ h => by simp at h, ?_, ?_, Below.refl _ _⟩
    · simp [val]
    · rw [List.take_zero, val_nil, HZ0.out, dec_zero]
  case round =>
    obtain ⟨i, g, r, rfl, rfl, rfl, hz, hg, hgd, hgv, hr, hb⟩ := hrel
    have hi : i ≤ s.size := by omega
    have HZ := hide hz
    have HG := hide hg
    have HGD := hide hgd
    have HGV := hide hgv
    have HR := hide hr
    have HB := hide hb
    have hrn : val (A.take i) % n < n := Nat.mod_lt _ hn
    have hrs : r.size ≤ 900000 := by
      rw [Lib.size_eq, hr]
      have := dec_len_mono (Nat.le_of_lt hrn)
      rw [← S2.out] at this
      omega
    have hgs : g.size ≤ 900000 := by omega
    clear hz hg hgd hgv hr hb
    by_cases hlt : i < s.size
    · have hlti : (i : Int) < (s.size : Int) := by omega
      have h0i : (0 : Int) ≤ (i : Int) := by omega
      have hlei : (i : Int) + 1 ≤ (s.size : Int) := by omega
      have htn : ((i : Int) + 1).toNat = i + 1 := by omega
      have hiA : i < A.length := by rw [← S1.out]; exact hlt
      have hex : (s.extract i (i + 1)).data.toList = [A[i]'hiA] := by
        rw [Lib.extract_data, HS.out, show i + 1 - i = 1 by omega, List.drop_eq_getElem_cons hiA, List.take_succ_cons, List.take_zero]
      have hsl : (r ++ s.extract i (i + 1)).data.toList = Lib.decDigits (val (A.take i) % n) ++ [A[i]'hiA] := by
        rw [ByteArray.data_append, Array.toList_append, hex, HR.out]
      have hsz1 : (s.extract i (i + 1)).size = 1 := by rw [Lib.size_eq, hex]; rfl
      have hszs : (r ++ s.extract i (i + 1)).size ≤ 1000000000000 := by rw [ByteArray.size_append, hsz1]; omega
      have hAd := DA.out (A[i]'hiA) (List.getElem_mem _)
      have hdd : Dig (Lib.decDigits (val (A.take i) % n) ++ [A[i]'hiA]) := (dec_dig _).append (Dig.one hAd.1 hAd.2)
      have hvv : val (Lib.decDigits (val (A.take i) % n) ++ [A[i]'hiA]) = 10 * (val (A.take i) % n) + dg A i := by rw [val_snoc, val_dec, dg_at hiA]; omega
      have hdg := dg_lt DA.out i
      have HSL := hide hsl
      have HDD := hide hdd
      have HVV := hide hvv
      obtain ⟨r0, hr0⟩ : ∃ r0, val (A.take i) % n = r0 := ⟨_, rfl⟩
      obtain ⟨d, hd⟩ : ∃ d, dg A i = d := ⟨_, rfl⟩
      rw [hd] at hdg
      have HR0 := hide hr0
      have HD := hide hd
      rw [hr0] at hrn
      clear hex hsl hsz1 hAd hdd hvv hr0 hd
      go_wp2_with fail
      refine (rbare_any _ _ _ HSL.out HDD.out (by simp) hszs).mono ?_
      rintro e w1 ⟨rfl, rfl⟩
      rw [HVV.out, HR0.out, HD.out]
      obtain ⟨gq, hgq⟩ : ∃ gq : Nat, gq = gk := ⟨_, rfl⟩
      have HGQ := hide hgq
      clear hgq
      obtain ⟨wo, rfl⟩ : ∃ wo : World, wo = wr := ⟨_, rfl⟩
      go_wp2_with fail
      go_loopg [7, 9] (10 * r0 + d) (fun z rv dv wr => ∃ (k : Nat), rv = .string ⟨(Lib.decDigits (10 * r0 + d - k * n)).toArray⟩ ∧ dv = .int .u8 (48 + (k : Int)) ∧ k * n ≤ 10 * r0 + d ∧ z = 10 * r0 + d - k * n ∧ Below w.heap.size w wr)
      case atStart => exact ⟨0, by simp, rfl, by omega, by omega, HB.out⟩
      case round =>
        obtain ⟨k, rfl, rfl, hk, hzk, hb2⟩ := hrel
        have HK := hide hk
        have HZK := hide hzk
        have HB2 := hide hb2
        have hk9 : k ≤ 9 := by
          rcases Nat.lt_or_ge k 10 with h | h
          · omega
          · have := Nat.mul_le_mul_right n h
            omega
        have hlen : (Lib.decDigits (10 * r0 + d - k * n)).length ≤ 900001 := by
          have h1 : 10 * r0 + d - k * n < 10 * n := by omega
          have h2 : (Lib.decDigits (10 * r0 + d - k * n)).length ≤ (Lib.decDigits n).length + 1 := by
            refine (dec_length_le (by omega)).2 ?_
            have h3 : n < 10 ^ (Lib.decDigits n).length := (dec_length_le (dec_length_pos n)).1 (Nat.le_refl _)
            rw [Nat.pow_succ]; omega
          rw [← S2.out] at h2; omega
        have hsz3 : (⟨(Lib.decDigits (10 * r0 + d - k * n)).toArray⟩ : ByteArray).size ≤ 1000000 := by rw [ba_size]; omega
        have hdat : (⟨(Lib.decDigits (10 * r0 + d - k * n)).toArray⟩ : ByteArray).data.toList = Lib.decDigits (10 * r0 + d - k * n) := rfl
        generalize (⟨(Lib.decDigits (10 * r0 + d - k * n)).toArray⟩ : ByteArray) = R at *
        have HDAT := hide hdat
        clear hk hzk hb2 hlen hdat
        go_wp2_with fail
        refine (rlessd_any _ R t _ n HDAT.out HT.out).mono ?_
        rintro e w2 ⟨rfl, rfl⟩
        by_cases hle : 10 * r0 + d - k * n < n
        · rw [decide_eq_true hle]
          have HLE := hide hle
          have hx := conv_one wr (48 + (k : Int)) (by omega) (by omega)
          have hch : UInt8.ofNat (48 + (k : Int)).toNat = UInt8.ofNat (48 + k) := by congr 1
          rw [hch] at hx
          obtain ⟨c, hc⟩ : ∃ c, UInt8.ofNat (48 + k) = c := ⟨_, rfl⟩
          rw [hc] at hx
          have hct : c.toNat = 48 + k := by rw [← hc, ofNat_toNat (by omega)]
          have HCT := hide hct
          obtain ⟨e1, e2⟩ := mod_step (d := d) hn r0 k HR0.out HK.out (by have := HLE.out; have := HK.out; rw [Nat.add_mul, Nat.one_mul]; omega)
          have E1 := hide e1
          have E2 := hide e2
          clear hle hch hc hct e1 e2
          go_wp2_with fail
          go_roundg (gq - 1)
          case measure => have := HZ.out; have := HGQ.out; omega
          case rel =>
            refine ⟨i + 1, g ++ (⟨#[c]⟩ : ByteArray), R, rfl, rfl, by go_num, by have := HZ.out; have := HGQ.out; omega, ?_, ?_, ?_, ?_, HB2.out.alloc HB2.out.size _⟩
            · rw [ByteArray.size_append, HG.out]; rfl
            · rw [ByteArray.data_append, Array.toList_append]
              exact HGD.out.append (Dig.one (by rw [HCT.out]; omega) (by rw [HCT.out]; omega))
            · rw [ByteArray.data_append, Array.toList_append, show (⟨#[c]⟩ : ByteArray).data.toList = [c] from rfl, val_snoc, HGV.out, HCT.out, val_take_succ hiA, HD.out, E1.out]; omega
            · rw [HDAT.out, val_take_succ hiA, HD.out, E2.out]
        · rw [decide_eq_false hle]
          have HLE := hide hle
          clear hle
          go_wp2_with fail
          refine (rpaper_sub _ R t (10 * r0 + d - k * n) n HDAT.out HT.out hsz3 (by omega) (by have := HLE.out; omega)).mono ?_
          rintro e w2 ⟨rfl, hb3⟩
          have HB3 := hide (HB2.out.trans (hb3.mono HB2.out.size))
          have hnx : 10 * r0 + d - k * n - n = 10 * r0 + d - (k + 1) * n := by rw [Nat.add_mul, Nat.one_mul]; omega
          rw [hnx]
          clear hb3 hnx
          go_wp2_with fail
          go_roundg (10 * r0 + d - (k + 1) * n)
          case measure => have := HZK.out; have := HLE.out; have := HK.out; rw [Nat.add_mul, Nat.one_mul]; omega
          case rel => exact ⟨k + 1, rfl, by go_num, by have := HLE.out; have := HK.out; rw [Nat.add_mul, Nat.one_mul]; omega, rfl, HB3.out⟩
    · have hlti : ¬ (i : Int) < (s.size : Int) := by omega
      have hfull : val (A.take i) = m := by rw [List.take_of_length_le (by rw [← S1.out]; omega), VA.out]
      have HF := hide hfull
      have hne : g.data.toList ≠ [] := by rw [← List.length_pos_iff, ← Lib.size_eq, HG.out]; have := S1.out; omega
      have HNE := hide hne
      have hfin : r = ⟨(Lib.decDigits (m % n)).toArray⟩ := ba_eq (by rw [HR.out, hfull])
      have HFI := hide hfin
      clear hfull hne hfin hrn
      go_wp2_with fail
      refine (rbare_any _ g _ rfl HGD.out HNE.out (by omega)).mono ?_
      rintro e w1 ⟨rfl, rfl⟩
      rw [HGV.out, HF.out]
      go_wp2_with fail
      go_ret2
      exact ⟨by rw [← HFI.out]; rfl, HB.out⟩
end Go.Proofs.YtblfinpfcpglcaaGreatDoor
