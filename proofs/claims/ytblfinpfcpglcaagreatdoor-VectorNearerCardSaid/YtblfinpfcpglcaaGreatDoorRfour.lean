/- The reference's digits: paper. -/
import Derived.Test.YtblfinpfcpglcaaGreatDoorRthree
namespace Go.Proofs.YtblfinpfcpglcaaGreatDoor
open Go.RowKit MLab

/-- The byte number i of digits, as the row holds it. -/
def dcell (d : Nat → Nat) (i : Nat) : Value := .int .u8 ((48 + d i : Nat) : Int)

/-- What paper keeps: from place i on the digits e of the result, the carry c; x, y: the digits of the arguments. -/
def Sum (n : Nat) (x y e : Nat → Nat) (i c : Nat) : Prop := dval e i (n - i) + c * 10 ^ (n - i) = dval x i (n - i) + dval y i (n - i)
def Dif (n : Nat) (x y e : Nat → Nat) (i c : Nat) : Prop := dval e i (n - i) + dval y i (n - i) = dval x i (n - i) + c * 10 ^ (n - i)

theorem dval_upd {e : Nat → Nat} {i j v : Nat} (h : i < j) (k : Nat) : dval (upd e i v) j k = dval e j k :=
  dval_congr k j fun t ht _ => upd_other e v (by omega)
theorem Sum.step {n i c d : Nat} {x y e : Nat → Nat} (h : Sum n x y e (i + 1) c) (hi : i < n) (hd : d = (x i + y i + c) % 10) : Sum n x y (upd e i d) i ((x i + y i + c) / 10) := by
  unfold Sum at *
  rw [show n - i = (n - (i + 1)) + 1 by omega, dval, dval, dval, dval_upd (by omega), upd_same, Nat.pow_succ]
  generalize dval e (i + 1) (n - (i + 1)) = A at *
  generalize dval x (i + 1) (n - (i + 1)) = B at *
  generalize dval y (i + 1) (n - (i + 1)) = C at *
  generalize 10 ^ (n - (i + 1)) = P at *
  have hdm := Nat.div_add_mod (x i + y i + c) 10
  rw [← hd] at hdm
  generalize (x i + y i + c) / 10 = q at *
  have h2 : (10 * q + d) * P = (x i + y i + c) * P := by rw [hdm]
  simp only [Nat.add_mul] at h2
  have e1 : q * (P * 10) = 10 * q * P := by rw [Nat.mul_comm P 10, ← Nat.mul_assoc, Nat.mul_comm q 10]
  rw [e1]
  omega
theorem Dif.step {n i c d b : Nat} {x y e : Nat → Nat} (h : Dif n x y e (i + 1) c) (hi : i < n) (hd : d + y i + c = x i + 10 * b) : Dif n x y (upd e i d) i b := by
  unfold Dif at *
  rw [show n - i = (n - (i + 1)) + 1 by omega, dval, dval, dval, dval_upd (by omega), upd_same, Nat.pow_succ]
  generalize dval e (i + 1) (n - (i + 1)) = A at *
  generalize dval x (i + 1) (n - (i + 1)) = B at *
  generalize dval y (i + 1) (n - (i + 1)) = C at *
  generalize 10 ^ (n - (i + 1)) = P at *
  have h2 : (d + y i + c) * P = (x i + 10 * b) * P := by rw [hd]
  simp only [Nat.add_mul] at h2
  have e1 : b * (P * 10) = 10 * b * P := by rw [Nat.mul_comm P 10, ← Nat.mul_assoc, Nat.mul_comm b 10]
  rw [e1]
  omega

theorem upd_cell {d : Nat → Nat} {i v j n : Nat} {f : Nat → Value} (hf : ∀ t, t < n → i < t → f t = dcell d t) (h1 : i ≤ j) (h2 : j < n) :
    (if j = i then dcell (fun _ => v) i else f j) = dcell (upd d i v) j := by
  by_cases e : j = i
  · subst e; rw [if_pos rfl]; simp [dcell, upd_same]
  · rw [if_neg e, hf j h2 (by omega)]; simp [dcell, upd_other d v e]

set_option maxRecDepth 100000 in
set_option maxHeartbeats 4000000 in
theorem rpaper_add (w : World) (s t : ByteArray) (m k : Nat) (hs : s.data.toList = Lib.decDigits m) (ht : t.data.toList = Lib.decDigits k) (hsz : s.size ≤ 1000000) (htz : t.size ≤ 1000000) :
    Calls Tryz.prog 177 #[.string s, .string t, .bool true] w fun e w' => e = .returned (.string ⟨(Lib.decDigits (m + k)).toArray⟩) ∧ Below w.heap.size w w' := by
  obtain ⟨n, hn⟩ : ∃ n : Nat, n = max s.size t.size + 1 := ⟨_, rfl⟩
  have hn1 : s.size < n := by omega
  have hn2 : t.size < n := by omega
  have hnz : n ≤ 1000001 := by omega
  have hmx : max (s.size : Int) (t.size : Int) + 1 = (n : Int) := by omega
  have HS := hide hs
  have HT := hide ht
  have HMX := hide hmx
  have s1 : (Lib.decDigits m).length < n := by rw [← hs, ← Lib.size_eq]; exact hn1
  have s2 : (Lib.decDigits k).length < n := by rw [← ht, ← Lib.size_eq]; exact hn2
  clear hs ht hn hmx
  go_enter Tryz.func177, Tryz.ntmps177
  go_wp2_with fail
  rw [HMX.out]
  refine (rwide_any _ s _ n HS.out (dec_ne m) (by omega) (by omega)).mono ?_
  rintro e w1 ⟨rfl, hb1⟩
  have ha1 : (⟨(wideL (Lib.decDigits m) n).toArray⟩ : ByteArray).size = n := by rw [ba_size, wideL_length (by omega)]
  have ha2 : (⟨(wideL (Lib.decDigits m) n).toArray⟩ : ByteArray).data.toList = wideL (Lib.decDigits m) n := rfl
  generalize (⟨(wideL (Lib.decDigits m) n).toArray⟩ : ByteArray) = a at *
  have HA1 := hide ha1
  have HA2 := hide ha2
  have HB1 := hide hb1
  clear ha1 ha2 hb1
  go_wp2_with fail
  refine (rwide_any _ t _ n HT.out (dec_ne k) (by omega) (by omega)).mono ?_
  rintro e w2 ⟨rfl, hb2⟩
  have hb1' : (⟨(wideL (Lib.decDigits k) n).toArray⟩ : ByteArray).size = n := by rw [ba_size, wideL_length (by omega)]
  have hb2' : (⟨(wideL (Lib.decDigits k) n).toArray⟩ : ByteArray).data.toList = wideL (Lib.decDigits k) n := rfl
  generalize (⟨(wideL (Lib.decDigits k) n).toArray⟩ : ByteArray) = b at *
  have HC1 := hide hb1'
  have HC2 := hide hb2'
  have HB2 := hide (HB1.out.trans (hb2.mono HB1.out.size))
  clear hb1' hb2' hb2 HB1
  have hmk := run_make_row' (P := Tryz.prog) 162 5 (.int .u8 0) 1 Tryz.underlying162 info_u8 rfl .i64 .i64 n (by omega) (by omega)
  go_wp2_with fail
  have hrow := World.rowIs_made w2 (.int .u8 0) n 5
  have hbl : Below w.heap.size w (w2.alloc (.cells (madeCells #[.int .u8 0] n) 5)) := HB2.out.alloc HB2.out.size _
  have hle : w.heap.size ≤ w2.heap.size := HB2.out.size
  generalize (w2.alloc (.cells (madeCells #[.int .u8 0] n) 5)) = w0 at *
  have HROW := hide hrow
  have HBL := hide hbl
  clear hrow hbl hmk
  have hda : Dig (wideL (Lib.decDigits m) n) := wideL_dig (dec_dig m) n
  have hdb : Dig (wideL (Lib.decDigits k) n) := wideL_dig (dec_dig k) n
  have HDA := hide hda
  have HDB := hide hdb
  have hla : (wideL (Lib.decDigits m) n).length = n := wideL_length (by omega)
  have hlb : (wideL (Lib.decDigits k) n).length = n := wideL_length (by omega)
  have HLA := hide hla
  have HLB := hide hlb
  clear hda hdb hla hlb
  generalize hx : wideL (Lib.decDigits m) n = X at *
  generalize hy : wideL (Lib.decDigits k) n = Y at *
  have HX := hide hx
  have HY := hide hy
  clear hx hy
  go_loopg [9, 10] n (fun q cv iv wr => ∃ (c : Nat) (e : Nat → Nat), cv = .int .i64 (c : Int) ∧ iv = .int .i64 ((q : Int) - 1) ∧ q ≤ n ∧ c ≤ 1 ∧ (∀ i, i < n → e i ≤ 9) ∧ wr.rowIs w2.heap.size 5 n (fun i => if i < q then .int .u8 0 else dcell e i) ∧ Sum n (dg X) (dg Y) e q c ∧ Below w.heap.size w wr)
  case atStart =>
    refine ⟨0, fun _ => 0, rfl, rfl, Nat.le_refl _, by decide, fun _ _ => Nat.zero_le _, HROW.out.congr (fun i hi => by simp [hi]), ?_, HBL.out⟩
    unfold Sum
    rw [Nat.sub_self]; rfl
  case round =>
    obtain ⟨c, e, rfl, rfl, hq, hc, he, hr, hp, hb⟩ := hrel
    have HE := hide he
    have HR := hide hr
    have HP := hide hp
    have HB := hide hb
    clear he hr hp hb
    cases gk with
    | zero =>
      have h0 : ¬ (0 : Int) ≤ ((0 : Nat) : Int) - 1 := by omega
      have hrow : wr.rowIs w2.heap.size 5 n (fun i => dcell e i) := HR.out.congr (fun i hi => by simp)
      have hcv := conv_row wr w2.heap.size n n 5 _ (drow e n) hrow (drow_length e n) (fun i c hi => by
        have hin : i < n := by
          rcases Nat.lt_or_ge i n with h | h
          · exact h
          · rw [List.getElem?_eq_none (by rw [drow_length]; exact h)] at hi; cases hi
        rw [drow_at e hin] at hi
        rw [← Option.some.inj hi, ofNat_toNat (by have := HE.out i hin; omega)]; rfl)
      have hdr : Dig (drow e n) := drow_dig HE.out
      have hdl : (drow e n).length = n := drow_length e n
      have hvd : val (drow e n) = m + k := by
        have h1 := HP.out
        unfold Sum at h1
        rw [Nat.sub_zero, dval_drop (l := X) n 0 (by rw [HLA.out]; omega), dval_drop (l := Y) n 0 (by rw [HLB.out]; omega), List.drop_zero, List.drop_zero, ← HX.out, ← HY.out, val_wideL, val_wideL, val_dec, val_dec] at h1
        rw [val_drow HE.out]
        have hlt : dval e 0 n < 10 ^ n := by
          have := val_lt hdr
          rw [val_drow HE.out, hdl] at this
          exact this
        have hm : m < 10 ^ n := Nat.lt_of_lt_of_le ((dec_length_le (dec_length_pos m)).1 (Nat.le_refl _)) (Nat.pow_le_pow_right (by decide) (by omega))
        have hk : k < 10 ^ n := Nat.lt_of_lt_of_le ((dec_length_le (dec_length_pos k)).1 (Nat.le_refl _)) (Nat.pow_le_pow_right (by decide) (by omega))
        have hc01 : c = 0 ∨ c = 1 := by omega
        have hmn : m < 10 ^ (n - 1) := Nat.lt_of_lt_of_le ((dec_length_le (dec_length_pos m)).1 (Nat.le_refl _)) (Nat.pow_le_pow_right (by decide) (by omega))
        have hkn : k < 10 ^ (n - 1) := Nat.lt_of_lt_of_le ((dec_length_le (dec_length_pos k)).1 (Nat.le_refl _)) (Nat.pow_le_pow_right (by decide) (by omega))
        have hpn : 10 ^ n = 10 * 10 ^ (n - 1) := by rw [Nat.mul_comm, ← Nat.pow_succ, Nat.succ_eq_add_one, Nat.sub_add_cancel (by omega)]
        rcases hc01 with rfl | rfl <;> omega
      have hne : drow e n ≠ [] := by rw [← List.length_pos_iff, hdl]; omega
      have hsz2 : (⟨(drow e n).toArray⟩ : ByteArray).size ≤ 1000000000000 := by rw [ba_size, hdl]; omega
      have HV := hide hvd
      have HDR := hide hdr
      have HNE := hide hne
      have HCV := hide hcv
      clear hrow hdr hdl hvd hne hcv
      have hcv := HCV.out
      clear HCV
      go_wp2_with fail
      refine (rbare_any _ _ (drow e n) rfl HDR.out HNE.out hsz2).mono ?_
      rintro e' w3 ⟨rfl, rfl⟩
      rw [HV.out]
      clear hcv
      go_wp2_with fail
      go_ret
      exact ⟨rfl, HB.out⟩
    | succ j =>
      have hij : ((j + 1 : Nat) : Int) - 1 = (j : Int) := by omega
      rw [hij]
      clear hij
      have hjn : j < n := by omega
      have hji : (0 : Int) ≤ (j : Int) := by omega
      have hja : j < a.size := by rw [HA1.out]; exact hjn
      have hjb : j < b.size := by rw [HC1.out]; exact hjn
      have hja2 : (j : Int) < (a.size : Int) := by omega
      have hjb2 : (j : Int) < (b.size : Int) := by omega
      have hjn2 : (j : Int) < (n : Int) := by omega
      have eA : ((a[j]'hja).toNat : Int) = ((48 + dg X j : Nat) : Int) := by
        have h2 : a.data.toList[j]? = X[j]? := by rw [HA2.out]
        rw [List.getElem?_eq_getElem (by rw [← Lib.size_eq]; exact hja), List.getElem?_eq_getElem (by rw [HLA.out]; exact hjn)] at h2
        have h3 := HDA.out (X[j]'(by rw [HLA.out]; exact hjn)) (List.getElem_mem _)
        rw [dg_at (by rw [HLA.out]; exact hjn), ← Option.some.inj h2]
        rw [← Option.some.inj h2] at h3
        have h4 : (a[j]'hja) = a.data.toList[j]'(by rw [← Lib.size_eq]; exact hja) := rfl
        rw [h4]; omega
      have eB : ((b[j]'hjb).toNat : Int) = ((48 + dg Y j : Nat) : Int) := by
        have h2 : b.data.toList[j]? = Y[j]? := by rw [HC2.out]
        rw [List.getElem?_eq_getElem (by rw [← Lib.size_eq]; exact hjb), List.getElem?_eq_getElem (by rw [HLB.out]; exact hjn)] at h2
        have h3 := HDB.out (Y[j]'(by rw [HLB.out]; exact hjn)) (List.getElem_mem _)
        rw [dg_at (by rw [HLB.out]; exact hjn), ← Option.some.inj h2]
        rw [← Option.some.inj h2] at h3
        have h4 : (b[j]'hjb) = b.data.toList[j]'(by rw [← Lib.size_eq]; exact hjb) := rfl
        rw [h4]; omega
      have dA := dg_lt HDA.out j
      have dB := dg_lt HDB.out j
      have EA := hide eA
      have EB := hide eB
      have a1 : (48 : Int) ≤ ((a[j]'hja).toNat : Int) := by omega
      have a2 : ((a[j]'hja).toNat : Int) ≤ 57 := by omega
      have b1 : (48 : Int) ≤ ((b[j]'hjb).toNat : Int) := by omega
      have b2 : ((b[j]'hjb).toNat : Int) ≤ 57 := by omega
      clear eA eB
      have hcell := HR.out.cell hjn
      have hfz := HR.out.frozen j
      go_wp2_with fail
      go_region_with (go_at_call 204; refine (rcol_add _ ((a[j]'hja).toNat : Int) ((b[j]'hjb).toNat : Int) (c : Int) a1 a2 b1 b2 (by omega) (by omega)).mono ?_; rintro e' w3 ⟨rfl, rfl⟩)
      all_goals
        go_wp2_with fail
        go_roundg j
        case measure => omega
        case rel =>
          obtain ⟨d, hd⟩ : ∃ d : Nat, (d : Int) = (((a[j]'hja).toNat : Int) - 48 + (((b[j]'hjb).toNat : Int) - 48) + (c : Int)) % 10 := ⟨((((a[j]'hja).toNat : Int) - 48 + (((b[j]'hjb).toNat : Int) - 48) + (c : Int)) % 10).toNat, by omega⟩
          obtain ⟨c', hc'⟩ : ∃ c' : Nat, (c' : Int) = (((a[j]'hja).toNat : Int) - 48 + (((b[j]'hjb).toNat : Int) - 48) + (c : Int)) / 10 := ⟨((((a[j]'hja).toNat : Int) - 48 + (((b[j]'hjb).toNat : Int) - 48) + (c : Int)) / 10).toNat, by have := EA.out; have := EB.out; omega⟩
          have e1 := EA.out
          have e2 := EB.out
          refine ⟨c', upd e j d, by rw [hc'], by go_num, by omega, by omega, ?_, ?_, ?_, ?_⟩
          · intro i hi
            by_cases h : i = j
            · subst h; rw [upd_same]; omega
            · rw [upd_other e d h]; exact HE.out i hi
          · refine (HR.out.set j _).congr (fun i hi => ?_)
            by_cases h : i = j
            · subst h
              simp only [if_true, Nat.lt_irrefl, if_false, dcell, upd_same]
              congr 1
              omega
            · simp only [if_neg h]
              by_cases h2 : i < j
              · rw [if_pos (show i < j + 1 by omega), if_pos h2]
              · rw [if_neg (show ¬ i < j + 1 by omega), if_neg h2]; simp only [dcell, upd_other e d h]
          · have hst := Sum.step (d := d) HP.out hjn (by omega)
            rw [show (dg X j + dg Y j + c) / 10 = c' by omega] at hst
            exact hst
          · exact HB.out.drew.setCell hle _

set_option maxRecDepth 100000 in
set_option maxHeartbeats 4000000 in
theorem rpaper_sub (w : World) (s t : ByteArray) (m k : Nat) (hs : s.data.toList = Lib.decDigits m) (ht : t.data.toList = Lib.decDigits k) (hsz : s.size ≤ 1000000) (htz : t.size ≤ 1000000) (hkm : k ≤ m) :
    Calls Tryz.prog 177 #[.string s, .string t, .bool false] w fun e w' => e = .returned (.string ⟨(Lib.decDigits (m - k)).toArray⟩) ∧ Below w.heap.size w w' := by
  obtain ⟨n, hn⟩ : ∃ n : Nat, n = max s.size t.size + 1 := ⟨_, rfl⟩
  have hn1 : s.size < n := by omega
  have hn2 : t.size < n := by omega
  have hnz : n ≤ 1000001 := by omega
  have hmx : max (s.size : Int) (t.size : Int) + 1 = (n : Int) := by omega
  have HS := hide hs
  have HT := hide ht
  have HMX := hide hmx
  have s1 : (Lib.decDigits m).length < n := by rw [← hs, ← Lib.size_eq]; exact hn1
  have s2 : (Lib.decDigits k).length < n := by rw [← ht, ← Lib.size_eq]; exact hn2
  clear hs ht hn hmx
  go_enter Tryz.func177, Tryz.ntmps177
  go_wp2_with fail
  rw [HMX.out]
  refine (rwide_any _ s _ n HS.out (dec_ne m) (by omega) (by omega)).mono ?_
  rintro e w1 ⟨rfl, hb1⟩
  have ha1 : (⟨(wideL (Lib.decDigits m) n).toArray⟩ : ByteArray).size = n := by rw [ba_size, wideL_length (by omega)]
  have ha2 : (⟨(wideL (Lib.decDigits m) n).toArray⟩ : ByteArray).data.toList = wideL (Lib.decDigits m) n := rfl
  generalize (⟨(wideL (Lib.decDigits m) n).toArray⟩ : ByteArray) = a at *
  have HA1 := hide ha1
  have HA2 := hide ha2
  have HB1 := hide hb1
  clear ha1 ha2 hb1
  go_wp2_with fail
  refine (rwide_any _ t _ n HT.out (dec_ne k) (by omega) (by omega)).mono ?_
  rintro e w2 ⟨rfl, hb2⟩
  have hb1' : (⟨(wideL (Lib.decDigits k) n).toArray⟩ : ByteArray).size = n := by rw [ba_size, wideL_length (by omega)]
  have hb2' : (⟨(wideL (Lib.decDigits k) n).toArray⟩ : ByteArray).data.toList = wideL (Lib.decDigits k) n := rfl
  generalize (⟨(wideL (Lib.decDigits k) n).toArray⟩ : ByteArray) = b at *
  have HC1 := hide hb1'
  have HC2 := hide hb2'
  have HB2 := hide (HB1.out.trans (hb2.mono HB1.out.size))
  clear hb1' hb2' hb2 HB1
  have hmk := run_make_row' (P := Tryz.prog) 162 5 (.int .u8 0) 1 Tryz.underlying162 info_u8 rfl .i64 .i64 n (by omega) (by omega)
  go_wp2_with fail
  have hrow := World.rowIs_made w2 (.int .u8 0) n 5
  have hbl : Below w.heap.size w (w2.alloc (.cells (madeCells #[.int .u8 0] n) 5)) := HB2.out.alloc HB2.out.size _
  have hle : w.heap.size ≤ w2.heap.size := HB2.out.size
  generalize (w2.alloc (.cells (madeCells #[.int .u8 0] n) 5)) = w0 at *
  have HROW := hide hrow
  have HBL := hide hbl
  clear hrow hbl hmk
  have hda : Dig (wideL (Lib.decDigits m) n) := wideL_dig (dec_dig m) n
  have hdb : Dig (wideL (Lib.decDigits k) n) := wideL_dig (dec_dig k) n
  have HDA := hide hda
  have HDB := hide hdb
  have hla : (wideL (Lib.decDigits m) n).length = n := wideL_length (by omega)
  have hlb : (wideL (Lib.decDigits k) n).length = n := wideL_length (by omega)
  have HLA := hide hla
  have HLB := hide hlb
  clear hda hdb hla hlb
  generalize hx : wideL (Lib.decDigits m) n = X at *
  generalize hy : wideL (Lib.decDigits k) n = Y at *
  have HX := hide hx
  have HY := hide hy
  clear hx hy
  go_loopg [9, 10] n (fun q cv iv wr => ∃ (c : Nat) (e : Nat → Nat), cv = .int .i64 (c : Int) ∧ iv = .int .i64 ((q : Int) - 1) ∧ q ≤ n ∧ c ≤ 1 ∧ (∀ i, i < n → e i ≤ 9) ∧ wr.rowIs w2.heap.size 5 n (fun i => if i < q then .int .u8 0 else dcell e i) ∧ Dif n (dg X) (dg Y) e q c ∧ Below w.heap.size w wr)
  case atStart =>
    refine ⟨0, fun _ => 0, rfl, rfl, Nat.le_refl _, by decide, fun _ _ => Nat.zero_le _, HROW.out.congr (fun i hi => by simp [hi]), ?_, HBL.out⟩
    unfold Dif
    rw [Nat.sub_self]; rfl
  case round =>
    obtain ⟨c, e, rfl, rfl, hq, hc, he, hr, hp, hb⟩ := hrel
    have HE := hide he
    have HR := hide hr
    have HP := hide hp
    have HB := hide hb
    clear he hr hp hb
    cases gk with
    | zero =>
      have h0 : ¬ (0 : Int) ≤ ((0 : Nat) : Int) - 1 := by omega
      have hrow : wr.rowIs w2.heap.size 5 n (fun i => dcell e i) := HR.out.congr (fun i hi => by simp)
      have hcv := conv_row wr w2.heap.size n n 5 _ (drow e n) hrow (drow_length e n) (fun i c hi => by
        have hin : i < n := by
          rcases Nat.lt_or_ge i n with h | h
          · exact h
          · rw [List.getElem?_eq_none (by rw [drow_length]; exact h)] at hi; cases hi
        rw [drow_at e hin] at hi
        rw [← Option.some.inj hi, ofNat_toNat (by have := HE.out i hin; omega)]; rfl)
      have hdr : Dig (drow e n) := drow_dig HE.out
      have hdl : (drow e n).length = n := drow_length e n
      have hvd : val (drow e n) = m - k := by
        have h1 := HP.out
        unfold Dif at h1
        rw [Nat.sub_zero, dval_drop (l := X) n 0 (by rw [HLA.out]; omega), dval_drop (l := Y) n 0 (by rw [HLB.out]; omega), List.drop_zero, List.drop_zero, ← HX.out, ← HY.out, val_wideL, val_wideL, val_dec, val_dec] at h1
        rw [val_drow HE.out]
        have hlt : dval e 0 n < 10 ^ n := by
          have := val_lt hdr
          rw [val_drow HE.out, hdl] at this
          exact this
        have hm : m < 10 ^ n := Nat.lt_of_lt_of_le ((dec_length_le (dec_length_pos m)).1 (Nat.le_refl _)) (Nat.pow_le_pow_right (by decide) (by omega))
        have hk : k < 10 ^ n := Nat.lt_of_lt_of_le ((dec_length_le (dec_length_pos k)).1 (Nat.le_refl _)) (Nat.pow_le_pow_right (by decide) (by omega))
        have hc01 : c = 0 ∨ c = 1 := by omega
        have hmn : m < 10 ^ (n - 1) := Nat.lt_of_lt_of_le ((dec_length_le (dec_length_pos m)).1 (Nat.le_refl _)) (Nat.pow_le_pow_right (by decide) (by omega))
        have hkn : k < 10 ^ (n - 1) := Nat.lt_of_lt_of_le ((dec_length_le (dec_length_pos k)).1 (Nat.le_refl _)) (Nat.pow_le_pow_right (by decide) (by omega))
        have hpn : 10 ^ n = 10 * 10 ^ (n - 1) := by rw [Nat.mul_comm, ← Nat.pow_succ, Nat.succ_eq_add_one, Nat.sub_add_cancel (by omega)]
        rcases hc01 with rfl | rfl <;> omega
      have hne : drow e n ≠ [] := by rw [← List.length_pos_iff, hdl]; omega
      have hsz2 : (⟨(drow e n).toArray⟩ : ByteArray).size ≤ 1000000000000 := by rw [ba_size, hdl]; omega
      have HV := hide hvd
      have HDR := hide hdr
      have HNE := hide hne
      have HCV := hide hcv
      clear hrow hdr hdl hvd hne hcv
      have hcv := HCV.out
      clear HCV
      go_wp2_with fail
      refine (rbare_any _ _ (drow e n) rfl HDR.out HNE.out hsz2).mono ?_
      rintro e' w3 ⟨rfl, rfl⟩
      rw [HV.out]
      clear hcv
      go_wp2_with fail
      go_ret
      exact ⟨rfl, HB.out⟩
    | succ j =>
      have hij : ((j + 1 : Nat) : Int) - 1 = (j : Int) := by omega
      rw [hij]
      clear hij
      have hjn : j < n := by omega
      have hji : (0 : Int) ≤ (j : Int) := by omega
      have hja : j < a.size := by rw [HA1.out]; exact hjn
      have hjb : j < b.size := by rw [HC1.out]; exact hjn
      have hja2 : (j : Int) < (a.size : Int) := by omega
      have hjb2 : (j : Int) < (b.size : Int) := by omega
      have hjn2 : (j : Int) < (n : Int) := by omega
      have eA : ((a[j]'hja).toNat : Int) = ((48 + dg X j : Nat) : Int) := by
        have h2 : a.data.toList[j]? = X[j]? := by rw [HA2.out]
        rw [List.getElem?_eq_getElem (by rw [← Lib.size_eq]; exact hja), List.getElem?_eq_getElem (by rw [HLA.out]; exact hjn)] at h2
        have h3 := HDA.out (X[j]'(by rw [HLA.out]; exact hjn)) (List.getElem_mem _)
        rw [dg_at (by rw [HLA.out]; exact hjn), ← Option.some.inj h2]
        rw [← Option.some.inj h2] at h3
        have h4 : (a[j]'hja) = a.data.toList[j]'(by rw [← Lib.size_eq]; exact hja) := rfl
        rw [h4]; omega
      have eB : ((b[j]'hjb).toNat : Int) = ((48 + dg Y j : Nat) : Int) := by
        have h2 : b.data.toList[j]? = Y[j]? := by rw [HC2.out]
        rw [List.getElem?_eq_getElem (by rw [← Lib.size_eq]; exact hjb), List.getElem?_eq_getElem (by rw [HLB.out]; exact hjn)] at h2
        have h3 := HDB.out (Y[j]'(by rw [HLB.out]; exact hjn)) (List.getElem_mem _)
        rw [dg_at (by rw [HLB.out]; exact hjn), ← Option.some.inj h2]
        rw [← Option.some.inj h2] at h3
        have h4 : (b[j]'hjb) = b.data.toList[j]'(by rw [← Lib.size_eq]; exact hjb) := rfl
        rw [h4]; omega
      have dA := dg_lt HDA.out j
      have dB := dg_lt HDB.out j
      have EA := hide eA
      have EB := hide eB
      have a1 : (48 : Int) ≤ ((a[j]'hja).toNat : Int) := by omega
      have a2 : ((a[j]'hja).toNat : Int) ≤ 57 := by omega
      have b1 : (48 : Int) ≤ ((b[j]'hjb).toNat : Int) := by omega
      have b2 : ((b[j]'hjb).toNat : Int) ≤ 57 := by omega
      clear eA eB
      have hcell := HR.out.cell hjn
      have hfz := HR.out.frozen j
      go_wp2_with fail
      go_region_with (go_at_call 204; refine (rcol_sub _ ((a[j]'hja).toNat : Int) ((b[j]'hjb).toNat : Int) (c : Int) a1 a2 b1 b2 (by omega) (by omega)).mono ?_; rintro e' w3 ⟨rfl, rfl⟩)
      all_goals
        go_wp2_with fail
        go_roundg j
        case measure => omega
        case rel =>
          obtain ⟨d, hd⟩ : ∃ d : Nat, (d : Int) = (((a[j]'hja).toNat : Int) - 48 - (((b[j]'hjb).toNat : Int) - 48) - (c : Int)) % 10 := ⟨((((a[j]'hja).toNat : Int) - 48 - (((b[j]'hjb).toNat : Int) - 48) - (c : Int)) % 10).toNat, by omega⟩
          obtain ⟨c', hc'⟩ : ∃ c' : Nat, (c' : Int) = -((((a[j]'hja).toNat : Int) - 48 - (((b[j]'hjb).toNat : Int) - 48) - (c : Int)) / 10) := ⟨(-((((a[j]'hja).toNat : Int) - 48 - (((b[j]'hjb).toNat : Int) - 48) - (c : Int)) / 10)).toNat, by have := EA.out; have := EB.out; omega⟩
          have e1 := EA.out
          have e2 := EB.out
          refine ⟨c', upd e j d, by rw [hc'], by go_num, by omega, by omega, ?_, ?_, ?_, ?_⟩
          · intro i hi
            by_cases h : i = j
            · subst h; rw [upd_same]; omega
            · rw [upd_other e d h]; exact HE.out i hi
          · refine (HR.out.set j _).congr (fun i hi => ?_)
            by_cases h : i = j
            · subst h
              simp only [if_true, Nat.lt_irrefl, if_false, dcell, upd_same]
              congr 1
              omega
            · simp only [if_neg h]
              by_cases h2 : i < j
              · rw [if_pos (show i < j + 1 by omega), if_pos h2]
              · rw [if_neg (show ¬ i < j + 1 by omega), if_neg h2]; simp only [dcell, upd_other e d h]
          · exact Dif.step HP.out hjn (by omega)
          · exact HB.out.drew.setCell hle _
end Go.Proofs.YtblfinpfcpglcaaGreatDoor
