/- The reference's digits: less, column, number, brief, Turned, Of. -/
import Derived.Test.YtblfinpfcpglcaaGreatDoorRone
namespace Go.Proofs.YtblfinpfcpglcaaGreatDoor
open Go.RowKit MLab

theorem bytesLess_dig : ∀ (a b : List UInt8), Dig a → Dig b → a.length = b.length → Op.bytesLess a b = decide (val a < val b)
  | [], [], _, _, _ => by simp [Op.bytesLess, val]
  | [], _ :: _, _, _, h => by simp at h
  | _ :: _, [], _, _, h => by simp at h
  | x :: s, y :: t, hx, hy, h => by
    have hl : s.length = t.length := by simpa using h
    have ih := bytesLess_dig s t hx.tail hy.tail hl
    have v1 := val_lt hx.tail
    have v2 := val_lt hy.tail
    have h1 := hx.head
    have h2 := hy.head
    rw [Op.bytesLess, val_cons, val_cons, ← hl, ih]
    rw [← hl] at v2
    generalize 10 ^ s.length = P at *
    by_cases hlt : x < y
    · have hn : x.toNat < y.toNat := UInt8.lt_iff_toNat_lt.1 hlt
      have := Nat.mul_le_mul_right P (show x.toNat - 48 + 1 ≤ y.toNat - 48 by omega)
      rw [Nat.add_mul, Nat.one_mul] at this
      rw [decide_eq_true hlt, Bool.true_or]
      exact (decide_eq_true (by omega)).symm
    · rw [decide_eq_false hlt, Bool.false_or]
      by_cases he : x = y
      · subst he
        simp
      · rw [beq_eq_false_iff_ne.2 he, Bool.false_and]
        have hgt : y.toNat < x.toNat := by
          have h3 : ¬ x.toNat < y.toNat := fun h => hlt (UInt8.lt_iff_toNat_lt.2 h)
          have h4 : x.toNat ≠ y.toNat := fun h => he (UInt8.toNat_inj.1 h)
          omega
        have := Nat.mul_le_mul_right P (show y.toNat - 48 + 1 ≤ x.toNat - 48 by omega)
        rw [Nat.add_mul, Nat.one_mul] at this
        exact (decide_eq_false (by omega)).symm

set_option maxRecDepth 100000 in
set_option maxHeartbeats 1000000 in
theorem rlessd_any (w : World) (s t : ByteArray) (m n : Nat) (hs : s.data.toList = Lib.decDigits m) (ht : t.data.toList = Lib.decDigits n) :
    Calls Tryz.prog 178 #[.string s, .string t] w fun e w' => e = .returned (.bool (decide (m < n))) ∧ w = w' := by
  have h1 : s.size = (Lib.decDigits m).length := by rw [Lib.size_eq, hs]
  have h2 : t.size = (Lib.decDigits n).length := by rw [Lib.size_eq, ht]
  obtain ⟨l1, l2⟩ := dec_less m n
  by_cases hlt : s.size < t.size
  · have hd : decide (m < n) = true := decide_eq_true (l1 (by omega))
    have hi : (s.size : Int) < (t.size : Int) := by omega
    rw [hd]
    clear hd l1 l2 h1 h2 hs ht
    go_enter Tryz.func178, Tryz.ntmps178
    go_wp2_with fail
    go_ret
    exact ⟨rfl, rfl⟩
  · have hi : ¬ (s.size : Int) < (t.size : Int) := by omega
    by_cases heq : s.size = t.size
    · have hb : Op.bytesLess s.toList t.toList = decide (m < n) := by
        rw [Lib.toList_data, Lib.toList_data, hs, ht, bytesLess_dig _ _ (dec_dig m) (dec_dig n) (by omega), val_dec, val_dec]
      have hq : ((s.size : Int) == (t.size : Int)) = true := by rw [heq]; simp
      have HB := hide hb
      clear l1 l2 h1 h2 hs ht heq hb
      go_enter Tryz.func178, Tryz.ntmps178
      go_wp2_with fail
      go_ret
      exact ⟨by rw [← HB.out]; rfl, rfl⟩
    · have hd : decide (m < n) = false := decide_eq_false (by have := l2 (by omega); omega)
      have hq : ((s.size : Int) == (t.size : Int)) = false := by rw [beq_eq_false_iff_ne]; omega
      rw [hd]
      clear hd l1 l2 h1 h2 hs ht heq
      go_enter Tryz.func178, Tryz.ntmps178
      go_wp2_with fail
      go_ret
      exact ⟨rfl, rfl⟩

set_option maxRecDepth 100000 in
set_option maxHeartbeats 1000000 in
theorem rcol_add (w : World) (a b c : Int) (ha : 48 ≤ a) (ha' : a ≤ 57) (hb : 48 ≤ b) (hb' : b ≤ 57) (hc : 0 ≤ c) (hc' : c ≤ 1) :
    Calls Tryz.prog 204 #[.int .u8 a, .int .u8 b, .int .i64 c, .bool true] w fun e w' => e = .returned (.tuple #[.int .u8 (48 + (a - 48 + (b - 48) + c) % 10), .int .i64 ((a - 48 + (b - 48) + c) / 10)]) ∧ w = w' := by
  by_cases h : 9 < a - 48 + (b - 48) + c
  · rw [show (a - 48 + (b - 48) + c) % 10 = a - 48 + (b - 48) + c - 10 by omega, show (a - 48 + (b - 48) + c) / 10 = 1 by omega]
    go_enter Tryz.func204, Tryz.ntmps204
    go_wp2_with fail
    go_ret2
    exact ⟨ret_tup (by omega), rfl⟩
  · rw [show (a - 48 + (b - 48) + c) % 10 = a - 48 + (b - 48) + c by omega, show (a - 48 + (b - 48) + c) / 10 = 0 by omega]
    have h2 : ¬ a - 48 + (b - 48) + c < 0 := by omega
    go_enter Tryz.func204, Tryz.ntmps204
    go_wp2_with fail
    go_ret2
    exact ⟨rfl, rfl⟩

set_option maxRecDepth 100000 in
set_option maxHeartbeats 1000000 in
theorem rcol_sub (w : World) (a b c : Int) (ha : 48 ≤ a) (ha' : a ≤ 57) (hb : 48 ≤ b) (hb' : b ≤ 57) (hc : 0 ≤ c) (hc' : c ≤ 1) :
    Calls Tryz.prog 204 #[.int .u8 a, .int .u8 b, .int .i64 c, .bool false] w fun e w' => e = .returned (.tuple #[.int .u8 (48 + (a - 48 - (b - 48) - c) % 10), .int .i64 (-((a - 48 - (b - 48) - c) / 10))]) ∧ w = w' := by
  have h0 : ¬ 9 < a - 48 - (b - 48) - c := by omega
  by_cases h : a - 48 - (b - 48) - c < 0
  · rw [show (a - 48 - (b - 48) - c) % 10 = a - 48 - (b - 48) - c + 10 by omega, show (a - 48 - (b - 48) - c) / 10 = -1 by omega]
    go_enter Tryz.func204, Tryz.ntmps204
    go_wp2_with fail
    go_ret2
    exact ⟨ret_tup (by omega), rfl⟩
  · rw [show (a - 48 - (b - 48) - c) % 10 = a - 48 - (b - 48) - c by omega, show (a - 48 - (b - 48) - c) / 10 = 0 by omega]
    go_enter Tryz.func204, Tryz.ntmps204
    go_wp2_with fail
    go_ret2
    exact ⟨rfl, rfl⟩

theorem take_snoc {l : List UInt8} {k : Nat} (h : k < l.length) : l.take (k + 1) = l.take k ++ [l[k]] := List.take_succ_eq_append_getElem h
theorem val_take_le {l : List UInt8} (h : Dig l) (k : Nat) : val (l.take k) < 10 ^ k := by
  refine Nat.lt_of_lt_of_le (val_lt (h.take k)) (Nat.pow_le_pow_right (by decide) ?_)
  exact List.length_take_le _ _
theorem mag_T_len {s : ByteArray} {z : Int} (hs : s.data.toList = T z) : (Lib.decDigits z.natAbs).length ≤ s.size ∧ s.size ≤ (Lib.decDigits z.natAbs).length + 1 := by
  rw [Lib.size_eq, hs, T_length]; split <;> omega
theorem sval_turn (z : Int) : sval (!decide (z < 0)) z.natAbs = -z := by
  unfold sval
  by_cases h : z < 0
  · rw [decide_eq_true h]; simp; omega
  · rw [decide_eq_false h]; simp; omega

set_option maxRecDepth 100000 in
set_option maxHeartbeats 1000000 in
theorem rturned_any (w : World) (s : ByteArray) (z : Int) (hs : s.data.toList = T z) (hsz : s.size ≤ 1000000000000) :
    Calls Tryz.prog 136 #[.string s] w fun e w' => e = .returned (.string ⟨(T (-z)).toArray⟩) ∧ w = w' := by
  have HS := hide hs
  have hl := (mag_T_len hs).1
  clear hs
  go_enter Tryz.func136, Tryz.ntmps136
  go_wp2_with fail
  refine (rsize_any _ s _ HS.out hsz).mono ?_
  rintro e w1 ⟨rfl, rfl⟩
  rw [mag_T]
  go_wp2_with fail
  refine (rbelow_any _ s z HS.out).mono ?_
  rintro e w1 ⟨rfl, rfl⟩
  go_wp2_with fail
  refine (rsigned_any _ _ z.natAbs _ rfl (by rw [ba_size]; omega)).mono ?_
  rintro e w1 ⟨rfl, rfl⟩
  rw [sval_turn]
  go_wp2_with fail
  go_ret
  exact ⟨rfl, rfl⟩

set_option maxRecDepth 100000 in
set_option maxHeartbeats 1000000 in
theorem rnumber_any (w : World) (s : ByteArray) (z : Int) (hs : s.data.toList = T z) (hz : (Lib.decDigits z.natAbs).length ≤ 18) :
    Calls Tryz.prog 175 #[.string s] w fun e w' => e = .returned (.int .i64 z) ∧ w = w' := by
  have HS := hide hs
  have hl := (mag_T_len hs).2
  clear hs
  generalize hD : Lib.decDigits z.natAbs = D at *
  have hdd : Dig D := by rw [← hD]; exact dec_dig _
  have hvv : val D = z.natAbs := by rw [← hD]; exact val_dec _
  have HD := hide hD
  have HV := hide hvv
  have HG := hide hdd
  clear hD hdd hvv
  go_enter Tryz.func175, Tryz.ntmps175
  go_wp2_with fail
  refine (rsize_any _ s _ HS.out (by omega)).mono ?_
  rintro e w1 ⟨rfl, rfl⟩
  rw [mag_T, HD.out]
  have hgs : (⟨D.toArray⟩ : ByteArray).size = D.length := ba_size D
  have hgd : (⟨D.toArray⟩ : ByteArray).data.toList = D := rfl
  generalize (⟨D.toArray⟩ : ByteArray) = g at *
  have HGS := hide hgs
  have HGD := hide hgd
  have hg18 : g.size ≤ 18 := by omega
  clear hgs hgd
  go_wp2_with fail
  go_loopg [3, 5] D.length (fun k v i wr => ∃ j : Nat, i = .int .i64 (j : Int) ∧ k + j = D.length ∧ v = .int .i64 ((val (D.take j) : Nat) : Int) ∧ w = wr)
  case atStart => exact ⟨0, rfl, rfl, rfl, rfl⟩
  case round =>
    obtain ⟨j, rfl, hk, rfl, rfl⟩ := hrel
    have hv1 := val_take_le HG.out j
    have hjl : j ≤ D.length := by omega
    have hp : 10 ^ j ≤ 10 ^ 18 := Nat.pow_le_pow_right (by decide) (by omega)
    by_cases hlt : j < g.size
    · have hji : (j : Int) < (g.size : Int) := by omega
      have hjD : j < D.length := by rw [← HGS.out]; exact hlt
      have hp2 : 10 ^ j ≤ 10 ^ 17 := Nat.pow_le_pow_right (by decide) (by omega)
      have hb : g[j] = D[j] := by
        have : g.data.toList[j]? = D[j]? := by rw [HGD.out]
        rw [List.getElem?_eq_getElem hjD, List.getElem?_eq_getElem (by rw [← Lib.size_eq]; exact hlt)] at this
        exact Option.some.inj this
      have hdj := HG.out D[j] (List.getElem_mem hjD)
      rw [← hb] at hdj
      have hnext : val (D.take (j + 1)) = val (D.take j) * 10 + (g[j].toNat - 48) := by rw [take_snoc hjD, val_snoc, hb]
      have b1 : (val (D.take j) : Int) ≤ 100000000000000000 := by
        have : val (D.take j) < 100000000000000000 := Nat.lt_of_lt_of_le hv1 hp2
        omega
      obtain ⟨hd1, hd2⟩ := hdj
      have hd1' : (48 : Int) ≤ (g[j].toNat : Int) := by omega
      have hd2' : (g[j].toNat : Int) ≤ 57 := by omega
      have hnn : (0 : Int) ≤ (val (D.take j) : Int) := by omega
      have HN := hide hnext
      have HK := hide hk
      clear hnext hk hb hp hp2 hv1
      generalize val (D.take j) = V at *
      go_wp2_with fail
      go_roundg (gk - 1)
      case measure => have := HK.out; omega
      case rel => exact ⟨j + 1, by go_num, by have := HK.out; omega, by rw [HN.out]; congr 1; omega, rfl⟩
    · have hji : ¬ (j : Int) < (g.size : Int) := by omega
      have hfull : val (D.take j) = z.natAbs := by rw [List.take_of_length_le (by have := HGS.out; omega), HV.out]
      rw [hfull]
      have hzb : z.natAbs < 10 ^ 18 := by
        have h18 := hz
        rw [← HD.out] at h18
        exact (dec_length_le (by decide)).1 h18
      clear hv1 hp hfull hk
      by_cases hn : z < 0
      · have hd : decide (z < 0) = true := decide_eq_true hn
        have e1 : (z.natAbs : Int) = -z := by omega
        have E1 := hide e1
        clear e1
        go_wp2_with fail
        refine (rbelow_any _ s z HS.out).mono ?_
        rintro e w2 ⟨rfl, rfl⟩
        rw [hd]
        clear hd
        go_wp2_with fail
        go_ret
        exact ⟨ret_int (by have := E1.out; omega), rfl⟩
      · have hd : decide (z < 0) = false := decide_eq_false hn
        have e1 : (z.natAbs : Int) = z := by omega
        have E1 := hide e1
        clear e1
        go_wp2_with fail
        refine (rbelow_any _ s z HS.out).mono ?_
        rintro e w2 ⟨rfl, rfl⟩
        rw [hd]
        clear hd
        go_wp2_with fail
        go_ret
        exact ⟨ret_int (by have := E1.out; omega), rfl⟩

/-- Whether two numbers are short. -/
def briefB (x y : Int) : Bool := decide ((Lib.decDigits x.natAbs).length ≤ 18 ∧ (Lib.decDigits y.natAbs).length ≤ 18)
theorem brief_bound {x : Int} (h : (Lib.decDigits x.natAbs).length ≤ 18) : -1000000000000000000 < x ∧ x < 1000000000000000000 := by
  have : x.natAbs < 10 ^ 18 := (dec_length_le (by decide)).1 h
  omega

set_option maxRecDepth 100000 in
set_option maxHeartbeats 1000000 in
theorem rbrief_yes (w : World) (s t : ByteArray) (x y : Int) (hs : s.data.toList = T x) (ht : t.data.toList = T y) (hx : (Lib.decDigits x.natAbs).length ≤ 18) (hy : (Lib.decDigits y.natAbs).length ≤ 18) :
    Calls Tryz.prog 150 #[.string s, .string t] w fun e w' => e = .returned (.tuple #[.int .i64 x, .int .i64 y, .bool true]) ∧ w = w' := by
  have l1 := (mag_T_len hs).2
  have l2 := (mag_T_len ht).2
  have HS := hide hs
  have HT := hide ht
  have hx2 : (⟨(Lib.decDigits x.natAbs).toArray⟩ : ByteArray).size ≤ 18 := by rw [ba_size]; exact hx
  have hy2 : (⟨(Lib.decDigits y.natAbs).toArray⟩ : ByteArray).size ≤ 18 := by rw [ba_size]; exact hy
  have mx : (⟨(mag (T x)).toArray⟩ : ByteArray) = ⟨(Lib.decDigits x.natAbs).toArray⟩ := by rw [mag_T]
  have my : (⟨(mag (T y)).toArray⟩ : ByteArray) = ⟨(Lib.decDigits y.natAbs).toArray⟩ := by rw [mag_T]
  generalize (⟨(Lib.decDigits x.natAbs).toArray⟩ : ByteArray) = gx at *
  generalize (⟨(Lib.decDigits y.natAbs).toArray⟩ : ByteArray) = gy at *
  have MX := hide mx
  have MY := hide my
  have hx3 : ¬ (18 : Int) < (gx.size : Int) := by omega
  have hy3 : ¬ (18 : Int) < (gy.size : Int) := by omega
  clear hs ht mx my
  go_enter Tryz.func150, Tryz.ntmps150
  go_wp2_with fail
  refine (rsize_any _ s _ HS.out (by omega)).mono ?_
  rintro e w1 ⟨rfl, rfl⟩
  rw [MX.out]
  go_wp2_with fail
  refine (rsize_any _ t _ HT.out (by omega)).mono ?_
  rintro e w1 ⟨rfl, rfl⟩
  rw [MY.out]
  go_wp2_with fail
  refine (rnumber_any _ s x HS.out hx).mono ?_
  rintro e w1 ⟨rfl, rfl⟩
  go_wp2_with fail
  refine (rnumber_any _ t y HT.out hy).mono ?_
  rintro e w1 ⟨rfl, rfl⟩
  go_wp2_with fail
  go_ret3
  exact ⟨rfl, rfl⟩

set_option maxRecDepth 100000 in
set_option maxHeartbeats 1000000 in
theorem rbrief_no (w : World) (s t : ByteArray) (x y : Int) (hs : s.data.toList = T x) (ht : t.data.toList = T y) (hsz : s.size ≤ 1000000000000) (htz : t.size ≤ 1000000000000) (h : ¬ ((Lib.decDigits x.natAbs).length ≤ 18 ∧ (Lib.decDigits y.natAbs).length ≤ 18)) :
    Calls Tryz.prog 150 #[.string s, .string t] w fun e w' => e = .returned (.tuple #[.int .i64 0, .int .i64 0, .bool false]) ∧ w = w' := by
  have HS := hide hs
  have HT := hide ht
  have hx2 : (⟨(Lib.decDigits x.natAbs).toArray⟩ : ByteArray).size = (Lib.decDigits x.natAbs).length := by rw [ba_size]
  have hy2 : (⟨(Lib.decDigits y.natAbs).toArray⟩ : ByteArray).size = (Lib.decDigits y.natAbs).length := by rw [ba_size]
  have sx := (mag_T_len hs).1
  have sy := (mag_T_len ht).1
  have mx : (⟨(mag (T x)).toArray⟩ : ByteArray) = ⟨(Lib.decDigits x.natAbs).toArray⟩ := by rw [mag_T]
  have my : (⟨(mag (T y)).toArray⟩ : ByteArray) = ⟨(Lib.decDigits y.natAbs).toArray⟩ := by rw [mag_T]
  generalize (⟨(Lib.decDigits x.natAbs).toArray⟩ : ByteArray) = gx at *
  generalize (⟨(Lib.decDigits y.natAbs).toArray⟩ : ByteArray) = gy at *
  have MX := hide mx
  have MY := hide my
  clear hs ht mx my
  by_cases h1 : (Lib.decDigits x.natAbs).length ≤ 18
  · have h2 : ¬ (Lib.decDigits y.natAbs).length ≤ 18 := fun h2 => h ⟨h1, h2⟩
    have hx3 : ¬ (18 : Int) < (gx.size : Int) := by omega
    have hy3 : (18 : Int) < (gy.size : Int) := by omega
    have bx : gx.size ≤ 1000000000000 := by omega
    have by_ : gy.size ≤ 1000000000000 := by omega
    clear h h1 h2 hx2 hy2 sx sy
    go_enter Tryz.func150, Tryz.ntmps150
    go_wp2_with fail
    refine (rsize_any _ s _ HS.out hsz).mono ?_
    rintro e w1 ⟨rfl, rfl⟩
    rw [MX.out]
    go_wp2_with fail
    refine (rsize_any _ t _ HT.out htz).mono ?_
    rintro e w1 ⟨rfl, rfl⟩
    rw [MY.out]
    go_wp2_with fail
    go_ret3
    exact ⟨rfl, rfl⟩
  · have hx3 : (18 : Int) < (gx.size : Int) := by omega
    have bx : gx.size ≤ 1000000000000 := by omega
    clear h h1 hx2 hy2 sx sy
    go_enter Tryz.func150, Tryz.ntmps150
    go_wp2_with fail
    refine (rsize_any _ s _ HS.out hsz).mono ?_
    rintro e w1 ⟨rfl, rfl⟩
    rw [MX.out]
    go_wp2_with fail
    go_ret3
    exact ⟨rfl, rfl⟩
end Go.Proofs.YtblfinpfcpglcaaGreatDoor
