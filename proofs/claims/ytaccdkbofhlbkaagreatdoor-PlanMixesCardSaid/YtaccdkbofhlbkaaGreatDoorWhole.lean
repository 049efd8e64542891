/- whole: limited, sign, opposite, all, small, result, sum, and the operations. -/
import Derived.Test.YtaccdkbofhlbkaaGreatDoorRead
namespace Go.Proofs.YtaccdkbofhlbkaaGreatDoor
open Go.RowKit MLab

/-- A result that is not too long, or the error. -/
def lim (z : Int) : List UInt8 × Int := if z.natAbs < Big then (T z, 0) else ([], 11)
theorem lim_ok {z : Int} (h : z.natAbs < Big) : lim z = (T z, 0) := by rw [lim, if_pos h]
theorem lim_no {z : Int} (h : ¬ z.natAbs < Big) : lim z = ([], 11) := by rw [lim, if_neg h]

/-- A pair of a text and an error number. -/
def RetLim (p : List UInt8 × Int) (e : Ending) : Prop := e = .returned (.tuple #[.string ⟨p.1.toArray⟩, .int .i64 p.2])

theorem T_len19 {n : Int} (h0 : -9223372036854775808 ≤ n) (h1 : n ≤ 9223372036854775807) : (T n).length ≤ 21 := Go.Lib.itoa_length_le n h0 h1
theorem small_big {n : Int} (h0 : -9223372036854775808 ≤ n) (h1 : n ≤ 9223372036854775807) : n.natAbs < Big := by
  refine big_len.1 ?_
  have h2 := T_len19 h0 h1
  rw [T_length] at h2
  omega
theorem len9 {z : Int} (h : (T z).length ≤ 9) : z.natAbs < 1000000000 := by
  have h1 : (Go.Lib.decDigits z.natAbs).length ≤ 9 := by rw [T_length] at h; omega
  exact (dec_length_le (k := 9) (by omega)).1 h1
theorem T_len_big {z : Int} (h : z.natAbs < Big) : (T z).length ≤ 1025 := by
  have := big_len.2 h
  rw [T_length]
  split <;> omega

set_option maxRecDepth 100000 in
set_option maxHeartbeats 1000000 in
theorem limited_any (w : World) (b : Nat) (l : Bool) (n : Nat) (d : Nat → Nat) (z : Int) (hx : Wd w b l n d) (rx : Rt n d) (hz : sval l (num d n) = z) (hs : Std w) :
    Calls Tryz.prog 132 #[.pointer (some ⟨b, 0, none⟩)] w fun e w' => RetLim (lim z) e ∧ Below w.heap.size w w' := by
  have h1 := text_any w b l n d hx rx hs
  rw [hz] at h1
  have hlen : (T z).length ≤ 2089 := by
    have h2 : num d n < W9 ^ n := num_lt rx.lows n
    have hn := rx.fits
    have hzn : z.natAbs = num d n := by rw [← hz]; unfold sval; split <;> omega
    rw [T_length, hzn]
    by_cases h0 : n = 0
    · subst h0; have : num d 0 = 0 := rfl
      rw [this, dec_zero]; simp; split <;> omega
    · have := dec_len_W9 (m := n) (by omega) h2
      split <;> omega
  have hc := chk_T z
  have H1 := hide h1
  have HC := hide hc
  clear h1 hc hx rx hz
  go_enter Tryz.func132, Tryz.ntmps132
  go_wp2_with fail
  refine H1.out.mono ?_
  rintro e w1 ⟨rfl, hb⟩
  have HB := hide hb
  clear hb
  generalize hg : (⟨(T z).toArray⟩ : ByteArray) = g
  have hgd : g.data.toList = T z := by rw [← hg]
  have HG := hide hg
  have HGD := hide hgd
  clear hg hgd
  go_wp2_with fail
  refine (check_any g _ HGD.out (by rw [Lib.size_eq, HGD.out]; omega) _).mono ?_
  rintro e w2 ⟨rfl, hb2⟩
  have HB2 := hide hb2
  clear hb2
  by_cases hzb : z.natAbs < Big
  · rw [HC.out, if_pos hzb]
    have HZ := hide (lim_ok hzb)
    clear hzb
    go_wp2_with fail
    go_ret2
    refine ⟨?_, HB.out.trans (HB2.out.mono HB.out.size)⟩
    rw [HZ.out, RetLim, HG.out]; rfl
  · rw [HC.out, if_neg hzb]
    have HZ := hide (lim_no hzb)
    clear hzb
    go_wp2_with fail
    go_ret2
    refine ⟨?_, HB.out.trans (HB2.out.mono HB.out.size)⟩
    rw [HZ.out, RetLim]; rfl

set_option maxRecDepth 100000 in
set_option maxHeartbeats 1000000 in
theorem sign_any (w : World) (s : ByteArray) (z : Int) (hs : s.data.toList = T z) :
    Calls Tryz.prog 118 #[.string s] w fun e w' => e = .returned (.int .i64 z.sign) ∧ w = w' := by
  have hl : s.toList = T z := by rw [Lib.toList_data, hs]
  have hne : 0 < s.size := by rw [Lib.size_eq, hs]; exact List.length_pos_iff.2 (T_ne z)
  have hbit := T_head z _ (getElem_head hs hne)
  by_cases h0 : z = 0
  · have ht : (s.toList == [48]) = true := by rw [hl, h0, T_zero]; rfl
    subst h0
    clear hs hl hbit
    go_enter Tryz.func118, Tryz.ntmps118
    go_wp2_with fail
    go_ret
    exact ⟨rfl, rfl⟩
  · have ht : (s.toList == [48]) = false := by
      rw [beq_eq_false_iff_ne, hl]; intro e; exact h0 (T_inj (e.trans T_zero.symm))
    by_cases hn : z < 0
    · have hb : ((s[0].toNat : Int) == 45) = true := by rw [hbit]; simpa using hn
      have hsg : z.sign = -1 := Int.sign_eq_neg_one_iff_neg.2 hn
      rw [hsg]
      clear hs hl hbit hsg h0 hn
      go_enter Tryz.func118, Tryz.ntmps118
      go_wp2_with fail
      go_ret
      exact ⟨rfl, rfl⟩
    · have hb : ((s[0].toNat : Int) == 45) = false := by rw [hbit]; simpa using hn
      have hsg : z.sign = 1 := Int.sign_eq_one_iff_pos.2 (by omega)
      rw [hsg]
      clear hs hl hbit hsg h0 hn
      go_enter Tryz.func118, Tryz.ntmps118
      go_wp2_with fail
      go_ret
      exact ⟨rfl, rfl⟩

set_option maxRecDepth 100000 in
set_option maxHeartbeats 1000000 in
theorem result_any (n : Int) (h0 : -9223372036854775808 ≤ n) (h1 : n ≤ 9223372036854775807) (w : World) (hs : Std w) :
    Calls Tryz.prog 129 #[.int .i64 n] w fun e w' => RetLim (lim n) e ∧ Below w.heap.size w w' := by
  have hl := lim_ok (small_big h0 h1)
  have HL := hide hl
  clear hl
  go_enter Tryz.func129, Tryz.ntmps129
  go_wp2_with fail
  refine (of_any n h0 h1 w hs).mono ?_
  rintro e w1 ⟨rfl, hb⟩
  go_wp2_with fail
  go_ret2
  exact ⟨by rw [HL.out]; rfl, hb⟩

/-! ### Lists of texts -/

/-- The slice value v reads as these texts. -/
def Strs (w : World) (v : Value) (L : List (List UInt8)) : Prop :=
  ∃ (A : Option Addr) (c : Nat), v = .slice A L.length c ∧ (0 < L.length → ∃ b off, A = some ⟨b, off, none⟩ ∧ ∀ i l, L[i]? = some l → ∃ s : ByteArray, w.cell? ⟨b, off + i, none⟩ = some (.string s) ∧ s.data.toList = l)

theorem Strs.below {w w' : World} {v : Value} {L : List (List UInt8)} (h : Strs w v L) (hb : Below w.heap.size w w') : Strs w' v L := by
  obtain ⟨A, c, hv, hc⟩ := h
  refine ⟨A, c, hv, fun h0 => ?_⟩
  obtain ⟨b, off, hA, hcell⟩ := hc h0
  refine ⟨b, off, hA, fun i l hi => ?_⟩
  obtain ⟨s, h1, h2⟩ := hcell i l hi
  have hlt := block_lt_of_cell h1
  exact ⟨s, (hb.cell (p := ⟨b, off + i, none⟩) hlt).trans h1, h2⟩

/-- The first error of a list of texts. -/
def chkAll (L : List (List UInt8)) : Int := match L with
  | [] => 0
  | l :: t => if chk l = 0 then chkAll t else chk l
theorem chkAll_skip : ∀ (L : List (List UInt8)) (k : Nat), (∀ i l, i < k → L[i]? = some l → chk l = 0) → chkAll L = chkAll (L.drop k)
  | _, 0, _ => rfl
  | [], k + 1, _ => rfl
  | l :: t, k + 1, h => by
    rw [chkAll, if_pos (h 0 l (by omega) rfl), List.drop_succ_cons]
    exact chkAll_skip t k fun i l' hi hl => h (i + 1) l' (by omega) (by simpa using hl)

set_option maxRecDepth 100000 in
set_option maxHeartbeats 1000000 in
theorem all_any (w : World) (v : Value) (L : List (List UInt8)) (hv : Strs w v L) (hL : L.length ≤ 1000000) (hsz : ∀ l ∈ L, l.length ≤ 9223372036854775807) :
    Calls Tryz.prog 106 #[v] w fun e w' => e = .returned (.int .i64 (chkAll L)) ∧ Below w.heap.size w w' := by
  obtain ⟨A, c, rfl, hc⟩ := id hv
  have HV := hide hv
  have HC := hide hc
  have HSZ := hide hsz
  clear hv hc hsz
  go_enter Tryz.func106, Tryz.ntmps106
  go_wp2_with fail
  go_loopg [8] L.length (fun k i wr => ∃ j : Nat, i = .int .i64 (j : Int) ∧ k + j = L.length ∧ (∀ t l, t < j → L[t]? = some l → chk l = 0) ∧ Below w.heap.size w wr)
  case atStart => exact ⟨0, rfl, rfl, fun t l h => by omega, Below.refl _ _⟩
  case round =>
    obtain ⟨j, rfl, hk, hok, hb⟩ := hrel
    have hj : j ≤ L.length := by omega
    have HK := hide hk
    have HOK := hide hok
    have HB := hide hb
    clear hk hok hb
    by_cases hlt : j < L.length
    · have hji : (j : Int) < (L.length : Int) := by omega
      obtain ⟨b, off, hA, hcell⟩ := HC.out (by omega)
      obtain ⟨s, h1, h2⟩ := hcell j _ (List.getElem?_eq_getElem hlt)
      have hsl : s.size ≤ 9223372036854775807 := by rw [Lib.size_eq, h2]; exact HSZ.out _ (List.getElem_mem hlt)
      have hc1 : wr.cell? ⟨b, off + j, none⟩ = some (.string s) := (HB.out.cell (p := ⟨b, off + j, none⟩) (block_lt_of_cell h1)).trans h1
      have H2 := hide h2
      clear hcell h1 h2
      subst hA
      go_wp2_with fail
      refine (check_any s _ H2.out hsl _).mono ?_
      rintro e w2 ⟨rfl, hb2⟩
      have HB2 := hide hb2
      clear hb2
      by_cases hz : chk L[j] = 0
      · have hz1 : (chk L[j] == 0) = true := by rw [hz]; rfl
        have hz2 : (chk L[j] != 0) = false := by rw [hz]; rfl
        have HZ := hide hz
        clear hz
        go_wp2_with fail
        go_roundg (gk - 1)
        case measure => have := HK.out; omega
        case rel =>
          refine ⟨j + 1, by go_num, by have := HK.out; omega, fun t l ht hl => ?_, HB.out.trans (HB2.out.mono HB.out.size)⟩
          by_cases e : t = j
          · subst e; rw [List.getElem?_eq_getElem hlt] at hl; injection hl with hl; rw [← hl]; exact HZ.out
          · exact HOK.out t l (by omega) hl
      · have hz1 : (chk L[j] == 0) = false := by rw [beq_eq_false_iff_ne]; exact hz
        have hz2 : (chk L[j] != 0) = true := by rw [bne_iff_ne]; exact hz
        have HZ := hide hz
        clear hz
        go_wp2_with fail
        go_ret
        refine ⟨?_, HB.out.trans (HB2.out.mono HB.out.size)⟩
        rw [chkAll_skip L j HOK.out, List.drop_eq_getElem_cons hlt, chkAll, if_neg HZ.out]; rfl
    · have hji : ¬ (j : Int) < (L.length : Int) := by omega
      go_wp2_with fail
      go_ret
      refine ⟨?_, HB.out⟩
      rw [chkAll_skip L j HOK.out, List.drop_of_length_le (by omega)]; rfl

theorem chkAll_two {x y : Int} (hx : x.natAbs < Big) (hy : y.natAbs < Big) : chkAll [T x, T y] = 0 := by
  rw [chkAll, chk_T, if_pos hx, if_pos rfl, chkAll, chk_T, if_pos hy, if_pos rfl]; rfl

theorem strs_two (w : World) (a b : ByteArray) (t : TypeId) : Strs (w.alloc (.cells #[.string a, .string b] t)) (.slice (some ⟨w.heap.size, 0, none⟩) 2 2) [a.data.toList, b.data.toList] := by
  refine ⟨_, 2, rfl, fun _ => ⟨w.heap.size, 0, rfl, fun i l hi => ?_⟩⟩
  have hb := Blk.new w t #[.string a, .string b]
  match i, hi with
  | 0, hi => exact ⟨a, by rw [hb.cell]; rfl, by simpa using hi⟩
  | 1, hi => exact ⟨b, by rw [hb.cell]; rfl, by simpa using hi⟩

/-- The check of two right integers. -/
theorem all_two (w : World) (a b : ByteArray) (x y : Int) (ha : a.data.toList = T x) (hb : b.data.toList = T y) (hx : x.natAbs < Big) (hy : y.natAbs < Big) (t : TypeId) :
    Calls Tryz.prog 106 #[.slice (some ⟨w.heap.size, 0, none⟩) 2 2] (w.alloc (.cells #[.string a, .string b] t)) fun e w' => e = .returned (.int .i64 0) ∧ Below w.heap.size w w' := by
  have h1 := strs_two w a b t
  rw [ha, hb] at h1
  refine (all_any _ _ _ h1 (by simp) ?_).mono ?_
  · intro l hl
    have l1 := T_len_big hx
    have l2 := T_len_big hy
    rcases List.mem_cons.1 hl with rfl | hl
    · omega
    · rcases List.mem_cons.1 hl with rfl | hl
      · omega
      · cases hl
  · rintro e w' ⟨rfl, hbb⟩
    rw [chkAll_two hx hy]
    exact ⟨rfl, ((Below.refl _ _).alloc (Nat.le_refl _) _).trans (hbb.mono (by simp))⟩

set_option maxRecDepth 100000 in
set_option maxHeartbeats 1000000 in
theorem small_yes (w : World) (a b : ByteArray) (x y : Int) (ha : a.data.toList = T x) (hb : b.data.toList = T y) (hx : a.size ≤ 9) (hy : b.size ≤ 9) :
    Calls Tryz.prog 128 #[.string a, .string b] w fun e w' => e = .returned (.tuple #[.int .i64 x, .int .i64 y, .bool true]) ∧ Below w.heap.size w w' := by
  have h1 : ¬ (9 : Int) < (a.size : Int) := by omega
  have h2 : ¬ (9 : Int) < (b.size : Int) := by omega
  have l1 : (T x).length ≤ 18 := by rw [← ha, ← Lib.size_eq]; omega
  have l2 : (T y).length ≤ 18 := by rw [← hb, ← Lib.size_eq]; omega
  have HA := hide ha
  have HB := hide hb
  clear ha hb
  go_enter Tryz.func128, Tryz.ntmps128
  go_wp2_with fail
  refine (atoi_any a _ HA.out x l1 (atoi_T x) _).mono ?_
  rintro e w1 ⟨rfl, hb1⟩
  go_wp2_with fail
  refine (atoi_any b _ HB.out y l2 (atoi_T y) _).mono ?_
  rintro e w2 ⟨rfl, hb2⟩
  go_wp2_with fail
  go_ret3
  exact ⟨rfl, hb1.trans (hb2.mono hb1.size)⟩

set_option maxRecDepth 100000 in
set_option maxHeartbeats 1000000 in
theorem small_no (w : World) (a b : ByteArray) (h : 9 < a.size ∨ 9 < b.size) :
    Calls Tryz.prog 128 #[.string a, .string b] w fun e w' => e = .returned (.tuple #[.int .i64 0, .int .i64 0, .bool false]) ∧ w = w' := by
  by_cases h1 : 9 < a.size
  · have h1' : (9 : Int) < (a.size : Int) := by omega
    clear h
    go_enter Tryz.func128, Tryz.ntmps128
    go_wp2_with fail
    go_ret3
    exact ⟨rfl, rfl⟩
  · have h1' : ¬ (9 : Int) < (a.size : Int) := by omega
    have h2' : (9 : Int) < (b.size : Int) := by omega
    clear h
    go_enter Tryz.func128, Tryz.ntmps128
    go_wp2_with fail
    go_ret3
    exact ⟨rfl, rfl⟩
end Go.Proofs.YtaccdkbofhlbkaaGreatDoor
