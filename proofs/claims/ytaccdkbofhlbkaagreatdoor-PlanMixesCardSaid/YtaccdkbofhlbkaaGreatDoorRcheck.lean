/- ratio: cut, Check, checks, sums.mul, Compare. ratio: checks, sums.do behind an error, sums.mul, Compare. -/
import Derived.Test.YtaccdkbofhlbkaaGreatDoorRone
import Derived.Test.YtaccdkbofhlbkaaGreatDoorRtext
namespace Go.Proofs.YtaccdkbofhlbkaaGreatDoor
open Go.RowKit MLab

theorem data47 : (⟨#[47]⟩ : ByteArray).data.toList = [47] := rfl
theorem numL_len (l : List UInt8) : (numL l).length ≤ l.length := by rw [numL, List.length_take]; omega
theorem denL_len (l : List UInt8) : (denL l).length ≤ l.length + 1 := by
  unfold denL; split
  · rw [List.length_drop]; omega
  · simp

set_option maxRecDepth 100000 in
set_option maxHeartbeats 1000000 in
theorem rcut_any (w : World) (s : ByteArray) (l : List UInt8) (hl : s.data.toList = l) (hsz : s.size < 4000000000) (hs : Std w) :
    Calls Tryz.prog 74 #[.string s] w fun e w' => e = .returned (.tuple #[.string ⟨(numL l).toArray⟩, .string ⟨(denL l).toArray⟩, .bool (wrB l)]) ∧ Below w.heap.size w w' := by
  have h1 := Tryz.strings_Cut_shaped s ⟨#[47]⟩ w hs.shp (by omega)
  rw [data47, hl, cut_slash] at h1
  by_cases hlt : sl l < l.length
  · rw [if_pos hlt] at h1
    have hw : wrB l = true := decide_eq_true hlt
    rw [hw]
    have H1 := hide h1
    clear h1 hl hlt hw hs
    go_enter Tryz.func74, Tryz.ntmps74
    go_wp2_with fail
    refine H1.out.mono ?_
    rintro e w1 ⟨rfl, n, rfl⟩
    go_wp2_with fail
    go_ret3
    exact ⟨rfl, below_drewN (Below.refl _ _) n⟩
  · rw [if_neg hlt] at h1
    have hw : wrB l = false := decide_eq_false hlt
    have hn : numL l = l := by rw [numL, List.take_of_length_le (by omega)]
    have hd : denL l = [49] := by rw [denL, if_neg hlt]
    rw [hw, hn, hd]
    have H1 := hide h1
    clear h1 hl hlt hw hn hd hs
    go_enter Tryz.func74, Tryz.ntmps74
    go_wp2_with fail
    refine H1.out.mono ?_
    rintro e w1 ⟨rfl, n, rfl⟩
    go_wp2_with fail
    go_ret3
    exact ⟨rfl, below_drewN (Below.refl _ _) n⟩

theorem std_next {w w1 : World} (h : Std w) (hb : Below w.heap.size w w1) : Std w1 := h.below hb (Nat.le_refl _)

set_option maxRecDepth 100000 in
set_option maxHeartbeats 4000000 in
theorem rcheck_any (w : World) (s : ByteArray) (l : List UInt8) (hl : s.data.toList = l) (hsz : s.size < 4000000000) (hs : Std w) :
    Calls Tryz.prog 98 #[.string s] w fun e w' => e = .returned (.int .i64 (chkR l)) ∧ Below w.heap.size w w' := by
  have HL := hide hl
  have HS := hide hs
  have hlz : l.length < 4000000000 := by rw [← hl, ← Lib.size_eq]; exact hsz
  have sn : (⟨(numL l).toArray⟩ : ByteArray).size ≤ 9223372036854775807 := by rw [ba_size]; have := numL_len l; omega
  have sd : (⟨(denL l).toArray⟩ : ByteArray).size ≤ 9223372036854775807 := by rw [ba_size]; have := denL_len l; omega
  have SN := hide sn
  have SD := hide sd
  clear hl hs sn sd
  by_cases e3 : chk (numL l) = 3
  · have hc : chkR l = 3 := by rw [chkR, if_pos (.inl e3)]
    have HC := hide hc
    have E3 := hide e3
    clear e3 hc
    go_enter Tryz.func98, Tryz.ntmps98
    go_wp2_with fail
    refine (rcut_any _ s l HL.out hsz HS.out).mono ?_
    rintro e w1 ⟨rfl, hb1⟩
    have B1 := hide hb1
    clear hb1
    go_wp2_with fail
    refine (check_any _ (numL l) rfl SN.out _).mono ?_
    rintro e w2 ⟨rfl, hb2⟩
    have B2 := hide (B1.out.trans (hb2.mono B1.out.size))
    clear hb2
    rw [E3.out]
    go_wp2_with fail
    refine (check_any _ (denL l) rfl SD.out _).mono ?_
    rintro e w3 ⟨rfl, hb3⟩
    have B3 := hide (B2.out.trans (hb3.mono B2.out.size))
    clear hb3
    go_wp2_with fail
    go_ret
    exact ⟨by rw [HC.out]; rfl, B3.out⟩
  · have he := chk_vals (numL l)
    by_cases f3 : chk (denL l) = 3
    · have hc : chkR l = 3 := by rw [chkR, if_pos (.inr f3)]
      have HC := hide hc
      have F3 := hide f3
      have e03 : (chk (numL l) == 3) = false := by rw [beq_eq_false_iff_ne]; exact e3
      clear e3 f3 hc he
      go_enter Tryz.func98, Tryz.ntmps98
      go_wp2_with fail
      refine (rcut_any _ s l HL.out hsz HS.out).mono ?_
      rintro e w1 ⟨rfl, hb1⟩
      have B1 := hide hb1
      clear hb1
      go_wp2_with fail
      refine (check_any _ (numL l) rfl SN.out _).mono ?_
      rintro e w2 ⟨rfl, hb2⟩
      have B2 := hide (B1.out.trans (hb2.mono B1.out.size))
      clear hb2
      go_wp2_with fail
      refine (check_any _ (denL l) rfl SD.out _).mono ?_
      rintro e w3 ⟨rfl, hb3⟩
      have B3 := hide (B2.out.trans (hb3.mono B2.out.size))
      clear hb3
      rw [F3.out]
      go_wp2_with fail
      go_ret
      exact ⟨by rw [HC.out]; rfl, B3.out⟩
    · have hf := chk_vals (denL l)
      by_cases e0 : chk (numL l) = 0
      · by_cases f0 : chk (denL l) = 0
        · obtain ⟨n, hn, hnb⟩ := chk_zero e0
          obtain ⟨d, hd, hdb⟩ := chk_zero f0
          have hcc : chkR l = if wrB l = false then 0 else if 1 < d ∧ Int.gcd n d = 1 then 0 else 3 := by
            rw [chkR, if_neg (by omega), if_neg (by omega), ← hn, ← hd, atoi_T, atoi_T]; rfl
          have E0 := hide e0
          have F0 := hide f0
          clear e3 f3 e0 f0 he hf
          cases hw : wrB l
          · have hc : chkR l = 0 := by rw [hcc, if_pos hw]
            have HC := hide hc
            have HW := hide hw
            clear hc hcc hn hd hw
            go_enter Tryz.func98, Tryz.ntmps98
            go_wp2_with fail
            refine (rcut_any _ s l HL.out hsz HS.out).mono ?_
            rintro e w1 ⟨rfl, hb1⟩
            have B1 := hide hb1
            clear hb1
            rw [HW.out]
            go_wp2_with fail
            refine (check_any _ (numL l) rfl SN.out _).mono ?_
            rintro e w2 ⟨rfl, hb2⟩
            have B2 := hide (B1.out.trans (hb2.mono B1.out.size))
            clear hb2
            rw [E0.out]
            go_wp2_with fail
            refine (check_any _ (denL l) rfl SD.out _).mono ?_
            rintro e w3 ⟨rfl, hb3⟩
            have B3 := hide (B2.out.trans (hb3.mono B2.out.size))
            clear hb3
            rw [F0.out]
            go_wp2_with fail
            go_ret
            exact ⟨by rw [HC.out]; rfl, B3.out⟩
          · rw [if_neg (by rw [hw]; simp)] at hcc
            have HW := hide hw
            have hn2 : (⟨(numL l).toArray⟩ : ByteArray) = ⟨(T n).toArray⟩ := by rw [hn]
            have hd2 : (⟨(denL l).toArray⟩ : ByteArray) = ⟨(T d).toArray⟩ := by rw [hd]
            have HN := hide hn2
            have HD := hide hd2
            have hgt : (⟨(T (Int.gcd n d : Int)).toArray⟩ : ByteArray).toList = T (Int.gcd n d : Int) := ba_toList _
            have HCC := hide hcc
            have HGT := hide hgt
            clear hn hd hn2 hd2 hcc hw hgt
            go_enter Tryz.func98, Tryz.ntmps98
            go_wp2_with fail
            refine (rcut_any _ s l HL.out hsz HS.out).mono ?_
            rintro e w1 ⟨rfl, hb1⟩
            have B1 := hide hb1
            clear hb1
            rw [HW.out]
            go_wp2_with fail
            refine (check_any _ (numL l) rfl SN.out _).mono ?_
            rintro e w2 ⟨rfl, hb2⟩
            have B2 := hide (B1.out.trans (hb2.mono B1.out.size))
            clear hb2
            rw [E0.out]
            go_wp2_with fail
            refine (check_any _ (denL l) rfl SD.out _).mono ?_
            rintro e w3 ⟨rfl, hb3⟩
            have B3 := hide (B2.out.trans (hb3.mono B2.out.size))
            clear hb3
            rw [F0.out]
            rw [HN.out, HD.out]
            go_wp2_with fail
            refine (compare_any _ _ _ d 1 ⟨rfl, T_one.symm, hdb, one_lt_big⟩).mono ?_
            rintro e w4 ⟨rfl, hb4⟩
            have B4 := hide (B3.out.trans (hb4.mono B3.out.size))
            clear hb4
            go_wp2_with fail
            refine (gcd_any _ _ _ n d ⟨rfl, rfl, hnb, hdb⟩ (std_next HS.out B4.out)).mono ?_
            rintro e w5 ⟨rfl, hb5⟩
            have B5 := hide (B4.out.trans (hb5.mono B4.out.size))
            clear hb5
            generalize (⟨(T (Int.gcd n d : Int)).toArray⟩ : ByteArray) = g at *
            by_cases h1 : 1 < d
            · have hsg : ¬ d ≤ 1 := by omega
              by_cases h2 : Int.gcd n d = 1
              · have hc : chkR l = 0 := by rw [HCC.out, if_pos ⟨h1, h2⟩]
                have HC := hide hc
                have hg1 : (g.toList == [49]) = true := by rw [HGT.out, h2, show ((1 : Nat) : Int) = 1 from rfl, T_one]; rfl
                have hg2 : (!(g.toList == [49])) = false := by rw [hg1]; rfl
                clear hc h1 h2
                go_wp2_with fail
                go_ret
                exact ⟨by rw [HC.out]; rfl, B5.out⟩
              · have hc : chkR l = 3 := by rw [HCC.out, if_neg (fun h => h2 h.2)]
                have HC := hide hc
                have hg1 : (g.toList == [49]) = false := by
                  rw [beq_eq_false_iff_ne, HGT.out, ← T_one]; intro e; have := T_inj e; omega
                have hg2 : (!(g.toList == [49])) = true := by rw [hg1]; rfl
                clear hc h1 h2
                go_wp2_with fail
                go_ret
                exact ⟨by rw [HC.out]; rfl, B5.out⟩
            · have hsg : d ≤ 1 := by omega
              have hc : chkR l = 3 := by rw [HCC.out, if_neg (fun h => h1 h.1)]
              have HC := hide hc
              clear hc h1
              go_wp2_with fail
              go_ret
              exact ⟨by rw [HC.out]; rfl, B5.out⟩
        · have f11 : chk (denL l) = 11 := by omega
          have hc : chkR l = 11 := by rw [chkR, if_neg (by omega), if_pos (.inr f0)]
          have HC := hide hc
          have E0 := hide e0
          have F11 := hide f11
          clear e3 f3 e0 f0 f11 he hf hc
          go_enter Tryz.func98, Tryz.ntmps98
          go_wp2_with fail
          refine (rcut_any _ s l HL.out hsz HS.out).mono ?_
          rintro e w1 ⟨rfl, hb1⟩
          have B1 := hide hb1
          clear hb1
          go_wp2_with fail
          refine (check_any _ (numL l) rfl SN.out _).mono ?_
          rintro e w2 ⟨rfl, hb2⟩
          have B2 := hide (B1.out.trans (hb2.mono B1.out.size))
          clear hb2
          rw [E0.out]
          go_wp2_with fail
          refine (check_any _ (denL l) rfl SD.out _).mono ?_
          rintro e w3 ⟨rfl, hb3⟩
          have B3 := hide (B2.out.trans (hb3.mono B2.out.size))
          clear hb3
          rw [F11.out]
          go_wp2_with fail
          go_ret
          exact ⟨by rw [HC.out]; rfl, B3.out⟩
      · have e11 : chk (numL l) = 11 := by omega
        have hc : chkR l = 11 := by rw [chkR, if_neg (by omega), if_pos (.inl e0)]
        have HC := hide hc
        have E11 := hide e11
        rcases (show chk (denL l) = 0 ∨ chk (denL l) = 11 by omega) with f0 | f11
        · have F0 := hide f0
          clear e3 f3 e0 f0 e11 he hf hc
          go_enter Tryz.func98, Tryz.ntmps98
          go_wp2_with fail
          refine (rcut_any _ s l HL.out hsz HS.out).mono ?_
          rintro e w1 ⟨rfl, hb1⟩
          have B1 := hide hb1
          clear hb1
          go_wp2_with fail
          refine (check_any _ (numL l) rfl SN.out _).mono ?_
          rintro e w2 ⟨rfl, hb2⟩
          have B2 := hide (B1.out.trans (hb2.mono B1.out.size))
          clear hb2
          rw [E11.out]
          go_wp2_with fail
          refine (check_any _ (denL l) rfl SD.out _).mono ?_
          rintro e w3 ⟨rfl, hb3⟩
          have B3 := hide (B2.out.trans (hb3.mono B2.out.size))
          clear hb3
          rw [F0.out]
          go_wp2_with fail
          go_ret
          exact ⟨by rw [HC.out]; rfl, B3.out⟩
        · have F11 := hide f11
          clear e3 f3 e0 f11 e11 he hf hc
          go_enter Tryz.func98, Tryz.ntmps98
          go_wp2_with fail
          refine (rcut_any _ s l HL.out hsz HS.out).mono ?_
          rintro e w1 ⟨rfl, hb1⟩
          have B1 := hide hb1
          clear hb1
          go_wp2_with fail
          refine (check_any _ (numL l) rfl SN.out _).mono ?_
          rintro e w2 ⟨rfl, hb2⟩
          have B2 := hide (B1.out.trans (hb2.mono B1.out.size))
          clear hb2
          rw [E11.out]
          go_wp2_with fail
          refine (check_any _ (denL l) rfl SD.out _).mono ?_
          rintro e w3 ⟨rfl, hb3⟩
          have B3 := hide (B2.out.trans (hb3.mono B2.out.size))
          clear hb3
          rw [F11.out]
          go_wp2_with fail
          go_ret
          exact ⟨by rw [HC.out]; rfl, B3.out⟩
end Go.Proofs.YtaccdkbofhlbkaaGreatDoor

namespace Go.Proofs.YtaccdkbofhlbkaaGreatDoor
open Go.RowKit MLab

/-- The first error of a list of texts of rational numbers. -/
def chkRs (L : List (List UInt8)) : Int := match L with
  | [] => 0
  | l :: t => if chkR l = 0 then chkRs t else chkR l
theorem chkRs_skip : ∀ (L : List (List UInt8)) (k : Nat), (∀ i l, i < k → L[i]? = some l → chkR l = 0) → chkRs L = chkRs (L.drop k)
  | _, 0, _ => rfl
  | [], k + 1, _ => rfl
  | l :: t, k + 1, h => by
    rw [chkRs, if_pos (h 0 l (by omega) rfl), List.drop_succ_cons]
    exact chkRs_skip t k fun i l' hi hl => h (i + 1) l' (by omega) (by simpa using hl)
theorem chkRs_fit : ∀ {L : List Rat}, (∀ q ∈ L, Fit q) → chkRs (L.map RT) = 0
  | [], _ => rfl
  | q :: t, h => by
    rw [List.map_cons, chkRs, if_pos (chkR_RT (h q (by simp)))]
    exact chkRs_fit fun p hp => h p (by simp [hp])
theorem chkRs_zero : ∀ {L : List (List UInt8)}, chkRs L = 0 → ∃ Q : List Rat, L = Q.map RT ∧ ∀ q ∈ Q, Fit q
  | [], _ => ⟨[], rfl, fun _ h => by cases h⟩
  | l :: t, h => by
    rw [chkRs] at h
    split at h
    · rename_i h0
      obtain ⟨q, rfl, hq⟩ := chkR_zero h0
      obtain ⟨Q, rfl, hQ⟩ := chkRs_zero h
      exact ⟨q :: Q, rfl, fun p hp => by rcases List.mem_cons.1 hp with rfl | hp; exact hq; exact hQ p hp⟩
    · rename_i h0
      exact absurd h h0

set_option maxRecDepth 100000 in
set_option maxHeartbeats 1000000 in
theorem checks_any (w : World) (v : Value) (L : List (List UInt8)) (hv : Strs w v L) (hL : L.length ≤ 1000000) (hsz : ∀ l ∈ L, l.length < 4000000000) (hs : Std w) :
    Calls Tryz.prog 73 #[v] w fun e w' => e = .returned (.int .i64 (chkRs L)) ∧ Below w.heap.size w w' := by
  obtain ⟨A, c, rfl, hc⟩ := id hv
  have HV := hide hv
  have HC := hide hc
  have HSZ := hide hsz
  have HS := hide hs
  clear hv hc hsz hs
  go_enter Tryz.func73, Tryz.ntmps73
  go_wp2_with fail
  go_loopg [8] L.length (fun k i wr => ∃ j : Nat, i = .int .i64 (j : Int) ∧ k + j = L.length ∧ (∀ t l, t < j → L[t]? = some l → chkR l = 0) ∧ Below w.heap.size w wr)
  case atStart => exact ⟨0, rfl, rfl, fun t l h => by omega, Below.refl _ _⟩
  case round =>
    obtain ⟨j, rfl, hk, hok, hb⟩ := hrel
    have hj : j ≤ L.length := by omega
    have HK := hide hk
    have HOK := hide hok
    have HB := hide hb
    clear hk hok hb
    by_cases hlt : j < L.length
    · have hji : (j : Int) < (L.length : Int) := by omega
      obtain ⟨b, off, hA, hcell⟩ := HC.out (by omega)
      obtain ⟨s, h1, h2⟩ := hcell j _ (List.getElem?_eq_getElem hlt)
      have hsl : s.size < 4000000000 := by rw [Lib.size_eq, h2]; exact HSZ.out _ (List.getElem_mem hlt)
      have hc1 : wr.cell? ⟨b, off + j, none⟩ = some (.string s) := (HB.out.cell (p := ⟨b, off + j, none⟩) (block_lt_of_cell h1)).trans h1
      have H2 := hide h2
      clear hcell h1 h2
      subst hA
      go_wp2_with fail
      refine (rcheck_any _ s _ H2.out hsl (std_next HS.out HB.out)).mono ?_
      rintro e w2 ⟨rfl, hb2⟩
      have HB2 := hide hb2
      clear hb2
      by_cases hz : chkR L[j] = 0
      · have hz1 : (chkR L[j] == 0) = true := by rw [hz]; rfl
        have hz2 : (chkR L[j] != 0) = false := by rw [hz]; rfl
        have HZ := hide hz
        clear hz
        go_wp2_with fail
        go_roundg (gk - 1)
        case measure => have := HK.out; omega
        case rel =>
          refine ⟨j + 1, by go_num, by have := HK.out; omega, fun t l ht hl => ?_, HB.out.trans (HB2.out.mono HB.out.size)⟩
          by_cases e : t = j
          · subst e; rw [List.getElem?_eq_getElem hlt] at hl; injection hl with hl; rw [← hl]; exact HZ.out
          · exact HOK.out t l (by omega) hl
      · have hz1 : (chkR L[j] == 0) = false := by rw [beq_eq_false_iff_ne]; exact hz
        have hz2 : (chkR L[j] != 0) = true := by rw [bne_iff_ne]; exact hz
        have HZ := hide hz
        clear hz
        go_wp2_with fail
        go_ret
        refine ⟨?_, HB.out.trans (HB2.out.mono HB.out.size)⟩
        rw [chkRs_skip L j HOK.out, List.drop_eq_getElem_cons hlt, chkRs, if_neg HZ.out]; rfl
    · have hji : ¬ (j : Int) < (L.length : Int) := by omega
      go_wp2_with fail
      go_ret
      refine ⟨?_, HB.out⟩
      rw [chkRs_skip L j HOK.out, List.drop_of_length_le (by omega)]; rfl

theorem RT_len {q : Rat} (h : Fit q) : (RT q).length ≤ 2051 := by
  have h1 := T_len_big h.1
  have h2 := big_len.2 h.2
  unfold RT
  split
  · omega
  · rw [List.length_append, List.length_cons]; omega
/-- The check of two right numbers. -/
theorem checks_two (w : World) (a b : ByteArray) (p q : Rat) (ha : a.data.toList = RT p) (hb : b.data.toList = RT q) (hp : Fit p) (hq : Fit q) (t : TypeId) (hs : Std w) :
    Calls Tryz.prog 73 #[.slice (some ⟨w.heap.size, 0, none⟩) 2 2] (w.alloc (.cells #[.string a, .string b] t)) fun e w' => e = .returned (.int .i64 0) ∧ Below w.heap.size w w' := by
  have h1 := strs_two w a b t
  rw [ha, hb] at h1
  have hbl : Below w.heap.size w (w.alloc (.cells #[.string a, .string b] t)) := (Below.refl _ _).alloc (Nat.le_refl _) _
  refine (checks_any _ _ _ h1 (by simp) ?_ (std_next hs hbl)).mono ?_
  · intro l hl
    have l1 := RT_len hp
    have l2 := RT_len hq
    rcases List.mem_cons.1 hl with rfl | hl
    · omega
    · rcases List.mem_cons.1 hl with rfl | hl
      · omega
      · cases hl
  · rintro e w' ⟨rfl, hbb⟩
    rw [show chkRs [RT p, RT q] = 0 from chkRs_fit (L := [p, q]) (fun x hx => by
      rcases List.mem_cons.1 hx with rfl | hx
      · exact hp
      · rcases List.mem_cons.1 hx with rfl | hx
        · exact hq
        · cases hx)]
    exact ⟨rfl, hbl.trans (hbb.mono (by simp))⟩

set_option maxRecDepth 100000 in
theorem do_err (w : World) (b : Nat) (f : FuncId) (s t : ByteArray) (e0 : Int) (he : e0 ≠ 0) (hb : Sums w b e0) :
    Calls Tryz.prog 103 #[.pointer (some ⟨b, 0, none⟩), .func (.func f) #[] #[], .string s, .string t] w fun e w' => e = .returned (.string ⟨#[48]⟩) ∧ w = w' := by
  have c0 := hb.err
  have e1 : (e0 != 0) = true := by rw [bne_iff_ne]; exact he
  have e2 : (e0 == 0) = false := by rw [beq_eq_false_iff_ne]; exact he
  clear hb he
  go_enter Tryz.func103, Tryz.ntmps103
  go_wp2_with fail
  go_ret
  exact ⟨rfl, rfl⟩

/-- A product, step by step: the value and the error number. -/
def mulStep (p : Int × Int) (z : Int) : Int × Int := if p.2 ≠ 0 then (0, p.2) else if (p.1 * z).natAbs < Big then (p.1 * z, 0) else (0, 11)
def mulS (e : Int) (zs : List Int) : Int × Int := zs.foldl mulStep (1, e)
theorem mulS_snoc (e : Int) (zs : List Int) (z : Int) : mulS e (zs ++ [z]) = mulStep (mulS e zs) z := by rw [mulS, List.foldl_append]; rfl
theorem mulS_big (e : Int) : ∀ zs, (mulS e zs).1.natAbs < Big := by
  have h0 : (0 : Int).natAbs < Big := Nat.lt_of_lt_of_le (by decide) (Nat.le_of_lt one_lt_big)
  have key : ∀ (zs : List Int) (p : Int × Int), p.1.natAbs < Big → (zs.foldl mulStep p).1.natAbs < Big := by
    intro zs
    induction zs with
    | nil => intro p h; exact h
    | cons z t ih =>
      intro p h
      refine ih _ ?_
      unfold mulStep
      split
      · exact h0
      · split
        · assumption
        · exact h0
  exact fun zs => key zs _ one_lt_big

set_option maxRecDepth 100000 in
set_option maxHeartbeats 2000000 in
theorem rmul_any (w : World) (b g : Nat) (zs : List Int) (t : TypeId) (e0 : Int) (hg : Blk w g t ((zs.map fun z => Value.string ⟨(T z).toArray⟩).toArray)) (hgb : g ≠ b) (hz : ∀ z ∈ zs, z.natAbs < Big) (hL : zs.length ≤ 1000000) (hb : Sums w b e0) (hs : ∀ W, w.grownBy W (some b) → Std W) (cap : Nat) :
    Calls Tryz.prog 57 #[.pointer (some ⟨b, 0, none⟩), .slice (some ⟨g, 0, none⟩) zs.length cap] w fun e w' => e = .returned (.string ⟨(T (mulS e0 zs).1).toArray⟩) ∧ w.grownBy w' (some b) ∧ Sums w' b (mulS e0 zs).2 := by
  have HG := hide hg
  have HZ := hide hz
  have HB := hide hb
  have HS := hide hs
  clear hg hz hb hs
  go_enter Tryz.func57, Tryz.ntmps57
  go_wp2_with fail
  go_loopg [5, 13] zs.length (fun k v i wr => ∃ j : Nat, i = .int .i64 (j : Int) ∧ k + j = zs.length ∧ v = .string ⟨(T (mulS e0 (zs.take j)).1).toArray⟩ ∧ w.grownBy wr (some b) ∧ Sums wr b (mulS e0 (zs.take j)).2)
  case atStart => exact ⟨0, rfl, rfl, by rw [List.take_zero]; exact congrArg (fun l : List UInt8 => Value.string ⟨l.toArray⟩) T_one.symm, only_refl _ _, HB.out⟩
  case round =>
    obtain ⟨j, rfl, hk, rfl, hgr, hS⟩ := hrel
    have hj : j ≤ zs.length := by omega
    have HK := hide hk
    have HGR := hide hgr
    clear hk hgr
    by_cases hlt : j < zs.length
    · have hji : (j : Int) < (zs.length : Int) := by omega
      have hgw := HG.out.grown HGR.out (by intro e; injection e with e; exact hgb e)
      have hc : wr.cell? ⟨g, j, none⟩ = some (.string ⟨(T zs[j]).toArray⟩) := by rw [hgw.cell]; simp [hlt]
      have hsn : mulS e0 (zs.take (j + 1)) = mulStep (mulS e0 (zs.take j)) zs[j] := by rw [List.take_succ_eq_append_getElem hlt, mulS_snoc]
      have hbig := mulS_big e0 (zs.take j)
      have hzb := HZ.out _ (List.getElem_mem hlt)
      have HSN := hide hsn
      have HBG := hide hbig
      have HZB := hide hzb
      clear hsn hbig hzb hgw
      generalize hp : mulS e0 (zs.take j) = p at *
      have HP := hide hp
      clear hp
      generalize zs[j] = z at *
      by_cases he : p.2 = 0
      · have HE := hide he
        rw [he] at hS
        have D1 := hide (do_mul wr b ⟨(T p.1).toArray⟩ ⟨(T z).toArray⟩ _ hS (mul_any wr _ _ p.1 z ⟨rfl, rfl, HBG.out, HZB.out⟩ (HS.out _ HGR.out)))
        clear hS he
        go_wp2_with fail
        refine D1.out.mono ?_
        rintro e w1 ⟨rfl, hg1, hS1⟩
        have G1 := hide (only_trans HGR.out hg1)
        have S1 := hide hS1
        clear hg1 hS1 D1
        go_wp2_with fail
        go_roundg (gk - 1)
        case measure => have := HK.out; omega
        case rel =>
          refine ⟨j + 1, by go_num, by have := HK.out; omega, ?_, G1.out, ?_⟩
          · rw [HSN.out, mulStep, if_neg (by rw [HE.out]; simp)]
            by_cases h : (p.1 * z).natAbs < Big
            · rw [if_pos h, doRes_ok h]
            · rw [if_neg h, lim_no h]; exact congrArg (fun l : List UInt8 => Value.string ⟨l.toArray⟩) T_zero.symm
          · rw [HSN.out, mulStep, if_neg (by rw [HE.out]; simp)]
            have := S1.out
            by_cases h : (p.1 * z).natAbs < Big
            · rw [if_pos h]; rw [lim_ok h] at this; exact this
            · rw [if_neg h]; rw [lim_no h] at this; exact this
      · have HE := hide he
        have D1 := hide (do_err wr b 94 ⟨(T p.1).toArray⟩ ⟨(T z).toArray⟩ _ he hS)
        have S0 := hide hS
        clear hS he
        go_wp2_with fail
        refine D1.out.mono ?_
        rintro e w1 ⟨rfl, rfl⟩
        clear D1
        go_wp2_with fail
        go_roundg (gk - 1)
        case measure => have := HK.out; omega
        case rel =>
          refine ⟨j + 1, by go_num, by have := HK.out; omega, ?_, HGR.out, ?_⟩
          · rw [HSN.out, mulStep, if_pos HE.out]; exact congrArg (fun l : List UInt8 => Value.string ⟨l.toArray⟩) T_zero.symm
          · rw [HSN.out, mulStep, if_pos HE.out]; exact S0.out
    · have hji : ¬ (j : Int) < (zs.length : Int) := by omega
      have hf : zs.take j = zs := List.take_of_length_le (by omega)
      rw [hf] at hS
      have HF := hide hf
      have S0 := hide hS
      clear hS hf
      go_wp2_with fail
      go_ret
      exact ⟨by rw [HF.out]; rfl, HGR.out, S0.out⟩

theorem mulS_two {a b : Int} (ha : a.natAbs < Big) : mulS 0 [a, b] = if (a * b).natAbs < Big then (a * b, 0) else (0, 11) := by
  have h1 : mulStep (1, 0) a = (a, 0) := by
    rw [mulStep, if_neg (by simp), if_pos (by rw [Int.one_mul]; exact ha), Int.one_mul]
  rw [mulS, List.foldl_cons, List.foldl_cons, List.foldl_nil, h1, mulStep, if_neg (by simp)]
theorem mulS_err {e a b : Int} (he : e ≠ 0) : mulS e [a, b] = (0, e) := by
  show mulStep (mulStep (1, e) a) b = _
  have h1 : ∀ x z : Int, mulStep (x, e) z = (0, e) := fun x z => by unfold mulStep; rw [if_pos he]
  rw [h1, h1]

/-- What Compare returns for right numbers. -/
def cmpV (p q : Rat) : Value := if (p.num * q.den).natAbs < Big ∧ (q.num * p.den).natAbs < Big then .tuple #[.int .i64 (p.num * q.den - q.num * p.den).sign, .int .i64 0] else .tuple #[.int .i64 0, .int .i64 11]

set_option maxRecDepth 100000 in
set_option maxHeartbeats 4000000 in
theorem rcompare_any (w : World) (a b : ByteArray) (p q : Rat) (ha : a.data.toList = RT p) (hb : b.data.toList = RT q) (hp : Fit p) (hq : Fit q) (hs : Std w) :
    Calls Tryz.prog 31 #[.string a, .string b] w fun e w' => e = .returned (cmpV p q) ∧ Below w.heap.size w w' := by
  have HA := hide ha
  have HB := hide hb
  have HP := hide hp
  have HQ := hide hq
  have HS := hide hs
  have az : a.size < 4000000000 := by rw [Lib.size_eq, ha]; have := RT_len hp; omega
  have bz : b.size < 4000000000 := by rw [Lib.size_eq, hb]; have := RT_len hq; omega
  have C0 := hide (fun t => checks_two w a b p q ha hb hp hq t hs)
  have e1 : (⟨(numL (RT p)).toArray⟩ : ByteArray) = ⟨(T p.num).toArray⟩ := by rw [RT_num]
  have e2 : (⟨(denL (RT p)).toArray⟩ : ByteArray) = ⟨(T (p.den : Int)).toArray⟩ := by rw [RT_den]
  have e3 : (⟨(numL (RT q)).toArray⟩ : ByteArray) = ⟨(T q.num).toArray⟩ := by rw [RT_num]
  have e4 : (⟨(denL (RT q)).toArray⟩ : ByteArray) = ⟨(T (q.den : Int)).toArray⟩ := by rw [RT_den]
  have E1 := hide e1
  have E2 := hide e2
  have E3 := hide e3
  have E4 := hide e4
  clear ha hb hp hq hs e1 e2 e3 e4
  go_enter Tryz.func31, Tryz.ntmps31
  go_wp2_with fail
  refine (C0.out _).mono ?_
  rintro e w1 ⟨rfl, hb1⟩
  have B1 := hide hb1
  clear hb1 C0
  go_wp2_with fail
  refine (rcut_any _ a _ HA.out az (std_next HS.out B1.out)).mono ?_
  rintro e w2 ⟨rfl, hb2⟩
  rw [E1.out, E2.out]
  have B2 := hide (B1.out.trans (hb2.mono B1.out.size))
  clear hb2 B1
  go_wp2_with fail
  refine (rcut_any _ b _ HB.out bz (std_next HS.out B2.out)).mono ?_
  rintro e w3 ⟨rfl, hb3⟩
  rw [E3.out, E4.out]
  have B3 := hide (B2.out.trans (hb3.mono B2.out.size))
  clear hb3 B2
  go_upto_region 7 with (fail)
  have hS0 : Sums (w3.alloc (.cells #[.int .i64 0] 111)) w3.heap.size 0 := Blk.new w3 _ _
  have hb4 : Below w.heap.size w (w3.alloc (.cells #[.int .i64 0] 111)) := B3.out.alloc B3.out.size _
  have hz4 : w3.heap.size < (w3.alloc (.cells #[.int .i64 0] 111)).heap.size := by simp
  have hw3 := B3.out.size
  generalize (w3.alloc (.cells #[.int .i64 0] 111)) = w4 at *
  have S4 := hide hS0
  have B4 := hide hb4
  clear hS0 hb4
  go_wp2_with fail
  have hg5 := Blk.new w4 63 #[.string ⟨(T p.num).toArray⟩, .string ⟨(T (q.den : Int)).toArray⟩]
  have hS5 : Sums (w4.alloc (.cells #[.string ⟨(T p.num).toArray⟩, .string ⟨(T (q.den : Int)).toArray⟩] 63)) w3.heap.size 0 := Blk.alloc S4.out _
  have hb5 : Below w.heap.size w (w4.alloc (.cells #[.string ⟨(T p.num).toArray⟩, .string ⟨(T (q.den : Int)).toArray⟩] 63)) := B4.out.alloc B4.out.size _
  have hz5 : w4.heap.size < (w4.alloc (.cells #[.string ⟨(T p.num).toArray⟩, .string ⟨(T (q.den : Int)).toArray⟩] 63)).heap.size := by simp
  generalize (w4.alloc (.cells #[.string ⟨(T p.num).toArray⟩, .string ⟨(T (q.den : Int)).toArray⟩] 63)) = w5 at *
  have hst5 : ∀ W, w5.grownBy W (some w3.heap.size) → Below w.heap.size w W := fun W hg => below_only hb5 hg (by omega) hw3
  have X1 := hide (rmul_any w5 w3.heap.size w4.heap.size [p.num, (q.den : Int)] _ 0 hg5 (by omega) (by
    intro z hz
    rcases List.mem_cons.1 hz with rfl | hz
    · exact HP.out.1
    · rcases List.mem_cons.1 hz with rfl | hz
      · exact HQ.out.2
      · cases hz) (by simp) hS5 (fun W hg => std_next HS.out (hst5 W hg)) 2)
  have ST5 := hide hst5
  clear hg5 hS5 hb5 hst5
  refine X1.out.mono ?_
  rintro e w6 ⟨rfl, hg6, hS6⟩
  have B6 := hide (ST5.out _ hg6)
  have hz6 : w4.heap.size < w6.heap.size := Nat.lt_of_lt_of_le hz5 hg6.size
  have m1 := mulS_two (a := p.num) (b := (q.den : Int)) HP.out.1
  have M1 := hide m1
  have S6 := hide hS6
  clear hg6 hS6 m1 X1 ST5
  go_wp2_with fail
  have hg7 := Blk.new w6 63 #[.string ⟨(T q.num).toArray⟩, .string ⟨(T (p.den : Int)).toArray⟩]
  have hS7 : Sums (w6.alloc (.cells #[.string ⟨(T q.num).toArray⟩, .string ⟨(T (p.den : Int)).toArray⟩] 63)) w3.heap.size _ := Blk.alloc S6.out _
  have hb7 : Below w.heap.size w (w6.alloc (.cells #[.string ⟨(T q.num).toArray⟩, .string ⟨(T (p.den : Int)).toArray⟩] 63)) := B6.out.alloc B6.out.size _
  have hz7 : w6.heap.size < (w6.alloc (.cells #[.string ⟨(T q.num).toArray⟩, .string ⟨(T (p.den : Int)).toArray⟩] 63)).heap.size := by simp
  generalize (w6.alloc (.cells #[.string ⟨(T q.num).toArray⟩, .string ⟨(T (p.den : Int)).toArray⟩] 63)) = w7 at *
  have hst7 : ∀ W, w7.grownBy W (some w3.heap.size) → Below w.heap.size w W := fun W hg => below_only hb7 hg (by omega) hw3
  have X2 := hide (rmul_any w7 w3.heap.size w6.heap.size [q.num, (p.den : Int)] _ _ hg7 (by omega) (by
    intro z hz
    rcases List.mem_cons.1 hz with rfl | hz
    · exact HQ.out.1
    · rcases List.mem_cons.1 hz with rfl | hz
      · exact HP.out.2
      · cases hz) (by simp) hS7 (fun W hg => std_next HS.out (hst7 W hg)) 2)
  have ST7 := hide hst7
  clear hg7 hS7 hb7 hst7
  refine X2.out.mono ?_
  rintro e w8 ⟨rfl, hg8, hS8⟩
  have B8 := hide (ST7.out _ hg8)
  clear hg8 X2 ST7
  by_cases h1 : (p.num * q.den).natAbs < Big
  · rw [M1.out, if_pos h1] at hS8
    rw [M1.out, if_pos h1]
    have m2 := mulS_two (a := q.num) (b := (p.den : Int)) HQ.out.1
    rw [m2] at hS8
    rw [m2]
    clear m2
    by_cases h2 : (q.num * p.den).natAbs < Big
    · rw [if_pos h2] at hS8
      rw [if_pos h2]
      have c8 := Sums.err hS8
      have H1 := hide h1
      have H2 := hide h2
      have HC := hide (show cmpV p q = .tuple #[.int .i64 (p.num * q.den - q.num * p.den).sign, .int .i64 0] by rw [cmpV, if_pos ⟨h1, h2⟩])
      clear hS8 h1 h2
      go_wp2_with fail
      refine (compare_any _ _ _ (p.num * q.den) (q.num * p.den) ⟨rfl, rfl, H1.out, H2.out⟩).mono ?_
      rintro e w9 ⟨rfl, hb9⟩
      have B9 := hide (B8.out.trans (hb9.mono B8.out.size))
      clear hb9
      go_wp2_with fail
      go_ret2
      exact ⟨by rw [HC.out]; rfl, B9.out⟩
    · rw [if_neg h2] at hS8
      rw [if_neg h2]
      have c8 := Sums.err hS8
      have HC := hide (show cmpV p q = .tuple #[.int .i64 0, .int .i64 11] by rw [cmpV, if_neg (fun h => h2 h.2)])
      clear hS8 h1 h2
      go_wp2_with fail
      go_quiet (fail)
      go_wp2_with fail
      go_ret2
      exact ⟨by rw [HC.out]; rfl, below_drewN B8.out _⟩
  · rw [M1.out, if_neg h1] at hS8
    rw [M1.out, if_neg h1]
    have m2 := mulS_err (e := 11) (a := q.num) (b := (p.den : Int)) (by decide)
    rw [m2] at hS8
    rw [m2]
    clear m2
    have c8 := Sums.err hS8
    have HC := hide (show cmpV p q = .tuple #[.int .i64 0, .int .i64 11] by rw [cmpV, if_neg (fun h => h1 h.1)])
    clear hS8 h1
    go_wp2_with fail
    go_quiet (fail)
    go_wp2_with fail
    go_ret2
    exact ⟨by rw [HC.out]; rfl, below_drewN B8.out _⟩
end Go.Proofs.YtaccdkbofhlbkaaGreatDoor
