/- whole.text writes a number; whole.limited does so if it is not too long. whole.read reads an integer into words. -/
import Derived.Test.YtaccdkbofhlbkaaGreatDoorCheck
import Derived.Test.YtaccdkbofhlbkaaGreatDoorEstimate
import Derived.Deep.RegionWith
namespace Go.Proofs.YtaccdkbofhlbkaaGreatDoor
open Go.RowKit MLab

/-- The words from j on. -/
def hi (d : Nat → Nat) (n j : Nat) : Nat := num (fun t => d (t + j)) (n - j)
theorem hi_step {d : Nat → Nat} {n j : Nat} (h : j < n) : hi d n j = hi d n (j + 1) * 10 ^ 9 + d j := by
  unfold hi
  obtain ⟨m, hm⟩ : ∃ m, n - j = m + 1 := ⟨n - j - 1, by omega⟩
  rw [hm, num_head, show n - (j + 1) = m by omega]
  have : (fun i => (fun t => d (t + j)) (i + 1)) = fun t => d (t + (j + 1)) := by funext i; show d (i + 1 + j) = _; congr 1; omega
  rw [this, W9_eq, Nat.mul_comm]
  simp; omega
theorem hi_zero (d : Nat → Nat) (n : Nat) : hi d n 0 = num d n := rfl
theorem hi_top {d : Nat → Nat} {n : Nat} (h : 1 ≤ n) : hi d n (n - 1) = d (n - 1) := by
  unfold hi
  rw [show n - (n - 1) = 1 by omega]
  simp [num]
theorem hi_pos {d : Nat → Nat} {n : Nat} (h : 1 ≤ n) (hf : d (n - 1) ≠ 0) : ∀ j, j ≤ n - 1 → 1 ≤ hi d n j := by
  intro j hj
  obtain ⟨k, hk⟩ : ∃ k, j + k = n - 1 := ⟨n - 1 - j, by omega⟩
  induction k generalizing j with
  | zero => rw [show j = n - 1 by omega, hi_top h]; omega
  | succ k ih =>
    have h1 := ih (j + 1) (by omega) (by omega)
    rw [hi_step (by omega)]
    exact Nat.le_trans h1 (Nat.le_trans (Nat.le_mul_of_pos_right _ (Nat.pow_pos (by decide))) (Nat.le_add_right _ _))

/-- The sign in front of a number that is not 0. -/
def sg (l : Bool) : List UInt8 := if l then [45] else []
theorem T_sval {l : Bool} {N : Nat} (h : N ≠ 0) : T (sval l N) = sg l ++ Go.Lib.decDigits N := by
  cases l
  · simp only [sval, sg, Bool.false_eq_true, if_false, List.nil_append]; exact T_nat N
  · simp only [sval, sg, if_true]
    rw [T_neg (by omega)]; simp

theorem pad9 {d : Nat} (h : d < 1000000000) : List.replicate (9 - (Go.Lib.decDigits d).length) 48 ++ Go.Lib.decDigits d = pad 9 d :=
  (pad_dec 9 d (by omega) ((dec_length_le (by omega)).2 (by omega))).symm

theorem dec_len_W9 {N m : Nat} (hm : 1 ≤ m) (h : N < W9 ^ m) : (Go.Lib.decDigits N).length ≤ 9 * m := by
  refine (dec_length_le (by omega)).2 ?_
  rw [Nat.pow_mul]
  exact h

theorem nines (l : List UInt8) : ((⟨#[48, 48, 48, 48, 48, 48, 48, 48, 48]⟩ : ByteArray).extract l.length 9 ++ ⟨l.toArray⟩).data.toList = List.replicate (9 - l.length) 48 ++ l := by
  rw [ByteArray.data_append, Array.toList_append, Lib.extract_data]
  have e : (#[48, 48, 48, 48, 48, 48, 48, 48, 48] : Array UInt8).toList = List.replicate 9 48 := rfl
  show List.take (9 - l.length) (List.drop l.length (#[48, 48, 48, 48, 48, 48, 48, 48, 48] : Array UInt8).toList) ++ l = _
  rw [e, List.drop_replicate, List.take_replicate, Nat.min_self]

set_option maxRecDepth 100000 in
set_option maxHeartbeats 2000000 in
theorem text_any (w : World) (b : Nat) (l : Bool) (n : Nat) (d : Nat → Nat) (hx : Wd w b l n d) (rx : Rt n d) (hs : Std w) :
    Calls Tryz.prog 152 #[.pointer (some ⟨b, 0, none⟩)] w fun e w' => e = .returned (.string ⟨(T (sval l (num d n))).toArray⟩) ∧ Below w.heap.size w w' := by
  have hx1 := hx.cnt
  have hx0 := hx.sgn
  have hbx := hx.lt
  have hn := rx.fits
  have HX := hide hx
  have HR := hide rx
  clear hx rx
  by_cases h0 : n = 0
  · subst h0
    go_enter Tryz.func152, Tryz.ntmps152
    go_wp2_with fail
    go_ret
    refine ⟨?_, Below.refl _ _⟩
    have : sval l (num d 0) = 0 := by cases l <;> simp [sval, num]
    rw [this, T_zero]; rfl
  · have hb : ((n : Int) == 0) = false := by rw [beq_eq_false_iff_ne]; omega
    have hn1 : 1 ≤ n := by omega
    have hl1 : d (n - 1) < 1000000000 := HR.out.lows _
    have hf1 : d (n - 1) ≠ 0 := HR.out.full.resolve_left (by omega)
    go_enter Tryz.func152, Tryz.ntmps152
    go_upto_region 4 with (fail)
    have hw0 : Bld w.heap.size w.heap.size [] (w.alloc (.cells #[.pointer none, .slice none 0 0] 184)) := Lib.fresh_isBuilder _ _ w
    have hb0 : Below w.heap.size w (w.alloc (.cells #[.pointer none, .slice none 0 0] 184)) := (Below.refl _ _).alloc (Nat.le_refl _) _
    generalize (w.alloc (.cells #[.pointer none, .slice none 0 0] 184)) = w0 at *
    have hcs : w0.cell? ⟨b, 0, none⟩ = some (.bool l) := (hb0.cell (p := ⟨b, 0, none⟩) hbx).trans hx0
    have HW0 := hide hw0
    have HB0 := hide hb0
    clear hw0 hb0
    go_upto_if 14 with (fail)
    go_cut [] (fun wc => Bld w.heap.size w.heap.size (sg l) wc ∧ Below w.heap.size w wc)
    case first =>
      cases l
      · go_wp2_with fail
        go_meet
        case rel => exact ⟨HW0.out, HB0.out⟩
      · go_wp2_with fail
        refine (writeByte_any _ _ [] 45 _ HW0.out (by simp) HB0.out.size).mono ?_
        rintro e w1 ⟨rfl, h1, h2⟩
        have H1 := hide h1
        have H2 := hide h2
        clear h1 h2
        go_wp2_with fail
        go_meet
        case rel => exact ⟨H1.out, HB0.out.trans H2.out⟩
    case rest =>
      obtain ⟨hB, hbl⟩ := hcut
      clear HW0 HB0 hcs hx1 hx0
      have hc1 : wc.cell? ⟨b, 1, none⟩ = some (.int .i64 (n : Int)) := (HX.out.below hbl hbx).cnt
      have hc2 : wc.cell? ⟨b, 2 + (n - 1), none⟩ = some (.int .i64 (d (n - 1) : Int)) := (HX.out.below hbl hbx).at_ (by omega)
      have hstd : Std wc := hs.below hbl (Nat.le_refl _)
      have HB := hide hB
      have HBL := hide hbl
      have HSTD := hide hstd
      clear hB hbl hstd
      have ew : IntKind.i64.wrap ((n : Int) - 1) = (n : Int) - 1 := IntWalk.i64_in _ ⟨by omega, by omega⟩
      have e1 : (0 : Int) ≤ (n : Int) - 1 := by omega
      have e2 : (n : Int) - 1 < 232 := by omega
      have e3 : ((n : Int) - 1).toNat = n - 1 := by omega
      go_wp2_with fail
      have hdl : (Go.Lib.decDigits (d (n - 1))).length ≤ 9 := (dec_length_le (by omega)).2 (by omega)
      have hsg : (sg l).length ≤ 1 := by cases l <;> simp [sg]
      have hT : T (d (n - 1) : Int) = Go.Lib.decDigits (d (n - 1)) := T_nat _
      have HT := hide hT
      clear hT
      go_region_with (first
        | (go_at_call 133; refine (itoa_any _ (by omega) (by omega) _ HSTD.out.drew).mono ?_; rintro e w2 ⟨rfl, hb2⟩; rw [HT.out])
        | (go_at_call 169; go_loud (refine (writeString_any w.heap.size w.heap.size (sg l) (Go.Lib.decDigits (d (n - 1))) _ rfl _ (Bld.below (Bld.drew HB.out) hb2) (by rw [Lib.size_eq]; simp; omega) (Nat.le_trans HBL.out.size hb2.size)).mono ?_); rintro e w3 ⟨rfl, hb3, hb4⟩))
      have hW3 : Below w.heap.size w w3 := (HBL.out.trans ((below_drewN (Below.refl _ wc) 1).trans (hb2.mono HBL.out.size))).trans hb4
      have K1 := hide hb3
      have K2 := hide hW3
      clear hb2 hb3 hb4 hW3 HT hdl hc1 hc2 HB HBL HSTD ew e1 e2 e3
      have hc1 : w3.cell? ⟨b, 1, none⟩ = some (.int .i64 (n : Int)) := (HX.out.below K2.out hbx).cnt
      go_wp2_with fail
      go_loopg [4] (n - 1) (fun k i wr => ∃ j : Nat, i = .int .i64 ((j : Int) - 1) ∧ k = j ∧ j ≤ n - 1 ∧ Bld w.heap.size w.heap.size (sg l ++ Go.Lib.decDigits (hi d n j)) wr ∧ Below w.heap.size w wr)
      case atStart => exact ⟨n - 1, by rw [show (n : Int) - 2 = ((n - 1 : Nat) : Int) - 1 by omega], rfl, Nat.le_refl _, by rw [hi_top hn1]; exact K1.out, K2.out⟩
      case round =>
        obtain ⟨j, rfl, hk, hj, hB, hbl⟩ := hrel
        clear hc1
        have HK := hide hk
        have HB := hide hB
        have HBL := hide hbl
        have HSTD := hide (hs.below hbl (Nat.le_refl _))
        clear hk hB hbl
        rcases Nat.eq_zero_or_pos j with hj0 | hj0
        · have hd' : ¬ (1 : Int) ≤ (j : Int) := by omega
          go_wp2_with fail
          refine (builderString_any _ _ _ _ HB.out HBL.out.size).mono ?_
          rintro e w5 ⟨rfl, h5⟩
          have H5 := hide h5
          clear h5
          go_wp2_with fail
          go_ret
          have hN : num d n ≠ 0 := fun e => by have := (num_zero_iff HR.out.full).1 e; omega
          refine ⟨?_, HBL.out.trans H5.out⟩
          rw [T_sval hN, ← hi_zero d n]; rfl
        · have hd' : (1 : Int) ≤ (j : Int) := by omega
          have hc2 : wr.cell? ⟨b, 2 + (j - 1), none⟩ = some (.int .i64 (d (j - 1) : Int)) := (HX.out.below HBL.out hbx).at_ (by omega)
          have hlj : d (j - 1) < 1000000000 := HR.out.lows _
          have hT : T (d (j - 1) : Int) = Go.Lib.decDigits (d (j - 1)) := T_nat _
          have hlen : (Go.Lib.decDigits (d (j - 1))).length ≤ 9 := (dec_length_le (by omega)).2 (by omega)
          have HT := hide hT
          clear hT
          go_wp2_with fail
          refine (itoa_any _ (by omega) (by omega) _ HSTD.out).mono ?_
          rintro e w5 ⟨rfl, h5⟩
          rw [HT.out]
          have H5 := hide h5
          clear h5
          have hse := nines (Go.Lib.decDigits (d (j - 1)))
          rw [pad9 hlj] at hse
          have HSE := hide hse
          clear hse
          have hlb : (sg l ++ Go.Lib.decDigits (hi d n j)).length ≤ 2089 := by
            have h3 := dec_len_W9 (N := hi d n j) (m := n - j) (by omega) (num_lt (fun i => HR.out.lows _) _)
            rw [List.length_append]; omega
          go_wp2_with fail
          refine (writeString_any _ _ _ _ _ HSE.out _ (HB.out.below H5.out) (by rw [Lib.size_eq, HSE.out, pad_length]; omega) (Nat.le_trans HBL.out.size H5.out.size)).mono ?_
          rintro e w6 ⟨rfl, hb6, hb7⟩
          have H6 := hide hb6
          have H7 := hide hb7
          clear hb6 hb7
          go_wp2_with fail
          go_roundg (j - 1)
          case measure => have := HK.out; omega
          case rel =>
            refine ⟨j - 1, by go_num, rfl, by omega, ?_, ?_⟩
            · rw [hi_step (by omega), show j - 1 + 1 = j by omega, dec_pad 9 _ _ (hi_pos hn1 hf1 j hj) (by omega), ← List.append_assoc]; exact H6.out
            · exact (HBL.out.trans (H5.out.mono HBL.out.size)).trans H7.out
end Go.Proofs.YtaccdkbofhlbkaaGreatDoor

namespace Go.Proofs.YtaccdkbofhlbkaaGreatDoor
open Go.RowKit MLab

/-- Where the reading stands: r digits are left of L, and j words are read. -/
structure ReadInv (D : List UInt8) (r j : Nat) (d : Nat → Nat) : Prop where
  len : r = D.length - 9 * j
  fit : 9 * j < D.length + 9
  lows : Lows d
  beyond : Beyond0 d j
  num : num d j = val (D.drop r)

theorem ReadInv.start (D : List UInt8) : ReadInv D D.length 0 (fun _ => 0) :=
  ⟨by omega, by omega, fun _ => by decide, fun _ _ => rfl, by rw [List.drop_length]; rfl⟩

theorem ReadInv.step {D : List UInt8} {r j : Nat} {d : Nat → Nat} (hD : Dig D) (h : ReadInv D r j d) (hr : 0 < r) {c : List UInt8} (hc : c = (D.take r).drop (r - 9)) :
    ReadInv D (r - 9) (j + 1) (upd d j (val c)) ∧ val c < W9 ∧ Dig c ∧ c ≠ [] ∧ c.length ≤ 9 := by
  have hl := h.len
  have hlen : c.length = min r 9 := by rw [hc, List.length_drop, List.length_take]; omega
  have hdig : Dig c := by rw [hc]; exact (hD.take r).drop _
  have hlt : val c < W9 := Nat.lt_of_lt_of_le (val_lt hdig) (by rw [W9_eq, show 1000000000 = 10 ^ 9 from rfl]; exact Nat.pow_le_pow_right (by omega) (by omega))
  refine ⟨⟨by omega, by omega, h.lows.upd _ hlt, fun i hi => ?_, ?_⟩, hlt, hdig, fun e => ?_, by omega⟩
  · rw [upd_other _ _ (by omega)]; exact h.beyond i (by omega)
  · rw [num_succ, upd_same, num_upd _ _ _ (Nat.le_refl _), h.num]
    have e : D.drop (r - 9) = c ++ D.drop r := by
      rw [hc, ← List.drop_append_of_le_length (by rw [List.length_take]; omega), List.take_append_drop]
    rw [e, val_append, List.length_drop, show D.length - r = 9 * j by omega, Nat.pow_mul, W9_eq]
    rw [show (10 : Nat) ^ 9 = 1000000000 from rfl]; omega
  · rw [e] at hlen; simp at hlen; omega

theorem T_head (z : Int) : ∀ b, (T z).head? = some b → ((b.toNat : Int) == 45) = decide (z < 0) := by
  intro b hb
  by_cases h : z < 0
  · rw [T_head_neg.2 h] at hb
    injection hb with hb
    subst hb
    simp [h]
  · have : b ≠ 45 := fun e => h (T_head_neg.1 (by rw [hb, e]))
    have h1 : ¬ ((b.toNat : Int) = 45) := fun e => this (UInt8.toNat_inj.1 (by simp; omega))
    rw [beq_eq_false_iff_ne.2 h1]
    simp [h]

set_option maxRecDepth 100000 in
set_option maxHeartbeats 2000000 in
theorem read_any (s : ByteArray) (z : Int) (hs : s.data.toList = T z) (hz : z.natAbs < Big) (w : World) :
    Calls Tryz.prog 130 #[.string s] w fun e w' => e = .returned (.pointer (some ⟨w.heap.size, 0, none⟩)) ∧ Below w.heap.size w w' ∧
      ∃ m d, Wd w' w.heap.size (decide (z < 0)) m d ∧ Rt m d ∧ m ≤ 114 ∧ num d m = z.natAbs := by
  have hne : 0 < s.size := by rw [Lib.size_eq, hs]; exact List.length_pos_iff.2 (T_ne z)
  have hbit := T_head z _ (getElem_head hs hne)
  have hbig : (Go.Lib.decDigits z.natAbs).length ≤ 1024 := big_len.2 hz
  have htp : Lib.trimPrefix s.data.toList [45] = Go.Lib.decDigits z.natAbs := by rw [hs, trimPrefix_mag, mag_T]
  have HTP := hide htp
  have HS := hide hs
  have HBIT := hide hbit
  clear hs hz htp hbit
  go_enter Tryz.func130, Tryz.ntmps130
  go_upto_region 3 with (fail)
  have hw0 : Wd (w.alloc (.cells (Tryz.zeroCells167.setIfInBounds 0 (.bool ((s[0].toNat : Int) == 45))) 167)) w.heap.size (decide (z < 0)) 0 (fun _ => 0) := by
    rw [HBIT.out]; exact Wd.newl w _
  have hb0 : Below w.heap.size w (w.alloc (.cells (Tryz.zeroCells167.setIfInBounds 0 (.bool ((s[0].toNat : Int) == 45))) 167)) := (Below.refl _ _).alloc (Nat.le_refl _) _
  generalize (w.alloc (.cells (Tryz.zeroCells167.setIfInBounds 0 (.bool ((s[0].toNat : Int) == 45))) 167)) = w0 at *
  have H0 := hide hw0
  have HB0 := hide hb0
  clear hw0 hb0
  go_wp2_with fail
  refine (Tryz.strings_TrimPrefix _ _ _).mono ?_
  rintro e w1 ⟨rfl, rfl⟩
  generalize hg : (⟨(Lib.trimPrefix s.data.toList [45]).toArray⟩ : ByteArray) = g
  have hgm : g.data.toList = Go.Lib.decDigits z.natAbs := by rw [← hg, HTP.out]
  have HG := hide hgm
  clear hg hgm
  obtain ⟨D, hD⟩ : ∃ D, D = Go.Lib.decDigits z.natAbs := ⟨_, rfl⟩
  have hdig : Dig D := by rw [hD]; exact dec_dig _
  have hval : val D = z.natAbs := by rw [hD, val_dec]
  rw [← hD] at HG hbig
  have HD := hide hdig
  have HV := hide hval
  clear hD hdig hval
  go_wp2_with fail
  go_loopg [3] D.length (fun k t wr => ∃ (g : ByteArray) (r j : Nat) (d : Nat → Nat), t = .string g ∧ k = r ∧ r ≤ D.length ∧ g.data.toList = D.take r ∧ ReadInv D r j d ∧ Wd wr w.heap.size (decide (z < 0)) j d ∧ Below w.heap.size w wr)
  case atStart => exact ⟨g, D.length, 0, fun _ => 0, rfl, rfl, Nat.le_refl _, by rw [HG.out, List.take_length], ReadInv.start D, H0.out, HB0.out⟩
  case round =>
    clear HG H0 HB0
    obtain ⟨g, r, j, d, rfl, hkr, hr, hgr, hI, hW, hB⟩ := hrel
    have hgs : g.size = r := by rw [Lib.size_eq, hgr, List.length_take]; omega
    have hj1 := hI.fit
    have hj2 := hI.len
    have HK := hide hkr
    have HGR := hide hgr
    have HI := hide hI
    have HW := hide hW
    have HB := hide hB
    have HGS := hide hgs
    clear hkr hgr hI hW hB hgs
    rcases Nat.eq_zero_or_pos r with h0 | h0
    · have hd : ¬ (0 : Int) < (g.size : Int) := by rw [HGS.out]; omega
      go_wp2_with fail
      refine (trimmed_any _ _ _ _ _ HW.out (by omega)).mono ?_
      rintro ee w2 ⟨rfl, m1, hm3, hg1, hW1, hfull, hz0⟩
      have K1 := hide hg1
      have K2 := hide hW1
      have K3 := hide hfull
      have K4 := hide hz0
      clear hg1 hW1 hfull hz0
      go_wp2_with fail
      go_ret
      have hbey : Beyond0 d m1 := fun i hi => by
        by_cases him : i < j
        · exact K4.out i hi him
        · exact HI.out.beyond i (by omega)
      refine ⟨rfl, below_only HB.out K1.out (by have := HW.out.lt; omega) (Nat.le_refl _), m1, d, K2.out, ⟨HI.out.lows, hbey, K3.out, by omega⟩, by omega, ?_⟩
      rw [← num_ends hbey j hm3, HI.out.num, h0, List.drop_zero]; exact HV.out
    · have hd : (0 : Int) < (g.size : Int) := by rw [HGS.out]; omega
      have hc1 : wr.cell? ⟨w.heap.size, 1, none⟩ = some (.int .i64 (j : Int)) := HW.out.cnt
      have hc2 : wr.cell? ⟨w.heap.size, 2 + j, none⟩ = some (.int .i64 (d j : Int)) := HW.out.at_ (by omega)
      have hf1 : wr.frozen? ⟨w.heap.size, 1, none⟩ = false := HW.out.frozen _
      have hf2 : wr.frozen? ⟨w.heap.size, 2 + j, none⟩ = false := HW.out.frozen _
      obtain ⟨c, hc⟩ : ∃ c, c = (D.take r).drop (r - 9) := ⟨_, rfl⟩
      obtain ⟨s1, s2, s3, s4, s5⟩ := HI.out.step HD.out h0 hc
      have HC := hide hc
      have S1 := hide s1
      have S3 := hide s3
      have S4 := hide s4
      have s2' : val c < 1000000000 := s2
      clear hc s1 s2 s3 s4
      have hgb : g.size ≤ 1024 := by rw [HGS.out]; omega
      obtain ⟨q, hq, hqr⟩ : ∃ q : Nat, max (0 : Int) ((g.size : Int) - 9) = (q : Int) ∧ q = r - 9 := ⟨r - 9, by rw [HGS.out]; omega, rfl⟩
      have hqs : q ≤ g.size := by rw [HGS.out]; omega
      have hqi : (q : Int) ≤ (g.size : Int) := by omega
      have HQR := hide hqr
      clear hqr
      have hch : (g.extract q g.size).data.toList = c := by
        rw [Lib.extract_data, HGR.out, HGS.out, HQR.out, HC.out]
        exact List.take_of_length_le (by rw [List.length_drop, List.length_take]; omega)
      have hat := atoi_dig S3.out S4.out
      have HCH := hide hch
      have HAT := hide hat
      clear hch hat
      go_wp2_with fail
      have hlt := HW.out.lt
      have hjI : (j : Int) < 232 := by omega
      go_region_with (go_at_call 149; refine (atoi_any _ c HCH.out (val c : Int) (by omega) HAT.out _).mono ?_; rintro e w2 ⟨rfl, hb2⟩; have g1 : w2.cell? ⟨w.heap.size, 2 + j, none⟩ = some (.int .i64 (d j : Int)) := (hb2.cell (p := ⟨w.heap.size, 2 + j, none⟩) hlt).trans hc2; have g2 : w2.frozen? ⟨w.heap.size, 2 + j, none⟩ = false := (hb2.frozen (p := ⟨w.heap.size, 2 + j, none⟩) hlt).trans hf2; have g3 : w2.cell? ⟨w.heap.size, 1, none⟩ = some (.int .i64 (j : Int)) := (hb2.cell (p := ⟨w.heap.size, 1, none⟩) hlt).trans hc1; have g4 : w2.frozen? ⟨w.heap.size, 1, none⟩ = false := (hb2.frozen (p := ⟨w.heap.size, 1, none⟩) hlt).trans hf1)
      all_goals
        have hbb : Below wr.heap.size wr w2 := ((Below.refl _ wr).drew).trans hb2
        have HBB := hide hbb
        clear hbb hb2 hc1 hc2 hf1 hf2
        go_wp2_with fail
        go_roundg (r - 9)
        case measure => have := HK.out; omega
        case rel =>
          refine ⟨g.extract 0 q, r - 9, j + 1, upd d j (val c), rfl, rfl, by omega, ?_, S1.out, ?_, ?_⟩
          · rw [Lib.extract_data, HGR.out, HQR.out, List.drop_zero, List.take_take]
            congr 1; omega
          · exact ((HW.out.below HBB.out hlt).setAt' rfl (by omega) _ rfl).setN' _ (by omega)
          · exact (((HB.out.trans (HBB.out.mono (by omega))).setCell (by show w.heap.size ≤ w.heap.size; omega) _).setCell (by show w.heap.size ≤ w.heap.size; omega) _)
end Go.Proofs.YtaccdkbofhlbkaaGreatDoor
