/- whole.read reads an integer into words. -/
import Derived.Test.YtblfinpfcpglcaaGreatDoorText
namespace Go.Proofs.YtblfinpfcpglcaaGreatDoor
open Go.RowKit MLab

/-- Where the reading stands: r digits are left of L, and j words are read. -/
structure ReadInv (D : List UInt8) (r j : Nat) (d : Nat → Nat) : Prop where
  len : r = D.length - 9 * j
  fit : 9 * j < D.length + 9
  lows : Lows d
  beyond : Beyond0 d j
  num : num d j = val (D.drop r)

theorem ReadInv.start (D : List UInt8) : ReadInv D D.length 0 (fun _ => 0) :=
  ⟨by omega, by omega, fun _ => by decide, fun _ _ => rfl, by rw [List.drop_length]; rfl⟩

theorem ReadInv.step {D : List UInt8} {r j : Nat} {d : Nat → Nat} (hD : Dig D) (h : ReadInv D r j d) (hr : 0 < r) {c : List UInt8} (hc : c = (D.take r).drop (r - 9)) :
    ReadInv D (r - 9) (j + 1) (upd d j (val c)) ∧ val c < W9 ∧ Dig c ∧ c ≠ [] ∧ c.length ≤ 9 := by
  have hl := h.len
  have hlen : c.length = min r 9 := by rw [hc, List.length_drop, List.length_take]; omega
  have hdig : Dig c := by rw [hc]; exact (hD.take r).drop _
  have hlt : val c < W9 := Nat.lt_of_lt_of_le (val_lt hdig) (by rw [W9_eq, show 1000000000 = 10 ^ 9 from rfl]; exact Nat.pow_le_pow_right (by omega) (by omega))
  refine ⟨⟨by omega, by omega, h.lows.upd _ hlt, fun i hi => ?_, ?_⟩, hlt, hdig, fun e => ?_, by omega⟩
  · rw [upd_other _ _ (by omega)]; exact h.beyond i (by omega)
  · rw [num_succ, upd_same, num_upd _ _ _ (Nat.le_refl _), h.num]
    have e : D.drop (r - 9) = c ++ D.drop r := by
      rw [hc, ← List.drop_append_of_le_length (by rw [List.length_take]; omega), List.take_append_drop]
    rw [e, val_append, List.length_drop, show D.length - r = 9 * j by omega, Nat.pow_mul, W9_eq]
    rw [show (10 : Nat) ^ 9 = 1000000000 from rfl]; omega
  · rw [e] at hlen; simp at hlen; omega

theorem T_head (z : Int) : ∀ b, (T z).head? = some b → ((b.toNat : Int) == 45) = decide (z < 0) := by
  intro b hb
  by_cases h : z < 0
  · rw [T_head_neg.2 h] at hb
    injection hb with hb
    subst hb
    simp [h]
  · have : b ≠ 45 := fun e => h (T_head_neg.1 (by rw [hb, e]))
    have h1 : ¬ ((b.toNat : Int) = 45) := fun e => this (UInt8.toNat_inj.1 (by simp; omega))
    rw [beq_eq_false_iff_ne.2 h1]
    simp [h]

set_option maxRecDepth 100000 in
set_option maxHeartbeats 2000000 in
theorem read_any (s : ByteArray) (z : Int) (hs : s.data.toList = T z) (hz : z.natAbs < Big) (w : World) :
    Calls Tryz.prog 120 #[.string s] w fun e w' => e = .returned (.pointer (some ⟨w.heap.size, 0, none⟩)) ∧ Below w.heap.size w w' ∧
      ∃ m d, Wd w' w.heap.size (decide (z < 0)) m d ∧ Rt m d ∧ m ≤ 114 ∧ num d m = z.natAbs := by
  have hne : 0 < s.size := by rw [Lib.size_eq, hs]; exact List.length_pos_iff.2 (T_ne z)
  have hbit := T_head z _ (getElem_head hs hne)
  have hbig : (Go.Lib.decDigits z.natAbs).length ≤ 1024 := big_len.2 hz
  have htp : Lib.trimPrefix s.data.toList [45] = Go.Lib.decDigits z.natAbs := by rw [hs, trimPrefix_mag, mag_T]
  have HTP := hide htp
  have HS := hide hs
  have HBIT := hide hbit
  clear hs hz htp hbit
  go_enter Tryz.func120, Tryz.ntmps120
  go_upto_region 3 with (fail)
  have hw0 : Wd (w.alloc (.cells (Tryz.zeroCells172.setIfInBounds 0 (.bool ((s[0].toNat : Int) == 45))) 172)) w.heap.size (decide (z < 0)) 0 (fun _ => 0) := by
    rw [HBIT.out]; exact Wd.newl w _
  have hb0 : Below w.heap.size w (w.alloc (.cells (Tryz.zeroCells172.setIfInBounds 0 (.bool ((s[0].toNat : Int) == 45))) 172)) := (Below.refl _ _).alloc (Nat.le_refl _) _
  generalize (w.alloc (.cells (Tryz.zeroCells172.setIfInBounds 0 (.bool ((s[0].toNat : Int) == 45))) 172)) = w0 at *
  have H0 := hide hw0
  have HB0 := hide hb0
  clear hw0 hb0
  go_wp2_with fail
  refine (Tryz.strings_TrimPrefix _ _ _).mono ?_
  rintro e w1 ⟨rfl, rfl⟩
  generalize hg : (⟨(Lib.trimPrefix s.data.toList [45]).toArray⟩ : ByteArray) = g
  have hgm : g.data.toList = Go.Lib.decDigits z.natAbs := by rw [← hg, HTP.out]
  have HG := hide hgm
  clear hg hgm
  obtain ⟨D, hD⟩ : ∃ D, D = Go.Lib.decDigits z.natAbs := ⟨_, rfl⟩
  have hdig : Dig D := by rw [hD]; exact dec_dig _
  have hval : val D = z.natAbs := by rw [hD, val_dec]
  rw [← hD] at HG hbig
  have HD := hide hdig
  have HV := hide hval
  clear hD hdig hval
  go_wp2_with fail
  go_loopg [3] D.length (fun k t wr => ∃ (g : ByteArray) (r j : Nat) (d : Nat → Nat), t = .string g ∧ k = r ∧ r ≤ D.length ∧ g.data.toList = D.take r ∧ ReadInv D r j d ∧ Wd wr w.heap.size (decide (z < 0)) j d ∧ Below w.heap.size w wr)
  case atStart => exact ⟨g, D.length, 0, fun _ => 0, rfl, rfl, Nat.le_refl _, by rw [HG.out, List.take_length], ReadInv.start D, H0.out, HB0.out⟩
  case round =>
    clear HG H0 HB0
    obtain ⟨g, r, j, d, rfl, hkr, hr, hgr, hI, hW, hB⟩ := hrel
    have hgs : g.size = r := by rw [Lib.size_eq, hgr, List.length_take]; omega
    have hj1 := hI.fit
    have hj2 := hI.len
    have HK := hide hkr
    have HGR := hide hgr
    have HI := hide hI
    have HW := hide hW
    have HB := hide hB
    have HGS := hide hgs
    clear hkr hgr hI hW hB hgs
    rcases Nat.eq_zero_or_pos r with h0 | h0
    · have hd : ¬ (0 : Int) < (g.size : Int) := by rw [HGS.out]; omega
      go_wp2_with fail
      refine (trimmed_any _ _ _ _ _ HW.out (by omega)).mono ?_
      rintro ee w2 ⟨rfl, m1, hm3, hg1, hW1, hfull, hz0⟩
      have K1 := hide hg1
      have K2 := hide hW1
      have K3 := hide hfull
      have K4 := hide hz0
      clear hg1 hW1 hfull hz0
      go_wp2_with fail
      go_ret
      have hbey : Beyond0 d m1 := fun i hi => by
        by_cases him : i < j
        · exact K4.out i hi him
        · exact HI.out.beyond i (by omega)
      refine ⟨rfl, below_only HB.out K1.out (by have := HW.out.lt; omega) (Nat.le_refl _), m1, d, K2.out, ⟨HI.out.lows, hbey, K3.out, by omega⟩, by omega, ?_⟩
      rw [← num_ends hbey j hm3, HI.out.num, h0, List.drop_zero]; exact HV.out
    · have hd : (0 : Int) < (g.size : Int) := by rw [HGS.out]; omega
      have hc1 : wr.cell? ⟨w.heap.size, 1, none⟩ = some (.int .i64 (j : Int)) := HW.out.cnt
      have hc2 : wr.cell? ⟨w.heap.size, 2 + j, none⟩ = some (.int .i64 (d j : Int)) := HW.out.at_ (by omega)
      have hf1 : wr.frozen? ⟨w.heap.size, 1, none⟩ = false := HW.out.frozen _
      have hf2 : wr.frozen? ⟨w.heap.size, 2 + j, none⟩ = false := HW.out.frozen _
      obtain ⟨c, hc⟩ : ∃ c, c = (D.take r).drop (r - 9) := ⟨_, rfl⟩
      obtain ⟨s1, s2, s3, s4, s5⟩ := HI.out.step HD.out h0 hc
      have HC := hide hc
      have S1 := hide s1
      have S3 := hide s3
      have S4 := hide s4
      have s2' : val c < 1000000000 := s2
      clear hc s1 s2 s3 s4
      have hgb : g.size ≤ 1024 := by rw [HGS.out]; omega
      obtain ⟨q, hq, hqr⟩ : ∃ q : Nat, max (0 : Int) ((g.size : Int) - 9) = (q : Int) ∧ q = r - 9 := ⟨r - 9, by rw [HGS.out]; omega, rfl⟩
      have hqs : q ≤ g.size := by rw [HGS.out]; omega
      have hqi : (q : Int) ≤ (g.size : Int) := by omega
      have HQR := hide hqr
      clear hqr
      have hch : (g.extract q g.size).data.toList = c := by
        rw [Lib.extract_data, HGR.out, HGS.out, HQR.out, HC.out]
        exact List.take_of_length_le (by rw [List.length_drop, List.length_take]; omega)
      have hat := atoi_dig S3.out S4.out
      have HCH := hide hch
      have HAT := hide hat
      clear hch hat
      go_wp2_with fail
      have hlt := HW.out.lt
      have hjI : (j : Int) < 232 := by omega
      go_region_with (go_at_call 142; refine (atoi_any _ c HCH.out (val c : Int) (by omega) HAT.out _).mono ?_; rintro e w2 ⟨rfl, hb2⟩; have g1 : w2.cell? ⟨w.heap.size, 2 + j, none⟩ = some (.int .i64 (d j : Int)) := (hb2.cell (p := ⟨w.heap.size, 2 + j, none⟩) hlt).trans hc2; have g2 : w2.frozen? ⟨w.heap.size, 2 + j, none⟩ = false := (hb2.frozen (p := ⟨w.heap.size, 2 + j, none⟩) hlt).trans hf2; have g3 : w2.cell? ⟨w.heap.size, 1, none⟩ = some (.int .i64 (j : Int)) := (hb2.cell (p := ⟨w.heap.size, 1, none⟩) hlt).trans hc1; have g4 : w2.frozen? ⟨w.heap.size, 1, none⟩ = false := (hb2.frozen (p := ⟨w.heap.size, 1, none⟩) hlt).trans hf1)
      all_goals
        have hbb : Below wr.heap.size wr w2 := ((Below.refl _ wr).drew).trans hb2
        have HBB := hide hbb
        clear hbb hb2 hc1 hc2 hf1 hf2
        go_wp2_with fail
        go_roundg (r - 9)
        case measure => have := HK.out; omega
        case rel =>
          refine ⟨g.extract 0 q, r - 9, j + 1, upd d j (val c), rfl, rfl, by omega, ?_, S1.out, ?_, ?_⟩
          · rw [Lib.extract_data, HGR.out, HQR.out, List.drop_zero, List.take_take]
            congr 1; omega
          · exact ((HW.out.below HBB.out hlt).setAt' rfl (by omega) _ rfl).setN' _ (by omega)
          · exact (((HB.out.trans (HBB.out.mono (by omega))).setCell (by show w.heap.size ≤ w.heap.size; omega) _).setCell (by show w.heap.size ≤ w.heap.size; omega) _)
end Go.Proofs.YtblfinpfcpglcaaGreatDoor
