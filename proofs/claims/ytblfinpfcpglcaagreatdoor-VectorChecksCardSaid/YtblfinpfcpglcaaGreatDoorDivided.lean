/- whole.divided divides magnitudes. -/
import Derived.Test.YtblfinpfcpglcaaGreatDoorEstimate
import Derived.Test.YtblfinpfcpglcaaGreatDoorCarry
import Derived.Deep.RegionLaw
import Derived.RegionTactic
namespace Go.Proofs.YtblfinpfcpglcaaGreatDoor
open Go.RowKit MLab

theorem words_info : (Tryz.prog.info? 3).map (·.size) = some 1 := by kernel_rfl

/-- The rest with one word more. -/
def up1x (n : Nat) (d : Nat → Nat) (x : Nat) : Nat → Nat := upd (up1 n d) 0 x

theorem up1x_num {n : Nat} {d : Nat → Nat} (x : Nat) : num (up1x n d x) (n + 1) = num d n * W9 + x := by
  rw [num_head]
  have h : num (fun i => up1x n d x (i + 1)) n = num d n := num_congr fun i hi => by
    show upd (up1 n d) 0 x (i + 1) = _
    rw [upd_other _ _ (by omega), up1, if_pos (by omega)]; rfl
  rw [h, up1x, upd_same]; rw [Nat.mul_comm W9]; omega

theorem up1x_lows {n : Nat} {d : Nat → Nat} {x : Nat} (h : Lows d) (hx : x < W9) : Lows (up1x n d x) := by
  refine Lows.upd (fun i => ?_) 0 hx
  unfold up1; split
  · exact h _
  · exact h _
theorem up1x_beyond {n : Nat} {d : Nat → Nat} {x : Nat} (h : Beyond0 d n) : Beyond0 (up1x n d x) (n + 1) := fun i hi => by
  show upd (up1 n d) 0 x i = 0
  rw [upd_other _ _ (by omega), up1, if_neg (by omega)]; exact h i (by omega)

/-- Where the division stands: the words from j on are divided. -/
structure DivInv (dx : Nat → Nat) (nx X Y j nq : Nat) (dq : Nat → Nat) (R : Nat) : Prop where
  lowsq : Lows dq
  begq : ∀ t, t < j → dq t = 0
  endq : Beyond0 dq nq
  cntq : nq ≤ nx
  lt : R < Y
  eq : X = num dx j + num dq 232 * Y + R * W9 ^ j

theorem DivInv.step {dx dq : Nat → Nat} {nx X Y j nq R R' dig : Nat} (h : DivInv dx nx X Y j nq dq R) (hj : 1 ≤ j) (hjx : j ≤ nx) (hx : nx ≤ 232) (hd : dig * Y + R' = R * W9 + dx (j - 1)) (hR : R' < Y) (hl : dx (j - 1) < W9) :
    DivInv dx nx X Y (j - 1) (max nq j) (upd dq (j - 1) dig) R' ∧ dig < W9 := by
  obtain ⟨m, rfl⟩ : ∃ m, j = m + 1 := ⟨j - 1, by omega⟩
  simp only [Nat.add_sub_cancel] at *
  have hdl : dig < W9 := by
    refine div_lt (R := R') (Y := Y) ?_
    rw [hd]
    have := Nat.mul_le_mul_right W9 (show R + 1 ≤ Y from h.lt)
    rw [Nat.add_mul, Nat.one_mul] at this
    omega
  refine ⟨⟨h.lowsq.upd _ hdl, fun t ht => ?_, fun t ht => ?_, by have := h.cntq; omega, hR, ?_⟩, hdl⟩
  · rw [upd_other _ _ (by omega)]; exact h.begq t (by omega)
  · rw [upd_other _ _ (by omega)]; exact h.endq t (by omega)
  · rw [num_upd_top dq dig (by omega) (h.begq m (by omega))]
    have e := h.eq
    rw [num_succ, Nat.pow_succ] at e
    exact div_step e hd

set_option maxRecDepth 100000 in
set_option maxHeartbeats 2000000 in
theorem divided_any (w : World) (bx bz : Nat) (lx lz : Bool) (nx nz : Nat) (dx dz : Nat → Nat) (hx : Wd w bx lx nx dx) (hz : Wd w bz lz nz dz) (rx : Rt nx dx) (rz : Rt nz dz) (h1 : 1 ≤ nz) (h2 : nz ≤ 230) :
    Calls Tryz.prog 179 #[.pointer (some ⟨bx, 0, none⟩), .pointer (some ⟨bz, 0, none⟩)] w fun e w' =>
      e = .returned (.tuple #[.pointer (some ⟨w.heap.size, 0, none⟩), .pointer (some ⟨w.heap.size + 1, 0, none⟩)]) ∧ Below w.heap.size w w' ∧
      ∃ nq dq nr dr, Wd w' w.heap.size false nq dq ∧ Wd w' (w.heap.size + 1) false nr dr ∧ Rt nq dq ∧ Rt nr dr ∧ num dq nq = num dx nx / num dz nz ∧ num dr nr = num dx nx % num dz nz := by
  have hx1 := hx.cnt
  have hx232 := rx.fits
  have HX := hide hx
  have HZ := hide hz
  have HRX := hide rx
  have HRZ := hide rz
  have hbx := hx.lt
  have hbz := hz.lt
  obtain ⟨B, hB⟩ : ∃ B, B = w.heap.size := ⟨_, rfl⟩
  have HB := hide hB
  clear hx hz rx rz
  go_enter Tryz.func179, Tryz.ntmps179
  go_upto_region 2 with (fail)
  have hq0 : Wd ((w.alloc (.cells Tryz.zeroCells172 172)).alloc (.cells Tryz.zeroCells172 172)) w.heap.size false 0 (fun _ => 0) := (Wd.new w).alloc _
  have hr0 : Wd ((w.alloc (.cells Tryz.zeroCells172 172)).alloc (.cells Tryz.zeroCells172 172)) (w.heap.size + 1) false 0 (fun _ => 0) := by
    have := Wd.new (w.alloc (.cells Tryz.zeroCells172 172)); simpa using this
  have hb0 : Below w.heap.size w ((w.alloc (.cells Tryz.zeroCells172 172)).alloc (.cells Tryz.zeroCells172 172)) :=
    ((Below.refl _ _).alloc (Nat.le_refl _) _).alloc (by simp) _
  generalize ((w.alloc (.cells Tryz.zeroCells172 172)).alloc (.cells Tryz.zeroCells172 172)) = w0 at *
  rw [← hB] at hq0 hr0 hb0 hbx hbz ⊢
  clear hB
  have hc0 : w0.cell? ⟨bx, 1, none⟩ = some (.int .i64 (nx : Int)) := (HX.out.below hb0 hbx).cnt
  have hnz1 : num dz nz ≠ 0 := fun e => by have := (num_zero_iff HRZ.out.full).1 e; omega
  have HY := hide hnz1
  clear hnz1
  go_wp2_with fail
  go_loopg [8] nx (fun k i wr => ∃ (j nq nr : Nat) (dq dr : Nat → Nat), k = j ∧ j ≤ nx ∧ i = .int .i64 ((j : Int) - 1) ∧ Wd wr B false nq dq ∧ Wd wr (B + 1) false nr dr ∧ Below B w wr ∧ Rt nr dr ∧ DivInv dx nx (num dx nx) (num dz nz) j nq dq (num dr nr))
  case atStart =>
    refine ⟨nx, 0, 0, fun _ => 0, fun _ => 0, rfl, Nat.le_refl _, rfl, hq0, hr0, hb0, ⟨fun _ => by decide, fun _ _ => rfl, .inl rfl, by omega⟩, ⟨fun _ => by decide, fun _ _ => rfl, fun _ _ => rfl, by omega, by have := HY.out; simp [num]; omega, ?_⟩⟩
    rw [num_ends (n := 0) (fun _ _ => rfl) 232 (by omega)]; simp [num]
  case round =>
    clear hq0 hr0 hb0 hc0
    obtain ⟨j, nq, nr, dq, dr, hkj, hj, rfl, hQ, hR, hB, hrt, hinv⟩ := hrel
    have HK := hide hkj
    have HQ := hide hQ
    have HR := hide hR
    have HBW := hide hB
    have HRT := hide hrt
    have HI := hide hinv
    clear hkj hQ hR hB hrt hinv
    rcases Nat.eq_zero_or_pos j with h0 | h0
    · have hd' : ¬ (1 : Int) ≤ (j : Int) := by omega
      go_wp2_with fail
      refine (trimmed_any _ _ _ _ _ HQ.out (by have := HI.out.cntq; omega)).mono ?_
      rintro ee w1 ⟨rfl, m1, hm3, hg1, hW1, hfull, hz0⟩
      go_wp2_with fail
      go_ret2
      subst h0
      have hBw := HB.out
      subst hBw
      have hI := HI.out
      have hbey : Beyond0 dq m1 := fun i hi => by
        by_cases him : i < nq
        · exact hz0 i hi him
        · exact hI.endq i (by omega)
      have hqr := quo_rem (X := num dx nx) (q := num dq 232) (Y := num dz nz) (R := num dr nr) (by have := hI.eq; simpa [num] using this) hI.lt
      refine ⟨rfl, below_only HBW.out hg1 (by have := HQ.out.lt; omega) (Nat.le_refl _), m1, dq, nr, dr, hW1, HR.out.grown hg1 (by simp), ⟨hI.lowsq, hbey, hfull, by have := hI.cntq; omega⟩, HRT.out, ?_, hqr.2.symm⟩
      rw [← num_ends hbey 232 (by have := hI.cntq; omega)]; exact hqr.1.symm
    · have hd' : (1 : Int) ≤ (j : Int) := by omega
      have hnr : nr ≤ 230 := by
        refine Nat.le_of_not_lt fun h => ?_
        have := full_lt HRZ.out.lows HRT.out.full (show nz < nr by omega)
        have := HI.out.lt
        omega
      have hnI : (nr : Int) ≤ 232 := by omega
      have hnI0 : (0 : Int) ≤ (nr : Int) := by omega
      have hr1 : wr.cell? ⟨B + 1, 1, none⟩ = some (.int .i64 (nr : Int)) := HR.out.cnt
      have hsz : B + 1 < wr.heap.size := HR.out.lt
      obtain ⟨cur, hcur, hcl, hc0, hc1, hc2⟩ := HR.out.cells_of
      have hsrc : ∀ (t : Nat) v, ((List.range nr).map fun i => (Value.int .i64 (dr i : Int)))[t]? = some v → wr.cell? ((⟨B + 1, 2, none⟩ : Addr).add t) = some v := by
        intro t v ht
        rw [List.getElem?_map] at ht
        by_cases htn : t < nr
        · rw [List.getElem?_range htn] at ht
          simp only [Option.map_some, Option.some.injEq] at ht
          rw [← ht]
          have e : ((⟨B + 1, 2, none⟩ : Addr).add t) = ⟨B + 1, 2 + t, none⟩ := by
            unfold Addr.add; split
            · rename_i h; subst h; rfl
            · rfl
          rw [e]; exact HR.out.at_ (by omega)
        · rw [List.getElem?_eq_none (by simp; omega)] at ht; simp at ht
      have hone : ∀ v ∈ (List.range nr).map (fun i => (Value.int .i64 (dr i : Int))), v.oneCell' = true := by
        intro v hv
        obtain ⟨i, _, rfl⟩ := List.mem_map.1 hv
        rfl
      have HC := hide hcur
      have HC0 := hide hc0
      have HC1 := hide hc1
      have HC2 := hide hc2
      have HSRC := hide hsrc
      have HONE := hide hone
      have hlen : ((List.range nr).map fun i => (Value.int .i64 (dr i : Int))).length = Nat.min nr 231 := by
        rw [List.length_map, List.length_range]; exact (Nat.min_eq_left (by omega)).symm
      have hfit : 3 + ((List.range nr).map fun i => (Value.int .i64 (dr i : Int))).length ≤ cur.length := by
        rw [List.length_map, List.length_range]; omega
      have HLEN := hide hlen
      have HFIT := hide hfit
      clear hcur hc0 hc1 hc2 hsrc hone hlen hfit
      go_wp2_with fail
      go_region_law (refine step_copy_splice rfl (.tmp 27) (.tmp 35) 77 77 rfl 3 Tryz.underlying77 words_info (some ⟨B + 1, 3, none⟩) (some ⟨B + 1, 2, none⟩) 231 231 nr 232 (by simp [Act.eval, Act.put]) (by simp [Act.eval, Act.put]) (B + 1) 3 cur 172 HC.out ((List.range nr).map fun i => (Value.int .i64 (dr i : Int))) HLEN.out (fun _ => ⟨rfl, _, rfl, HSRC.out⟩) HFIT.out HONE.out (B + 1) wr (Below.refl _ _).drew (Nat.le_refl _) ?_; intro w1 hh hbb)
      have hR1 : Wd w1 (B + 1) false nr (up1 nr dr) := Wd.moved hcl HC0.out HC1.out HC2.out (by omega) hh.out
      have hQ1 : Wd w1 B false nq dq := HQ.out.below hbb (by omega)
      have hB1 : Below B w w1 := HBW.out.trans (hbb.mono (by omega))
      clear hbb hh HC HC0 HC1 HC2 HSRC HONE HLEN HFIT hcl hr1 hsz HQ HR HBW
      have hx2 : w1.cell? ⟨bx, 2 + (j - 1), none⟩ = some (.int .i64 (dx (j - 1) : Int)) := (HX.out.below hB1 hbx).at_ (by omega)
      have hr2 : w1.cell? ⟨B + 1, 2, none⟩ = some (.int .i64 (up1 nr dr 0 : Int)) := by have := hR1.at_ (i := 0) (by omega); simpa using this
      have hr3 : w1.cell? ⟨B + 1, 1, none⟩ = some (.int .i64 (nr : Int)) := hR1.cnt
      have hf1 := hR1.frozen 1
      have hf2 := hR1.frozen 2
      have HR1 := hide hR1
      have HQ1 := hide hQ1
      have HB1 := hide hB1
      clear hR1 hQ1 hB1
      go_wp2_with fail
      go_region
      go_wp2_with fail
      refine (trimmed_any _ (B + 1) false (nr + 1) (up1x nr dr (dx (j - 1))) ?hw (by omega)).mono ?_
      case hw => exact (HR1.out.drew.setAt' (i := 0) rfl (by omega) _ rfl).setN' _ (by omega)
      rintro ee w2 ⟨rfl, m1, hm3, hg1, hW2, hfull, hz0⟩
      have hBx : Below B w w2 := by
        refine below_only (g := B + 1) ?_ hg1 ?_ (by omega)
        · exact (HB1.out.drew.setCell (by show B ≤ B + 1; omega) _).setCell (by show B ≤ B + 1; omega) _
        · have := HR1.out.lt; simp [World.setCell]; omega
      have hQx : Wd w2 B false nq dq := by
        refine Wd.grown ?_ hg1 (by simp)
        exact (HQ1.out.drew.far (by show B ≠ B + 1; omega) _).far (by show B ≠ B + 1; omega) _
      have hrt2 : Rt m1 (up1x nr dr (dx (j - 1))) := by
        refine ⟨up1x_lows HRT.out.lows (HRX.out.lows _), fun i hi => ?_, hfull, by omega⟩
        by_cases him : i < nr + 1
        · exact hz0 i hi him
        · exact up1x_beyond HRT.out.ends i (by omega)
      have hV : num (up1x nr dr (dx (j - 1))) m1 = num dr nr * W9 + dx (j - 1) := by
        rw [← up1x_num (n := nr) (d := dr) (dx (j - 1)), num_ends hrt2.ends (nr + 1) hm3]
      generalize up1x nr dr (dx (j - 1)) = d2 at *
      have hVlt : num dr nr * W9 + dx (j - 1) < num dz nz * W9 := by
        have h1 := HI.out.lt
        have h2 := Nat.mul_le_mul_right W9 (show num dr nr + 1 ≤ num dz nz from h1)
        rw [Nat.add_mul, Nat.one_mul] at h2
        have h3 : dx (j - 1) < W9 := HRX.out.lows _
        omega
      clear hg1 hfull hz0 hm3 hx2 hr2 hr3 hf1 hf2 HR1 HQ1 HB1
      obtain ⟨V0, hV0⟩ : ∃ V0, V0 = num dr nr * W9 + dx (j - 1) := ⟨_, rfl⟩
      rw [← hV0] at hV hVlt
      have HV := hide hV
      have HVL := hide hVlt
      have HV0 := hide hV0
      have H1 := hide hBx
      have H2 := hide hQx
      have H3 := hide hrt2
      have H4 := hide hW2
      clear hV hVlt hV0 hBx hQx hrt2 hW2
      go_wp2_with fail
      go_loopg [9] V0 (fun k dg wi => ∃ (g mi : Nat) (di : Nat → Nat), dg = .int .i64 (g : Int) ∧ k = num di mi ∧ Wd wi (B + 1) false mi di ∧ Rt mi di ∧ Below B w wi ∧ Wd wi B false nq dq ∧ g * num dz nz + num di mi = V0)
      case atStart => exact ⟨0, m1, d2, rfl, HV.out.symm, H4.out, H3.out, H1.out, H2.out, by rw [HV.out]; omega⟩
      case round =>
        obtain ⟨g, mi, di, rfl, hgk, hWi, hRi, hBi, hQi, hsum⟩ := hrel
        have HGK := hide hgk
        have HWI := hide hWi
        have HRI := hide hRi
        have HBI := hide hBi
        have HQI := hide hQi
        have HS := hide hsum
        clear hgk hWi hRi hBi hQi hsum H1 H2 H3 H4
        have hgl : g < 1000000000 := by
          have h1 := HS.out
          have h2 := HVL.out
          exact div_lt (d := g) (Y := num dz nz) (R := num di mi) (by omega)
        go_wp2_with fail
        refine (beyond_any _ _ _ _ _ _ _ _ _ HWI.out (HZ.out.below HBI.out hbz) HRI.out HRZ.out).mono ?_
        rintro ee w3 ⟨⟨c, rfl, hc⟩, qd, rfl⟩
        have HCC := hide hc
        clear hc
        by_cases hc0 : c < 0
        · have hc1 : ¬ (0 : Int) ≤ c := by omega
          have hlast : num di mi < num dz nz := by rcases HCC.out with ⟨_, h⟩ | ⟨h, _⟩ | ⟨h, _⟩ <;> omega
          have hst := HI.out.step (dig := g) (R' := num di mi) h0 hj hx232 (by rw [HS.out, HV0.out]) hlast (HRX.out.lows _)
          have HST := hide hst
          have HL := hide hlast
          clear hst hlast
          have hq1 : wr.cell? ⟨B, 1, none⟩ = some (.int .i64 (nq : Int)) := HQI.out.cnt
          have hq2 : wr.cell? ⟨B, 2 + (j - 1), none⟩ = some (.int .i64 (dq (j - 1) : Int)) := HQI.out.at_ (by omega)
          have hf1 : wr.frozen? ⟨B, 1, none⟩ = false := HQI.out.frozen 1
          have hf2 : wr.frozen? ⟨B, 2 + (j - 1), none⟩ = false := HQI.out.frozen _
          have hnq := HI.out.cntq
          go_wp2_with fail
          all_goals
            go_roundg (j - 1)
            case measure => have := HK.out; omega
            case rel =>
              refine ⟨j - 1, max nq j, mi, upd dq (j - 1) g, di, rfl, by omega, by go_num, ?_, ?_, ?_, HRI.out, HST.out.1⟩
              · exact ((HQI.out.drewN _).setAt' (i := j - 1) rfl (by omega) _ rfl).setN' _ (by omega)
              · exact ((HWI.out.drewN _).far (by show B + 1 ≠ B; omega) _).far (by show B + 1 ≠ B; omega) _
              · exact ((below_drewN HBI.out _).setCell (by show B ≤ B; omega) _).setCell (by show B ≤ B; omega) _
        · have hc1 : (0 : Int) ≤ c := by omega
          have hge : num dz nz ≤ num di mi := by rcases HCC.out with ⟨h, _⟩ | ⟨_, h⟩ | ⟨_, h⟩ <;> omega
          have hlt2 : num di mi < num dz nz * W9 := by
            have h1 := HS.out
            have h2 := HVL.out
            omega
          go_wp2_with fail
          refine (estimate_any _ _ _ _ _ _ _ _ _ (HWI.out.drewN _) ((HZ.out.below HBI.out hbz).drewN _) HRI.out HRZ.out h1 hge hlt2).mono ?_
          rintro ee w4 ⟨⟨_, rfl, k, rfl, hk⟩, qe, rfl⟩
          have hk1 := hk.pos
          have hk2 := hk.lt
          have hkm := hk.mul
          have HKM := hide hkm
          clear hk hkm hge hlt2
          go_wp2_with fail
          have hz1 : (num di mi : Int) + -(k : Int) * num dz nz = ((num di mi - k * num dz nz : Nat) : Int) := by
            have := HKM.out
            rw [Int.natCast_sub this, Int.natCast_mul, Int.neg_mul]; omega
          have hz2 : num di mi - k * num dz nz < W9 ^ 232 := by
            have := num_lt HRI.out.lows mi
            have h3 : W9 ^ mi ≤ W9 ^ 232 := Nat.pow_le_pow_right (by decide) HRI.out.fits
            omega
          refine (carry_zero _ _ _ _ _ _ _ _ _ (-(k : Int)) (num di mi - k * num dz nz) (HWI.out.drewN _) ((HZ.out.below HBI.out hbz).drewN _) (by omega) HRI.out HRZ.out (by omega) (by omega) hz1 hz2).mono ?_
          clear hz1 hz2
          rintro ee w5 ⟨rfl, m2, d3, hg5, hW5, hR5, hn5⟩
          have hs5 : (g + k) * num dz nz + num d3 m2 = V0 := by
            have h1 := HKM.out
            have h2 := HS.out
            rw [hn5, Nat.add_mul]
            omega
          have hgk2 : g + k < 1000000000 := by
            have h2 := HVL.out
            exact div_lt (d := g + k) (Y := num dz nz) (R := num d3 m2) (by omega)
          have H5 := hide hs5
          have H6 := hide hn5
          have H7 := hide hg5
          have H8 := hide hW5
          have H9 := hide hR5
          clear hs5 hn5 hg5 hW5 hR5
          go_wp2_with fail
          go_roundg (num d3 m2)
          case measure =>
            have h1 := HKM.out
            have h2 := H6.out
            have h3 := HGK.out
            have h4 : 1 * 1 ≤ k * num dz nz := Nat.mul_le_mul hk1 (Nat.one_le_iff_ne_zero.2 HY.out)
            omega
          case rel =>
            refine ⟨g + k, m2, d3, by go_num, rfl, H8.out, H9.out, ?_, ?_, H5.out⟩
            · exact below_only (g := B + 1) (below_drewN HBI.out _) H7.out (by have := HWI.out.lt; simp; omega) (by omega)
            · exact Wd.grown (HQI.out.drewN _) H7.out (by simp)
end Go.Proofs.YtblfinpfcpglcaaGreatDoor
