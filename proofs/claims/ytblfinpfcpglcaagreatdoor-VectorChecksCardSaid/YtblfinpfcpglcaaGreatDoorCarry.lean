/- whole.carry adds a multiple of a number, some words higher. -/
import Derived.Test.YtblfinpfcpglcaaGreatDoorTrim
namespace Go.Proofs.YtblfinpfcpglcaaGreatDoor
open Go.RowKit MLab

theorem tdiv_facts (s : Int) : -1000000000 < s - s.tdiv 1000000000 * 1000000000 ∧ s - s.tdiv 1000000000 * 1000000000 < 1000000000 ∧ (0 ≤ s → 0 ≤ s - s.tdiv 1000000000 * 1000000000) ∧ (s ≤ 0 → s - s.tdiv 1000000000 * 1000000000 ≤ 0) := by
  have h : s - s.tdiv 1000000000 * 1000000000 = s.tmod 1000000000 := by have := Int.tdiv_mul_add_tmod s 1000000000; omega
  rw [h]
  refine ⟨?_, ?_, fun hs => ?_, fun hs => ?_⟩
  · have := Int.lt_tmod_of_pos s (b := 1000000000) (by omega); omega
  · exact Int.tmod_lt_of_pos s (by omega)
  · exact Int.tmod_nonneg _ hs
  · have := Int.tmod_nonneg (a := -s) 1000000000 (by omega); rw [Int.neg_tmod] at this; omega

theorem carry_close {w wr : World} {bx nx m gk j up : Nat} {lx : Bool} {dx dz e : Nat → Nat} {f q : Int} (HC : Carried dx dz f up j e q) (HW : Wd wr bx lx m e) (HG : w.grownBy wr (some bx)) (hju : j + up < 232) (hm1 : nx ≤ m) (hm2 : m ≤ 232)
    (hk : gk + j + up = 232 + up) (p x r y : Int) (hp : f * (dz j : Int) = p) (hx0 : 0 ≤ x) (hx1 : x < 1000000000) (hs : (e (j + up) : Int) + q + p = r * 1000000000 + x) (h1 : -999999999 ≤ r) (h2 : r ≤ 999999999) (hy : y = ((max m (j + up + 1) : Nat) : Int)) :
    ∃ (j1 : Nat) (e1 : Nat → Nat) (q1 : Int) (m1 : Nat), Value.int .i64 ((j : Int) + 1) = .int .i64 (j1 : Int) ∧ Value.int .i64 r = .int .i64 q1 ∧ gk - 1 + j1 + up = 232 + up ∧ Carried dx dz f up j1 e1 q1 ∧
      Wd ((wr.setCell ⟨bx, 2 + (j + up), none⟩ (.int .i64 x)).setCell ⟨bx, 1, none⟩ (.int .i64 y)) bx lx m1 e1 ∧ w.grownBy ((wr.setCell ⟨bx, 2 + (j + up), none⟩ (.int .i64 x)).setCell ⟨bx, 1, none⟩ (.int .i64 y)) (some bx) ∧
      nx ≤ m1 ∧ m1 ≤ 232 ∧ j1 + up ≤ 232 ∧ (j1 = 0 ∨ j1 + up ≤ m1) := by
  obtain ⟨s, rfl⟩ := Int.eq_ofNat_of_zero_le hx0
  subst hy hp
  exact ⟨j + 1, _, r, max m (j + up + 1), by simp, rfl, by omega, HC.step (s := s) (by rw [W9_eq]; omega) hs h1 h2, (HW.setAt hju s).setN _, only_setCell (only_setCell HG (.inl rfl) _) (.inl rfl) _, by omega, by omega, by omega, .inr (by omega)⟩

set_option maxRecDepth 100000 in
set_option maxHeartbeats 1000000 in
theorem carry_any (w : World) (bx bz : Nat) (lx lz : Bool) (nx nz : Nat) (dx dz : Nat → Nat) (f : Int) (up Z : Nat) (hx : Wd w bx lx nx dx) (hz : Wd w bz lz nz dz) (hne : bx ≠ bz)
    (rx : Rt nx dx) (rz : Rt nz dz) (hf1 : -1000000000 < f) (hf2 : f < 1000000000) (hup : nz + up ≤ 232) (hZ : (num dx nx : Int) + f * num dz nz * ((W9 ^ up : Nat) : Int) = (Z : Int)) (hZ2 : Z < W9 ^ 232) :
    Calls Tryz.prog 144 #[.pointer (some ⟨bx, 0, none⟩), .pointer (some ⟨bz, 0, none⟩), .int .i64 f, .int .i64 (up : Int)] w fun e w' => e = .returned (.tuple #[]) ∧
      ∃ m d, w.grownBy w' (some bx) ∧ Wd w' bx lx m d ∧ Rt m d ∧ num d m = Z := by
  have HX := hide hx
  have HZ := hide hz
  have HRX := hide rx
  have HRZ := hide rz
  have HE := hide hZ
  have HE2 := hide hZ2
  clear hx hz rx rz hZ hZ2
  go_enter Tryz.func144, Tryz.ntmps144
  go_wp2_with fail
  go_loopg [8, 9] 232 (fun k r i wr => ∃ (j : Nat) (e : Nat → Nat) (q : Int) (m : Nat), i = .int .i64 (j : Int) ∧ r = .int .i64 q ∧ k + j + up = 232 + up ∧ Carried dx dz f up j e q ∧ Wd wr bx lx m e ∧ w.grownBy wr (some bx) ∧ nx ≤ m ∧ m ≤ 232 ∧ j + up ≤ 232 ∧ (j = 0 ∨ j + up ≤ m))
  case atStart => exact ⟨0, dx, 0, nx, rfl, rfl, by omega, Carried.start HRX.out.lows, HX.out, only_refl _ _, Nat.le_refl _, HRX.out.fits, by omega, .inl rfl⟩
  case round =>
    obtain ⟨j, e, q, m, rfl, rfl, hk, hC, hW, hG, hm1, hm2, hj, hjm⟩ := hrel
    have hq1 := hC.low
    have hq2 := hC.high
    have HC := hide hC
    have HW := hide hW
    have HG := hide hG
    have HK := hide hk
    clear hC hW hG hk
    have hz1 : wr.cell? ⟨bz, 1, none⟩ = some (.int .i64 (nz : Int)) := by
      rw [World.cell?_of_block (HG.out.block bz HZ.out.lt (by simpa using Ne.symm hne))]; exact HZ.out.cnt
    by_cases hc : j < nz ∨ q ≠ 0
    · have hju : j + up < 232 := by
        by_cases hlt : j < nz
        · omega
        · exact HC.out.room HRX.out.ends HRX.out.fits HRZ.out.ends (by omega) hj HE.out HE2.out (hc.resolve_left hlt)
      have hf3 : wr.frozen? ⟨bx, 2 + (j + up), none⟩ = false := HW.out.frozen _
      have hf4 : wr.frozen? ⟨bx, 1, none⟩ = false := HW.out.frozen _
      have hx1 : wr.cell? ⟨bx, 1, none⟩ = some (.int .i64 (m : Int)) := HW.out.cnt
      have hx2 : wr.cell? ⟨bx, 2 + (j + up), none⟩ = some (.int .i64 (e (j + up) : Int)) := HW.out.at_ hju
      have he : e (j + up) < 1000000000 := HC.out.lows _
      by_cases hlt : j < nz
      · have hz2 : wr.cell? ⟨bz, 2 + j, none⟩ = some (.int .i64 (dz j : Int)) := by
          rw [World.cell?_of_block (HG.out.block bz HZ.out.lt (by simpa using Ne.symm hne))]; exact HZ.out.at_ (by omega)
        obtain ⟨hp1, hp2⟩ := mul_bounds hf1 hf2 (HRZ.out.lows j)
        obtain ⟨t1, t2, t3, t4⟩ := tdiv_facts ((e (j + up) : Int) + q + f * (dz j : Int))
        have HT3 := hide t3
        have HT4 := hide t4
        clear t3 t4
        by_cases hs : (e (j + up) : Int) + q + f * (dz j : Int) < 0
        · have t4 := HT4.out (by omega)
          go_wp2_with fail
          all_goals
            go_roundg (gk - 1)
            case measure => have := HK.out; omega
            case rel => exact carry_close HC.out HW.out HG.out hju hm1 hm2 HK.out _ _ _ _ rfl (by omega) (by omega) (by omega) (by omega) (by omega) (by omega)
        · go_wp2_with fail
          all_goals
            go_roundg (gk - 1)
            case measure => have := HK.out; omega
            case rel => exact carry_close HC.out HW.out HG.out hju hm1 hm2 HK.out _ _ _ _ rfl (by omega) (by omega) (by omega) (by omega) (by omega) (by omega)
      · have hq0 : (q == 0) = false := by rw [beq_eq_false_iff_ne]; exact hc.resolve_left hlt
        have hq3 : (q != 0) = true := by rw [bne_iff_ne]; exact hc.resolve_left hlt
        have hd : decide ((j : Int) < (nz : Int)) = false := by simp; omega
        have hnlt : ¬ (j : Int) < (nz : Int) := by omega
        have hp0 : f * (dz j : Int) = 0 := by rw [HRZ.out.ends j (by omega)]; simp
        have HP := hide hp0
        clear hp0
        obtain ⟨t1, t2, t3, t4⟩ := tdiv_facts ((e (j + up) : Int) + q)
        have HT3 := hide t3
        have HT4 := hide t4
        clear t3 t4
        by_cases hs : (e (j + up) : Int) + q < 0
        · have t4 := HT4.out (by omega)
          go_wp2_with fail
          all_goals
            go_roundg (gk - 1)
            case measure => have := HK.out; omega
            case rel => exact carry_close HC.out HW.out HG.out hju hm1 hm2 HK.out _ _ _ _ HP.out (by omega) (by omega) (by omega) (by omega) (by omega) (by omega)
        · go_wp2_with fail
          all_goals
            go_roundg (gk - 1)
            case measure => have := HK.out; omega
            case rel => exact carry_close HC.out HW.out HG.out hju hm1 hm2 HK.out _ _ _ _ HP.out (by omega) (by omega) (by omega) (by omega) (by omega) (by omega)
    · have hc1 : ¬ j < nz := fun h => hc (.inl h)
      have hc2 : q = 0 := Classical.byContradiction fun h => hc (.inr h)
      subst hc2
      have hd : decide ((j : Int) < (nz : Int)) = false := by simp; omega
      have hfin := HC.out.total HRX.out.ends HRX.out.fits HRZ.out.ends (by omega) hj HE.out
      have HF := hide hfin
      clear hfin
      go_wp2_with fail
      refine (trimmed_any _ _ _ _ _ HW.out hm2).mono ?_
      rintro ee w1 ⟨rfl, m1, hm3, hg1, hW1, hfull, hz0⟩
      go_wp2_with fail
      go_end0
      have hb0 : Beyond0 e m1 := fun i hi => by
        by_cases him : i < m
        · exact hz0 i hi him
        · rw [HC.out.same i (by omega)]; exact HRX.out.ends i (by omega)
      refine ⟨rfl, m1, e, only_trans HG.out hg1, hW1, ⟨HC.out.lows, hb0, hfull, by omega⟩, ?_⟩
      have := HF.out
      rw [num_ends hb0 232 (by omega)] at this
      omega
/-- The same at no words higher. -/
theorem carry_zero (w : World) (bx bz : Nat) (lx lz : Bool) (nx nz : Nat) (dx dz : Nat → Nat) (f : Int) (Z : Nat) (hx : Wd w bx lx nx dx) (hz : Wd w bz lz nz dz) (hne : bx ≠ bz)
    (rx : Rt nx dx) (rz : Rt nz dz) (hf1 : -1000000000 < f) (hf2 : f < 1000000000) (hZ : (num dx nx : Int) + f * num dz nz = (Z : Int)) (hZ2 : Z < W9 ^ 232) :
    Calls Tryz.prog 144 #[.pointer (some ⟨bx, 0, none⟩), .pointer (some ⟨bz, 0, none⟩), .int .i64 f, .int .i64 0] w fun e w' => e = .returned (.tuple #[]) ∧
      ∃ m d, w.grownBy w' (some bx) ∧ Wd w' bx lx m d ∧ Rt m d ∧ num d m = Z :=
  carry_any w bx bz lx lz nx nz dx dz f 0 Z hx hz hne rx rz hf1 hf2 (by have := rz.fits; omega) (by rw [Nat.pow_zero]; simpa using hZ) hZ2
end Go.Proofs.YtblfinpfcpglcaaGreatDoor
