/- whole.beyond compares magnitudes. -/
import Derived.Test.YtblfinpfcpglcaaGreatDoorTrim
namespace Go.Proofs.YtblfinpfcpglcaaGreatDoor
open Go.RowKit MLab

/-- c says how X stands to Y. -/
def CmpR (c : Int) (X Y : Nat) : Prop := (c < 0 ∧ X < Y) ∨ (c = 0 ∧ X = Y) ∨ (0 < c ∧ Y < X)
/-- An ending with an int for which P holds. -/
def RetInt (P : Int → Prop) (e : Ending) : Prop := ∃ c, e = .returned (.int .i64 c) ∧ P c
/-- Draws alone. -/
def Drew (w w' : World) : Prop := ∃ k, w' = w.drewN k
theorem Drew.refl (w : World) : Drew w w := ⟨0, rfl⟩
theorem Drew.step {w w' : World} (h : Drew w w') (n : Nat) : Drew w (w'.drewN n) := by obtain ⟨k, rfl⟩ := h; exact ⟨k + n, World.drewN_drewN _ _ _⟩
theorem Drew.below {w w' : World} (h : Drew w w') (B : Nat) : Below B w w' := by obtain ⟨k, rfl⟩ := h; exact below_drewN (Below.refl _ _) k

set_option maxRecDepth 100000 in
set_option maxHeartbeats 1000000 in
theorem beyond_any (w : World) (bx bz : Nat) (lx lz : Bool) (nx nz : Nat) (dx dz : Nat → Nat) (hx : Wd w bx lx nx dx) (hz : Wd w bz lz nz dz) (rx : Rt nx dx) (rz : Rt nz dz) :
    Calls Tryz.prog 172 #[.pointer (some ⟨bx, 0, none⟩), .pointer (some ⟨bz, 0, none⟩)] w fun e w' => RetInt (CmpR · (num dx nx) (num dz nz)) e ∧ Drew w w' := by
  have HX := hide hx
  have HZ := hide hz
  have HRX := hide rx
  have HRZ := hide rz
  have hx1 := hx.cnt
  have hz1 := hz.cnt
  have hnx := rx.fits
  have hnz := rz.fits
  clear hx hz rx rz
  by_cases hn : nx = nz
  · have hb : ((nx : Int) != (nz : Int)) = false := by rw [bne_eq_false_iff_eq]; omega
    have hb' : ((nx : Int) != (nx : Int)) = false := by simp
    subst hn
    go_enter Tryz.func172, Tryz.ntmps172
    go_wp2_with fail
    go_quiet (fail)
    go_wp2_with fail
    go_loopg [5] nx (fun k i wr => ∃ (j q : Nat), k = j ∧ j ≤ nx ∧ i = .int .i64 ((j : Int) - 1) ∧ (∀ t, j ≤ t → t < nx → dx t = dz t) ∧ wr = w.drewN q)
    case atStart => exact ⟨nx, _, rfl, Nat.le_refl _, rfl, fun t h1 h2 => by omega, rfl⟩
    case round =>
      obtain ⟨j, q, hkj, hj, rfl, heq, rfl⟩ := hrel
      have HQ := hide heq
      have HK := hide hkj
      clear heq hkj
      rcases Nat.eq_zero_or_pos j with h0 | h0
      · have hd : decide ((0 : Int) ≤ (j : Int) - 1) = false := by simp; omega
        have hd' : ¬ (1 : Int) ≤ (j : Int) := by omega
        go_wp2_with fail
        go_ret
        refine ⟨⟨0, rfl, .inr (.inl ⟨rfl, num_congr fun i hi => HQ.out i (by omega) hi⟩)⟩, q, rfl⟩
      · have hd' : (1 : Int) ≤ (j : Int) := by omega
        have hx2 : w.cell? ⟨bx, 2 + (j - 1), none⟩ = some (.int .i64 (dx (j - 1) : Int)) := HX.out.at_ (by omega)
        have hz2 : w.cell? ⟨bz, 2 + (j - 1), none⟩ = some (.int .i64 (dz (j - 1) : Int)) := HZ.out.at_ (by omega)
        have hlx : dx (j - 1) < 1000000000 := HRX.out.lows _
        have hlz : dz (j - 1) < 1000000000 := HRZ.out.lows _
        by_cases hne : dx (j - 1) = dz (j - 1)
        · have hb2 : ((dx (j - 1) : Int) != (dz (j - 1) : Int)) = false := by rw [bne_eq_false_iff_eq]; omega
          have HN := hide hne
          clear hne
          go_wp2_with fail
          go_quiet (fail)
          go_wp2_with fail
          go_roundg (j - 1)
          case measure => have := HK.out; omega
          case rel =>
            refine ⟨j - 1, _, rfl, by omega, by go_num, fun t h1 h2 => ?_, rfl⟩
            by_cases e : t = j - 1
            · rw [e]; exact HN.out
            · exact HQ.out t (by omega) h2
        · have hb2 : ((dx (j - 1) : Int) != (dz (j - 1) : Int)) = true := by rw [bne_iff_ne]; omega
          go_wp2_with fail
          go_quiet (fail)
          go_wp2_with fail
          go_quiet (fail)
          go_wp2_with fail
          go_ret
          refine ⟨⟨_, rfl, ?_⟩, ((Drew.refl w).step _).step _ |>.step _⟩
          rcases Nat.lt_or_gt_of_ne hne with h | h
          · exact .inl ⟨by omega, num_cmp HRX.out.lows (k := j - 1) (by omega) (fun i h1 h2 => HQ.out i (by omega) h2) h⟩
          · exact .inr (.inr ⟨by omega, num_cmp HRZ.out.lows (k := j - 1) (by omega) (fun i h1 h2 => (HQ.out i (by omega) h2).symm) h⟩)
  · have hb : ((nx : Int) != (nz : Int)) = true := by rw [bne_iff_ne]; omega
    go_enter Tryz.func172, Tryz.ntmps172
    go_wp2_with fail
    go_quiet (fail)
    go_wp2_with fail
    go_quiet (fail)
    go_wp2_with fail
    go_ret
    refine ⟨⟨_, rfl, ?_⟩, ((Drew.refl w).step _).step _⟩
    rcases Nat.lt_or_gt_of_ne hn with h | h
    · exact .inl ⟨by omega, full_lt HRX.out.lows HRZ.out.full h⟩
    · exact .inr (.inr ⟨by omega, full_lt HRZ.out.lows HRX.out.full h⟩)
end Go.Proofs.YtblfinpfcpglcaaGreatDoor
