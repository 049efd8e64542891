/- whole.trimmed leaves out words of 0. -/
import Derived.Test.YtblfinpfcpglcaaGreatDoorMem
namespace Go.Proofs.YtblfinpfcpglcaaGreatDoor
open Go.RowKit MLab

set_option maxRecDepth 100000 in
set_option maxHeartbeats 400000 in
theorem trimmed_any (w : World) (b : Nat) (less : Bool) (n : Nat) (d : Nat → Nat) (hw : Wd w b less n d) (hn : n ≤ 232) :
    Calls Tryz.prog 143 #[.pointer (some ⟨b, 0, none⟩)] w fun e w' => e = .returned (.pointer (some ⟨b, 0, none⟩)) ∧
      ∃ m, m ≤ n ∧ w.grownBy w' (some b) ∧ Wd w' b less m d ∧ (m = 0 ∨ d (m - 1) ≠ 0) ∧ ∀ i, m ≤ i → i < n → d i = 0 := by
  go_enter Tryz.func143, Tryz.ntmps143
  go_wp2_with fail
  go_loopg [] n (fun k wr => k ≤ n ∧ w.grownBy wr (some b) ∧ Wd wr b less k d ∧ ∀ i, k ≤ i → i < n → d i = 0)
  case atStart => exact ⟨Nat.le_refl _, only_refl _ _, hw, fun i h1 h2 => by omega⟩
  case round =>
    obtain ⟨hk, hg, hW, hz⟩ := hrel
    have hc1 := hW.cnt
    have hf1 := hW.frozen 1
    have HZ := hide hz
    have HW := hide hW
    have HG := hide hg
    clear hz hW hg hw
    rcases Nat.eq_zero_or_pos gk with h0 | h0
    · have hd : decide ((0 : Int) < (gk : Int)) = false := by subst h0; rfl
      go_wp2_with fail
      go_quiet (fail)
      go_wp2
      go_ret
      refine ⟨rfl, gk, hk, only_drewN HG.out _, HW.out.drewN _, .inl h0, HZ.out⟩
    · have hlt : (0 : Int) < (gk : Int) := by omega
      have hc2 : wr.cell? ⟨b, 2 + (gk - 1), none⟩ = some (.int .i64 (d (gk - 1) : Int)) := HW.out.at_ (by omega)
      by_cases hd0 : d (gk - 1) = 0
      · have hb : ((d (gk - 1) : Int) == 0) = true := by rw [hd0]; rfl
        go_wp2_with fail
        go_quiet (fail)
        go_wp2
        go_roundg (gk - 1)
        case measure => omega
        case rel =>
          have e : ((gk : Int) - 1) = ((gk - 1 : Nat) : Int) := by omega
          rw [e]
          refine ⟨by omega, only_setCell (only_drewN HG.out _) (.inl rfl) _, (HW.out.drewN _).setN _, fun i h1 h2 => ?_⟩
          by_cases e : i = gk - 1
          · rw [e]; exact hd0
          · exact HZ.out i (by omega) h2
      · have hb : ((d (gk - 1) : Int) == 0) = false := by rw [beq_eq_false_iff_ne]; omega
        go_wp2_with fail
        go_quiet (fail)
        go_wp2
        go_ret
        refine ⟨rfl, gk, hk, only_drewN HG.out _, HW.out.drewN _, .inr hd0, HZ.out⟩
end Go.Proofs.YtblfinpfcpglcaaGreatDoor
