/- whole.estimate says how often a magnitude may be subtracted. -/
import Derived.Test.YtblfinpfcpglcaaGreatDoorBeyond
import Derived.Deep.RegionWith
namespace Go.Proofs.YtblfinpfcpglcaaGreatDoor
open Go.RowKit MLab

theorem est_mul {X Y P a b k : Nat} (hY : Y ≤ b * P) (hX : a * P ≤ X) (hk : k ≤ a / b) : k * Y ≤ X := by
  have h1 := Nat.mul_le_mul_left k hY
  have h2 : k * b ≤ a := Nat.le_trans (Nat.mul_le_mul_right b hk) (Nat.div_mul_le_self a b)
  have h3 := Nat.mul_le_mul_right P h2
  rw [← Nat.mul_assoc] at h1
  omega

/-- What estimate computes, out of the words. -/
structure EstR (X Y k : Nat) : Prop where
  pos : 1 ≤ k
  lt : k < 1000000000
  mul : k * Y ≤ X

theorem est_ok {dx dy : Nat → Nat} {nx ny : Nat} (rx : Rt nx dx) (ry : Rt ny dy) (hy : 1 ≤ ny) (hle : num dy ny ≤ num dx nx) (hlt : num dx nx < num dy ny * W9) (k : Nat) :
    (k = 1 ∨ k ≤ (dx ny * 1000000000 + dx (ny - 1)) / (dy (ny - 1) + (if 1 < ny then 1 else 0)) ∧ 1 ≤ k ∧ k < 1000000000) → EstR (num dx nx) (num dy ny) k := by
  intro hk
  rcases hk with rfl | ⟨hk, hk1, hk2⟩
  · exact ⟨Nat.le_refl _, by omega, by omega⟩
  refine ⟨hk1, hk2, ?_⟩
  obtain ⟨m, rfl⟩ : ∃ m, ny = m + 1 := ⟨ny - 1, by omega⟩
  have hnx : nx ≤ m + 2 := by
    refine Nat.le_of_not_lt fun h => ?_
    have h1 := full_le rx.full (by omega)
    have h2 := num_lt ry.lows (m + 1)
    have h3 : W9 ^ (m + 2) ≤ W9 ^ (nx - 1) := Nat.pow_le_pow_right (by decide) (by omega)
    have h4 := Nat.mul_le_mul_right W9 (Nat.le_of_lt h2)
    have h5 : W9 ^ (m + 2) = W9 ^ (m + 1) * W9 := Nat.pow_succ _ _
    omega
  have hX : num dx nx = num dx m + (dx (m + 1) * 1000000000 + dx m) * W9 ^ m := by
    rw [← num_ends rx.ends (m + 2) hnx, num_succ, num_succ, Nat.pow_succ, W9_eq, Nat.add_mul, Nat.mul_assoc, Nat.mul_comm 1000000000 (1000000000 ^ m)]
    omega
  refine est_mul (P := W9 ^ m) (a := dx (m + 1) * 1000000000 + dx m) (b := dy m + (if 1 < m + 1 then 1 else 0)) ?_ ?_ hk
  · rw [num_succ]
    by_cases hm : 1 < m + 1
    · rw [if_pos hm]
      have := num_lt ry.lows m
      rw [Nat.add_mul]
      omega
    · have : m = 0 := by omega
      subst this
      simp [num]
  · omega

theorem est_close {x0 x1 b X Y : Nat} (HE : ∀ k : Nat, (k = 1 ∨ k ≤ (x0 * 1000000000 + x1) / b ∧ 1 ≤ k ∧ k < 1000000000) → EstR X Y k) (c B : Int) (hB : B = (b : Int))
    (h0 : 0 < ((x0 : Int) * 1000000000 + (x1 : Int)) / B) (h : (c = ((x0 : Int) * 1000000000 + (x1 : Int)) / B ∨ c = 999999999) ∧ c ≤ ((x0 : Int) * 1000000000 + (x1 : Int)) / B ∧ c ≤ 999999999) :
    RetInt (fun c => ∃ k : Nat, c = k ∧ EstR X Y k) (.returned (.int .i64 c)) := by
  subst hB
  have e : ((x0 : Int) * 1000000000 + (x1 : Int)) / (b : Int) = (((x0 * 1000000000 + x1) / b : Nat) : Int) := by simp
  rw [e] at h0 h
  exact ⟨c, rfl, c.toNat, by omega, HE _ (.inr ⟨by omega, by omega, by omega⟩)⟩

set_option maxRecDepth 100000 in
set_option maxHeartbeats 400000 in
theorem top_any (w : World) (b : Nat) (l : Bool) (n i : Nat) (d : Nat → Nat) (hx : Wd w b l n d) (rx : Rt n d) (hi : i ≤ 9223372036854775807) :
    Calls Tryz.prog 226 #[.pointer (some ⟨b, 0, none⟩), .int .i64 (i : Int)] w fun e w' => e = .returned (.int .i64 (d i : Int)) ∧ Drew w w' := by
  have hc1 := hx.cnt
  have hn := rx.fits
  by_cases hin : i < n
  · have hc2 : w.cell? ⟨b, 2 + i, none⟩ = some (.int .i64 (d i : Int)) := hx.at_ (by omega)
    have h3 : ¬ ((n : Int) ≤ (i : Int)) := by omega
    clear hx rx
    go_enter Tryz.func226, Tryz.ntmps226
    go_wp2_with fail
    go_ret
    exact ⟨rfl, Drew.refl _⟩
  · have h3 : (n : Int) ≤ (i : Int) := by omega
    have hd : d i = 0 := rx.ends i (by omega)
    have HD := hide hd
    clear hx rx hd
    go_enter Tryz.func226, Tryz.ntmps226
    go_wp2_with fail
    go_ret
    exact ⟨by rw [HD.out]; rfl, Drew.refl _⟩

set_option maxRecDepth 100000 in
set_option maxHeartbeats 1000000 in
theorem estimate_any (w : World) (bx bz : Nat) (lx lz : Bool) (nx nz : Nat) (dx dz : Nat → Nat) (hx : Wd w bx lx nx dx) (hz : Wd w bz lz nz dz) (rx : Rt nx dx) (rz : Rt nz dz) (h1 : 1 ≤ nz) (hle : num dz nz ≤ num dx nx) (hlt : num dx nx < num dz nz * W9) :
    Calls Tryz.prog 205 #[.pointer (some ⟨bx, 0, none⟩), .pointer (some ⟨bz, 0, none⟩)] w fun e w' => RetInt (fun c => ∃ k : Nat, c = k ∧ EstR (num dx nx) (num dz nz) k) e ∧ Drew w w' := by
  have hz1 := hz.cnt
  have hnz := rz.fits
  have hE := est_ok rx rz h1 hle hlt
  have HE := hide hE
  have b1 : dx nz < 1000000000 := rx.lows _
  have b2 : dx (nz - 1) < 1000000000 := rx.lows _
  have b3 : dz (nz - 1) < 1000000000 := rz.lows _
  have b4 : 1 ≤ dz (nz - 1) := by rcases rz.full with h | h <;> omega
  have HX := hide hx
  have HZ := hide hz
  have HRX := hide rx
  have HRZ := hide rz
  clear hx hz rx rz hle hlt hE
  have c1 : ∀ n, Calls Tryz.prog 226 #[.pointer (some ⟨bx, 0, none⟩), .int .i64 (nz : Int)] (w.drewN n) fun e w' => e = .returned (.int .i64 (dx nz : Int)) ∧ ∃ m, w' = (w.drewN n).drewN m :=
    fun n => top_any _ _ _ _ _ _ (HX.out.drewN n) HRX.out (by omega)
  have c2 : ∀ n, Calls Tryz.prog 226 #[.pointer (some ⟨bx, 0, none⟩), .int .i64 ((nz : Int) - 1)] (w.drewN n) fun e w' => e = .returned (.int .i64 (dx (nz - 1) : Int)) ∧ ∃ m, w' = (w.drewN n).drewN m := by
    intro n; rw [show (nz : Int) - 1 = ((nz - 1 : Nat) : Int) by omega]; exact top_any _ _ _ _ _ _ (HX.out.drewN n) HRX.out (by omega)
  have c3 : ∀ n, Calls Tryz.prog 226 #[.pointer (some ⟨bz, 0, none⟩), .int .i64 ((nz : Int) - 1)] (w.drewN n) fun e w' => e = .returned (.int .i64 (dz (nz - 1) : Int)) ∧ ∃ m, w' = (w.drewN n).drewN m := by
    intro n; rw [show (nz : Int) - 1 = ((nz - 1 : Nat) : Int) by omega]; exact top_any _ _ _ _ _ _ (HZ.out.drewN n) HRZ.out (by omega)
  have C1 := hide c1
  have C2 := hide c2
  have C3 := hide c3
  clear c1 c2 c3
  have ew : IntKind.i64.wrap ((nz : Int) - 1) = (nz : Int) - 1 := IntWalk.i64_in _ ⟨by omega, by omega⟩
  go_enter Tryz.func205, Tryz.ntmps205
  go_wp2_with fail
  go_quiet ((first | (go_at_call_of 226 (Value.int .i64 (nz : Int)); exact Calls.quiet_of (C1.out _)) | (go_at_call_of 226 (Value.pointer (some ⟨bz, 0, none⟩)); exact Calls.quiet_of (C3.out _)) | (go_at_call 226; exact Calls.quiet_of (C2.out _))))
  clear ew
  by_cases hm : 1 < nz
  · have hm' : (1 : Int) < (nz : Int) := by omega
    rw [if_pos hm] at HE
    go_wp2_with fail
    all_goals go_wp2
    all_goals go_ret
    · have h0 : 0 < ((dx nz : Int) * 1000000000 + (dx (nz - 1) : Int)) / ((dz (nz - 1) : Int) + 1) := by assumption
      exact ⟨est_close HE.out _ _ (by simp) h0 (by omega), _, rfl⟩
    · have h0 : 0 < ((dx nz : Int) * 1000000000 + (dx (nz - 1) : Int)) / ((dz (nz - 1) : Int) + 1) := by assumption
      exact ⟨est_close HE.out _ _ (by simp) h0 (by omega), _, rfl⟩
    · exact ⟨⟨1, rfl, 1, rfl, HE.out 1 (.inl rfl)⟩, _, rfl⟩
  · have hm' : ¬ (1 : Int) < (nz : Int) := by omega
    rw [if_neg hm] at HE
    go_wp2_with fail
    all_goals go_wp2
    all_goals go_ret
    · have h0 : 0 < ((dx nz : Int) * 1000000000 + (dx (nz - 1) : Int)) / (dz (nz - 1) : Int) := by assumption
      exact ⟨est_close HE.out _ _ (by simp) h0 (by omega), _, rfl⟩
    · have h0 : 0 < ((dx nz : Int) * 1000000000 + (dx (nz - 1) : Int)) / (dz (nz - 1) : Int) := by assumption
      exact ⟨est_close HE.out _ _ (by simp) h0 (by omega), _, rfl⟩
    · exact ⟨⟨1, rfl, 1, rfl, HE.out 1 (.inl rfl)⟩, _, rfl⟩
end Go.Proofs.YtblfinpfcpglcaaGreatDoor
