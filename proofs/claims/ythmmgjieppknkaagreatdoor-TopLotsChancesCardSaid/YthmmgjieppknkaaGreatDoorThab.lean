/- Contracts and plain laws that the statements of this seat share (part Thab). -/
import Derived.Test.YthmmgjieppknkaaGreatDoorKtab
import Derived.Test.YthmmgjieppknkaaGreatDoorKtau
import Derived.ProofKit
namespace MLab
theorem oneE_mono {c : Nat → Rat} (h : ∀ m, 0 ≤ c m ∧ c m ≤ 1) {f g : Pt → Rat} (hfg : ∀ p, OkP p → f p ≤ g p) (p : Pt) (hp : OkP p) : oneE c f p ≤ oneE c g p := by
  obtain ⟨h0, h1⟩ := goodQ_nn h p
  unfold oneE
  have a := Rat.mul_le_mul_of_nonneg_left (hfg _ (okP_goes hp true)) h0
  have b := Rat.mul_le_mul_of_nonneg_left (hfg _ (okP_goes hp false)) (show 0 ≤ 1 - goodQ c p by grind)
  grind
theorem expE_mono {c : Nat → Rat} (h : ∀ m, 0 ≤ c m ∧ c m ≤ 1) : ∀ (n : Nat) {f g : Pt → Rat}, (∀ p, OkP p → f p ≤ g p) → ∀ p, OkP p → expE c n f p ≤ expE c n g p
  | 0, _, _, hfg, p, hp => hfg p hp
  | n + 1, _, _, hfg, p, hp => expE_mono h n (fun q hq => oneE_mono h hfg q hq) p hp
theorem modeQ_le {c : Nat → Rat} (h : ∀ m, 0 ≤ c m ∧ c m ≤ 1) (n m : Nat) : modeQ c n m ≤ 1 := by
  have := expE_mono h n (f := isM m) (g := fun _ => 1) (fun p _ => by unfold isM; split <;> decide) (begunP 0) (okP_begun (by omega))
  rwa [expE_const] at this
end MLab
