/- Contracts and plain laws that the statements of this seat share (part Eaaa). -/
import Derived.Test.YthmmgjieppknkaaGreatDoorKab
import Derived.Test.YthmmgjieppknkaaGreatDoorKau
import Derived.ProofKit
namespace MLab
theorem oneE_add (c : Nat → Rat) (f g : Pt → Rat) (p : Pt) : oneE c (fun x => f x + g x) p = oneE c f p + oneE c g p := by unfold oneE; grind
theorem expE_add (c : Nat → Rat) : ∀ n (f g : Pt → Rat) p, expE c n (fun x => f x + g x) p = expE c n f p + expE c n g p
  | 0, _, _, _ => rfl
  | n + 1, f, g, p => by
    rw [expE, show oneE c (fun x => f x + g x) = fun x => oneE c f x + oneE c g x from funext fun p => oneE_add c f g p]
    exact expE_add c n _ _ p
theorem oneE_mono {c : Nat → Rat} (h : ∀ m, 0 ≤ c m ∧ c m ≤ 1) {f g : Pt → Rat} (hfg : ∀ p, OkP p → f p ≤ g p) (p : Pt) (hp : OkP p) : oneE c f p ≤ oneE c g p := by
  obtain ⟨h0, h1⟩ := goodQ_nn h p
  unfold oneE
  have a := Rat.mul_le_mul_of_nonneg_left (hfg _ (okP_goes hp true)) h0
  have b := Rat.mul_le_mul_of_nonneg_left (hfg _ (okP_goes hp false)) (show 0 ≤ 1 - goodQ c p by grind)
  grind
theorem expE_mono {c : Nat → Rat} (h : ∀ m, 0 ≤ c m ∧ c m ≤ 1) : ∀ (n : Nat) {f g : Pt → Rat}, (∀ p, OkP p → f p ≤ g p) → ∀ p, OkP p → expE c n f p ≤ expE c n g p
  | 0, _, _, hfg, p, hp => hfg p hp
  | n + 1, _, _, hfg, p, hp => expE_mono h n (fun q hq => oneE_mono h hfg q hq) p hp
theorem isM_nn (m : Nat) (p : Pt) : 0 ≤ isM m p := by unfold isM; split <;> decide
theorem modeQ_nn {c : Nat → Rat} (h : ∀ m, 0 ≤ c m ∧ c m ≤ 1) (n m : Nat) : 0 ≤ modeQ c n m := by
  have := expE_mono h n (f := fun _ => 0) (g := isM m) (fun p _ => isM_nn m p) (begunP 0) (okP_begun (by omega))
  rwa [expE_const] at this
theorem expE_congr (c : Nat → Rat) : ∀ (n : Nat) {f g : Pt → Rat}, (∀ p, OkP p → f p = g p) → ∀ p, OkP p → expE c n f p = expE c n g p
  | 0, _, _, hfg, p, hp => hfg p hp
  | n + 1, f, g, hfg, p, hp => expE_congr c n (fun q hq => by unfold oneE; rw [hfg _ (okP_goes hq true), hfg _ (okP_goes hq false)]) p hp
theorem modeQ_sum (c : Nat → Rat) (n : Nat) : modeQ c n 0 + modeQ c n 1 + modeQ c n 2 + modeQ c n 3 = 1 := by
  unfold modeQ
  rw [← expE_add, ← expE_add, ← expE_add]
  rw [expE_congr c n (g := fun _ => 1) (fun p hp => by
    have h := hp.1
    unfold isM
    rcases (by omega : p.mode = 0 ∨ p.mode = 1 ∨ p.mode = 2 ∨ p.mode = 3) with e | e | e | e <;> rw [e] <;> simp <;> grind) (begunP 0) (okP_begun (by omega))]
  exact expE_const c 1 n _
theorem modeQ_stop {c : Nat → Rat} (h : ∀ m, 0 ≤ c m ∧ c m ≤ 1) (n : Nat) : modeQ c n 3 ≤ modeQ c (n + 1) 3 := by
  show expE c n (isM 3) (begunP 0) ≤ expE c n (oneE c (isM 3)) (begunP 0)
  refine expE_mono h n (fun p hp => ?_) _ (okP_begun (by omega))
  by_cases e : p.mode = 3
  · unfold oneE
    rw [goesP_stop e, goesP_stop e]
    grind
  · have h0 : isM 3 p = 0 := by unfold isM; rw [if_neg e]
    rw [h0]
    obtain ⟨g0, g1⟩ := goodQ_nn h p
    unfold oneE
    have a := Rat.mul_nonneg g0 (isM_nn 3 (goesP p true))
    have b := Rat.mul_nonneg (show 0 ≤ 1 - goodQ c p by grind) (isM_nn 3 (goesP p false))
    grind
theorem modeQ_le {c : Nat → Rat} (h : ∀ m, 0 ≤ c m ∧ c m ≤ 1) (n m : Nat) : modeQ c n m ≤ 1 := by
  have := expE_mono h n (f := isM m) (g := fun _ => 1) (fun p _ => by unfold isM; split <;> decide) (begunP 0) (okP_begun (by omega))
  rwa [expE_const] at this
end MLab
