/- Contracts and plain laws that the statements of this seat share (part Esaa). -/
import Derived.Test.YthmmgjieppknkaaGreatDoorKab
import Derived.Test.YthmmgjieppknkaaGreatDoorKau
import Derived.ProofKit
namespace MLab
def sureP (s : Nat → Bool) : Nat → Pt → Pt
  | 0, p => p
  | n + 1, p => sureP s n (goesP p (s p.mode))
theorem sureP_succ (s : Nat → Bool) : ∀ (n : Nat) (p : Pt), sureP s (n + 1) p = goesP (sureP s n p) (s (sureP s n p).mode)
  | 0, _ => rfl
  | n + 1, p => by
    show sureP s (n + 1) (goesP p (s p.mode)) = _
    rw [sureP_succ s n (goesP p (s p.mode))]; rfl
theorem sureP_stop (s : Nat → Bool) {p : Pt} (h : p.mode = 3) : ∀ n, sureP s n p = p
  | 0 => rfl
  | n + 1 => by rw [sureP, goesP_stop h]; exact sureP_stop s h n
theorem sureP_add (s : Nat → Bool) : ∀ (n m : Nat) (p : Pt), sureP s (n + m) p = sureP s m (sureP s n p)
  | 0, m, p => by rw [Nat.zero_add]; rfl
  | n + 1, m, p => by rw [Nat.add_right_comm, sureP, sureP, sureP_add s n m]
theorem sureP_ok (s : Nat → Bool) : ∀ (n : Nat) {p : Pt}, OkP p → OkP (sureP s n p)
  | 0, _, h => h
  | n + 1, _, h => sureP_ok s n (okP_goes h _)
theorem expE_sure {c : Nat → Rat} {s : Nat → Bool} (hc : ∀ m, m ≤ 2 → c m = if s m then 1 else 0) : ∀ (n : Nat) (f : Pt → Rat) {p : Pt}, OkP p → expE c n f p = f (sureP s n p)
  | 0, _, _, _ => rfl
  | n + 1, f, p, hp => by
    rw [expE, expE_sure hc n (oneE c f) hp, sureP_succ]
    have hq := sureP_ok s n hp
    obtain ⟨q, hqq⟩ : ∃ q, sureP s n p = q := ⟨_, rfl⟩
    rw [hqq] at hq ⊢
    unfold oneE
    by_cases h3 : q.mode = 3
    · rw [goesP_stop h3, goesP_stop h3, goesP_stop h3]; grind
    · have hg : goodQ c q = if s q.mode then 1 else 0 := by
        unfold goodQ
        rw [if_neg (fun e => h3 (by rw [e]; rfl))]
        exact hc _ (by have := hq.1; omega)
      rw [hg]
      cases s q.mode <;> simp <;> grind
theorem modeQ_sure {c : Nat → Rat} {s : Nat → Bool} (hc : ∀ m, m ≤ 2 → c m = if s m then 1 else 0) (n m : Nat) : modeQ c n m = if (sureP s n (begunP 0)).mode = m then 1 else 0 := by
  unfold modeQ
  rw [expE_sure hc n _ (okP_begun (by omega))]; rfl
end MLab
