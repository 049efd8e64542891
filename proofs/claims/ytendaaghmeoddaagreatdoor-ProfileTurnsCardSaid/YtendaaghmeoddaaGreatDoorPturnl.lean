/- Plain laws of ProfileTurns: a closed polyline that begins elsewhere, goes back or has X and Y exchanged is right, and its points are located alike. -/
import Derived.Test.YtendaaghmeoddaaGreatDoorRpin
namespace Go.Proofs.YtendaaghmeoddaaGreatDoor
open Go.RowKit MLab

theorem chkP_true {L : List S2} (h : chkP L true = 0) : 3 ≤ L.length ∧ L.length ≤ 64 ∧ RightS L ∧ ∀ j, j < L.length → gP L j ≠ nx L j := by
  obtain ⟨h64, _, hr⟩ := chkP_zero h
  unfold chkP at h
  split at h
  · unfold chkL at h
    split at h
    · exact absurd h (by decide)
    · rename_i h3
      split at h
      · exact absurd h (by decide)
      · rename_i ht
        have h3' : 3 ≤ L.length := Nat.le_of_not_lt fun h => h3 (.inr ⟨rfl, h⟩)
        refine ⟨h3', h64, hr, fun j hj e => ht (twice_yes (i := j) (by simpa [segN] using hj) e)⟩
  · rename_i h0; exact absurd h h0
theorem chkP_of {M : List S2} (h3 : 3 ≤ M.length) (h64 : M.length ≤ 64) (hr : ∀ i, i < M.length → Co (gP M i).1 ∧ Co (gP M i).2) (hne : ∀ j, j < M.length → gP M j ≠ nx M j) : chkP M true = 0 := by
  have h0 : chkPtsN M = 0 := by
    unfold chkPtsN chkPts
    rw [if_neg (by omega), if_pos]
    refine List.all_eq_true.2 fun x hx => ?_
    obtain ⟨i, hi, rfl⟩ := List.getElem_of_mem hx
    have h := hr i hi
    have e : M[i] = gP M i := by
      have h1 := gP_eq hi
      rw [List.getElem?_eq_getElem hi] at h1
      exact Option.some.inj h1
    rw [e]; unfold okPts; exact decide_eq_true h
  unfold chkP; rw [if_pos h0]; unfold chkL
  rw [if_neg (by omega), if_neg]
  rw [twice_no fun i hi => hne i (by simpa [segN] using hi)]; decide
/-- Each side of M is one of L, as it is, turned back, or with X and Y exchanged. -/
theorem chkP_sides {L M : List S2} (h : chkP L true = 0) (hM : M.length = L.length)
    (hs : ∀ j, j < L.length → ∃ t, t < L.length ∧ ((gP M j = gP L t ∧ nx M j = nx L t) ∨ (gP M j = nx L t ∧ nx M j = gP L t) ∨ (gP M j = sw (gP L t) ∧ nx M j = sw (nx L t)))) : chkP M true = 0 := by
  obtain ⟨h3, h64, hr, hne⟩ := chkP_true h
  refine chkP_of (by omega) (by omega) (fun i hi => ?_) fun j hj => ?_
  · obtain ⟨t, ht, h | h | h⟩ := hs i (by omega)
    · rw [h.1]; exact hr t
    · rw [h.1]; exact hr _
    · rw [h.1]; exact ⟨(hr t).2, (hr t).1⟩
  · obtain ⟨t, ht, h | h | h⟩ := hs j (by omega)
    · rw [h.1, h.2]; exact hne t ht
    · rw [h.1, h.2]; exact (hne t ht).symm
    · rw [h.1, h.2]; intro e
      have e := congrArg sw e
      exact hne t ht e

def rotL (k : Nat) (L : List S2) : List S2 := L.drop k ++ L.take k
theorem rot_length {k : Nat} {L : List S2} (hk : k < L.length) : (rotL k L).length = L.length := by unfold rotL; rw [List.length_append, List.length_drop, List.length_take]; omega
theorem rot_at {k j : Nat} {L : List S2} (hk : k < L.length) (hj : j < L.length) : gP (rotL k L) j = gP L ((j + k) % L.length) := by
  unfold rotL gP
  rw [List.getD_eq_getElem?_getD, List.getD_eq_getElem?_getD]
  congr 1
  rcases Nat.lt_or_ge j (L.length - k) with h | h
  · rw [List.getElem?_append_left (by rw [List.length_drop]; exact h), List.getElem?_drop, Nat.mod_eq_of_lt (by omega), Nat.add_comm]
  · rw [List.getElem?_append_right (by rw [List.length_drop]; exact h), List.length_drop, List.getElem?_take]
    have : (j + k) % L.length = j + k - L.length := by
      rw [Nat.mod_eq_sub_mod (by omega), Nat.mod_eq_of_lt (by omega)]
    rw [this, if_pos (by omega)]
    congr 1; omega
theorem rot_nx {k j : Nat} {L : List S2} (hk : k < L.length) : nx (rotL k L) j = nx L ((j + k) % L.length) := by
  unfold nx
  rw [rot_length hk, rot_at hk (Nat.mod_lt _ (by omega))]
  congr 1
  rw [Nat.add_mod ((j + 1) % L.length), Nat.mod_mod, ← Nat.add_mod, Nat.add_mod ((j + k) % L.length) 1, Nat.mod_mod, ← Nat.add_mod]
  congr 1; omega
theorem rot_chk {k : Nat} {L : List S2} (h : chkP L true = 0) (hk : k < L.length) : chkP (rotL k L) true = 0 :=
  chkP_sides h (rot_length hk) fun j hj => ⟨(j + k) % L.length, Nat.mod_lt _ (by omega), .inl ⟨rot_at hk hj, rot_nx hk⟩⟩
theorem rot_turn {k : Nat} {L : List S2} (hk : k < L.length) (p : S2) : locP (rotL k L) p = locP L p ∧ distP (rotL k L) p = distP L p :=
  turn_begin hk (rot_length hk) (fun j => by
    rw [rot_at hk (Nat.mod_lt _ (by omega))]
    congr 1
    rw [Nat.add_mod (j % L.length), Nat.mod_mod, ← Nat.add_mod]) p

theorem rev_at {j : Nat} {L : List S2} (hj : j < L.length) : gP L.reverse j = gP L (L.length - 1 - j) := by
  unfold gP
  rw [List.getD_eq_getElem?_getD, List.getD_eq_getElem?_getD, List.getElem?_reverse hj]
theorem rev_chk {L : List S2} (h : chkP L true = 0) : chkP L.reverse true = 0 :=
  chkP_sides h List.length_reverse fun j hj => by
    rcases Nat.lt_or_ge (j + 1) L.length with h1 | h1
    · refine ⟨L.length - 1 - (j + 1), by omega, .inr (.inl ⟨?_, ?_⟩)⟩
      · rw [rev_at hj]; unfold nx; congr 1; rw [Nat.mod_eq_of_lt (by omega)]; omega
      · unfold nx; rw [List.length_reverse, Nat.mod_eq_of_lt h1, rev_at h1]
    · obtain rfl : j = L.length - 1 := by omega
      refine ⟨L.length - 1, by omega, .inr (.inl ⟨?_, ?_⟩)⟩
      · rw [rev_at hj, nx_last (by omega)]; congr 1; omega
      · unfold nx; rw [List.length_reverse, show L.length - 1 + 1 = L.length by omega, Nat.mod_self, rev_at (by omega)]; congr 1
theorem rev_turn {L : List S2} (hL : 1 ≤ L.length) (p : S2) : locP L.reverse p = locP L p ∧ distP L.reverse p = distP L p :=
  turn_back hL List.length_reverse (fun _ hj => rev_at hj) p

theorem swl_at {j : Nat} {L : List S2} (hj : j < L.length) : gP (L.map sw) j = sw (gP L j) := by
  unfold gP
  rw [List.getD_eq_getElem?_getD, List.getD_eq_getElem?_getD, List.getElem?_map, List.getElem?_eq_getElem hj]; rfl
theorem swl_chk {L : List S2} (h : chkP L true = 0) : chkP (L.map sw) true = 0 :=
  chkP_sides h (List.length_map _) fun j hj => ⟨j, hj, .inr (.inr ⟨swl_at hj, by
    unfold nx; rw [List.length_map, swl_at (Nat.mod_lt _ (by omega))]⟩)⟩
theorem swl_turn {L : List S2} (hL : 1 ≤ L.length) (p : S2) : locP (L.map sw) (sw p) = locP L p ∧ distP (L.map sw) (sw p) = distP L p :=
  turn_swap hL (List.length_map _) (fun _ hj => swl_at hj) p

set_option maxRecDepth 100000 in
set_option maxHeartbeats 1000000 in
theorem right37_any (w : World) (v : Value) (L : List S2) (hv : Pts w v L) :
    Calls Tryz.prog 28 #[v] w fun e w' => e = .returned (.bool (decide (L.length ≤ 8 ∧ chkP L true = 0))) ∧ Below w.heap.size w w' := by
  obtain ⟨R, hR⟩ : ∃ R, decide (L.length ≤ 8 ∧ chkP L true = 0) = R := ⟨_, rfl⟩
  rw [hR]
  have HR := hide hR
  have HV := hide hv
  obtain ⟨A, c, rfl, _⟩ := id hv
  clear hv hR
  by_cases h8 : L.length ≤ 8
  · have hi8 : (L.length : Int) ≤ 8 := by omega
    have hL : L.length ≤ 1000000000000 := by omega
    have hd : decide (chkP L true = 0) = R := by rw [← HR.out]; exact decide_eq_decide.2 ⟨fun h => ⟨h8, h⟩, fun h => h.2⟩
    have HD := hide hd
    clear hd
    go_enter Tryz.func28, Tryz.ntmps28
    go_wp2_with fail
    refine (rpcheck_any _ _ L true HV.out hL).mono ?_
    rintro e w1 ⟨rfl, hb1⟩
    have HB1 := hide hb1
    clear hb1
    generalize chkP L true = k at *
    go_wp2_with fail
    go_ret
    exact ⟨by rw [← HD.out]; rfl, HB1.out⟩
  · have hi8 : ¬ (L.length : Int) ≤ 8 := by omega
    have hd : R = false := by rw [← HR.out]; exact decide_eq_false fun h => h8 h.1
    subst hd
    clear HR
    go_enter Tryz.func28, Tryz.ntmps28
    go_wp2_with fail
    go_ret
    exact ⟨rfl, Below.refl _ _⟩
end Go.Proofs.YtendaaghmeoddaaGreatDoor
