/- Plain laws of ProfileParts and ProfileGrows. -/
import Derived.Test.YtendaaghmeoddaaGreatDoorRpout
namespace Go.Proofs.YtendaaghmeoddaaGreatDoor
open Go.RowKit MLab

theorem farQ_mono {d : Rat} {n m : Int} (h0 : 0 ≤ n) (h : n ≤ m) (hf : farQ d m = true) : farQ d n = true := by
  unfold farQ at *
  have hf := of_decide_eq_true hf
  have h1 : n * n ≤ m * m := Int.mul_le_mul h h h0 (by omega)
  have h2 : ((n * n : Int) : Rat) ≤ ((m * m : Int) : Rat) := Rat.intCast_le_intCast.2 h1
  exact decide_eq_true (by grind)
theorem farQ_four (d : Rat) (n : Int) : farQ (4 * d) (2 * n) = farQ d n := by
  unfold farQ
  have h : ((2 * n * (2 * n) : Int) : Rat) = 4 * ((n * n : Int) : Rat) := by rw [show 2 * n * (2 * n) = 4 * (n * n) by grind, Rat.intCast_mul]; rfl
  rw [h]
  exact decide_eq_decide.2 (by constructor <;> intro <;> grind)
theorem farQ_zero (n : Int) : farQ 0 n = false := by
  unfold farQ
  refine decide_eq_false fun h => ?_
  have h1 : 0 ≤ n * n := by rcases Int.le_total 0 n with h | h; exact Int.mul_nonneg h h; exact Int.mul_nonneg_of_nonpos_of_nonpos h h
  have h2 : ((0 : Int) : Rat) ≤ ((n * n : Int) : Rat) := Rat.intCast_le_intCast.2 h1
  have h3 : ((0 : Int) : Rat) = 0 := rfl
  grind
theorem uneB_same {d : Rat} {s : Int} (hs : s = 0 → d = 0) (n : Int) : uneB d s n n = farQ (4 * d) (2 * n) := by
  rw [farQ_four]
  unfold uneB
  by_cases h0 : s = 0
  · rw [hs h0, farQ_zero]; simp
  · by_cases h1 : 0 < s
    · rw [decide_eq_true h1, decide_eq_false (by omega : ¬ s < 0)]; simp
    · rw [decide_eq_false h1, decide_eq_true (by omega : s < 0)]; simp
theorem uneB_wide {d : Rat} {s n m : Int} (h0 : 0 ≤ n) (hm : n ≤ m) (h : uneB d s n m = true) : uneB d s n n = true := by
  unfold uneB at *
  rw [Bool.or_eq_true, Bool.and_eq_true, Bool.and_eq_true] at *
  rcases h with h | h
  · exact .inl h
  · exact .inr ⟨h.1, farQ_mono h0 hm h.2⟩
theorem uneB_in {d : Rat} {s n m : Int} (hs : 0 < s) (h : uneB d s n n = true) : uneB d s n m = true := by
  unfold uneB at *
  rw [decide_eq_true hs, decide_eq_false (by omega : ¬ s < 0)] at *
  simpa using h
theorem uneB_ne {d : Rat} {s n m : Int} (h : uneB d s n m = true) : s ≠ 0 := by
  rintro rfl
  simp [uneB] at h
theorem wst_max (z : Rat) (d : Nat → Rat) : ∀ k j, j < k → d j ≤ (wst z d k).1
  | 0, j, h => absurd h (by omega)
  | k + 1, j, h => by
    unfold wst
    split
    · rename_i hlt
      rcases Nat.lt_or_ge j k with h1 | h1
      · have := wst_max z d k j h1; show d j ≤ d k; grind
      · obtain rfl : j = k := by omega
        exact Rat.le_refl
    · rename_i hlt
      rcases Nat.lt_or_ge j k with h1 | h1
      · exact wst_max z d k j h1
      · obtain rfl : j = k := by omega
        exact Rat.not_lt.1 hlt
theorem wst_at' {d : Nat → Rat} (h : ∀ j, 0 ≤ d j) : ∀ k, (wst (-1) d (k + 1)).1 = d (wst (-1) d (k + 1)).2 ∧ (wst (-1) d (k + 1)).2 < k + 1
  | 0 => by
    have h0 := h 0
    have : wst (-1) d (0 + 1) = (d 0, 0) := by
      show (if (-1 : Rat) < d 0 then (d 0, 0) else (-1, 0)) = _
      rw [if_pos (by grind)]
    rw [this]; exact ⟨rfl, by omega⟩
  | k + 1 => by
    have ih := wst_at' h k
    rw [wst]
    split
    · exact ⟨rfl, by show k + 1 < k + 1 + 1; omega⟩
    · exact ⟨ih.1, by omega⟩
theorem wst_at {d : Nat → Rat} (h : ∀ j, 0 ≤ d j) {k : Nat} (hk : 0 < k) : (wst 0 d k).1 = d (wst 0 d k).2 ∧ (wst 0 d k).2 < k := by
  match k, hk with
  | k + 1, _ => rw [← wst_start h k]; exact wst_at' h k

/-- The unequal points with one tolerance are those outside. -/
theorem parts_same (L P : List S2) (n : Int) : fl (uneF L P n n) P.length = fl (outF L true P (2 * n)) P.length :=
  fl_congr fun i _ => uneB_same (fun h => (dN_loc L _ _).2 (by
    unfold locP at h
    split at h
    · assumption
    · split at h <;> omega)) n
theorem parts_wide {L P : List S2} {n m : Int} (h0 : 0 ≤ n) (hm : n ≤ m) {k : Nat} (h : k ∈ fl (uneF L P n m) P.length) : k ∈ fl (uneF L P n n) P.length := by
  rw [fl_mem] at *
  exact ⟨h.1, uneB_wide h0 hm h.2⟩
theorem parts_in {L P : List S2} {n m : Int} {k : Nat} (hs : 0 < locP L (gP P k)) (h : k ∈ fl (uneF L P n n) P.length) : k ∈ fl (uneF L P n m) P.length := by
  rw [fl_mem] at *
  exact ⟨h.1, uneB_in hs h.2⟩
theorem parts_ne {L P : List S2} {n m : Int} {k : Nat} (h : k ∈ fl (uneF L P n m) P.length) : locP L (gP P k) ≠ 0 := by
  rw [fl_mem] at h
  exact uneB_ne h.2

/-- A wider zone. -/
theorem grows_wide {L P : List S2} {c : Bool} {n : Int} (h0 : 0 ≤ n) {k : Nat} (h : k ∈ fl (outF L c P (n + 1)) P.length) : k ∈ fl (outF L c P n) P.length := by
  rw [fl_mem] at *
  exact ⟨h.1, farQ_mono h0 (by omega) h.2⟩
theorem dN_nn (L : List S2) (c : Bool) (p : S2) : 0 ≤ dN L c p := by
  unfold dN
  rw [(nearF_at _ _).1]
  exact segV_nn _ _ _ _ _ _
theorem grows_mem {L P : List S2} {c : Bool} (n : Int) (hP : 0 < P.length) :
    (wst 0 (fun i => dN L c (gP P i)) P.length).2 < P.length ∧
    ((wst 0 (fun i => dN L c (gP P i)) P.length).2 ∈ fl (outF L c P n) P.length ↔ farQ (4 * (wst 0 (fun i => dN L c (gP P i)) P.length).1) n = true) := by
  have h := wst_at (d := fun i => dN L c (gP P i)) (fun j => dN_nn _ _ _) hP
  refine ⟨h.2, ?_⟩
  rw [fl_mem, h.1]
  exact ⟨fun k => k.2, fun k => ⟨h.2, k⟩⟩
theorem grows_none {L P : List S2} {c : Bool} {n : Int} (h : farQ (4 * (wst 0 (fun i => dN L c (gP P i)) P.length).1) n = false) : fl (outF L c P n) P.length = [] := by
  refine List.eq_nil_iff_forall_not_mem.2 fun x hx => ?_
  rw [fl_mem] at hx
  have h1 := of_decide_eq_true (show decide (((n * n : Int) : Rat) < 4 * dN L c (gP P x)) = true from hx.2)
  have h2 := of_decide_eq_false (show decide (((n * n : Int) : Rat) < 4 * (wst 0 (fun i => dN L c (gP P i)) P.length).1) = false from h)
  have h3 := wst_max 0 (fun i => dN L c (gP P i)) P.length x hx.1
  have h4 : dN L c (gP P x) ≤ (wst 0 (fun i => dN L c (gP P i)) P.length).1 := h3
  grind
theorem grows_closed (L : List S2) (p : S2) (h2 : 1 ≤ L.length) : dN L true p ≤ dN L false p := by
  unfold dN
  rw [(nearF_at (dq L p) (segN L false - 1)).1]
  refine nearF_le _ _ _ ?_
  have := (nearF_at (dq L p) (segN L false - 1)).2
  have a : segN L true = L.length := rfl
  have b : segN L false = L.length - 1 := rfl
  omega
theorem grows_chk {L : List S2} {c : Bool} (h : chkP L c = 0) (h3 : 3 ≤ L.length) (hne : gP L 0 ≠ gP L (L.length - 1)) (c' : Bool) : chkP L c' = 0 := by
  unfold chkP at *
  split at h
  · rename_i h0
    rw [if_pos h0]
    unfold chkL at *
    rw [if_neg (by omega)] at *
    split at h
    · cases h
    · rename_i h1
      rw [if_neg]
      intro hh
      apply h1
      unfold twiceB at hh
      obtain ⟨j, hj, he⟩ := List.any_eq_true.1 hh
      have he := of_decide_eq_true he
      have hj := List.mem_range.1 hj
      have hs : segN L c' ≤ L.length := by unfold segN; split <;> omega
      have hjl : j + 1 < L.length := by
        rcases Nat.lt_or_ge (j + 1) L.length with h | h
        · exact h
        · exfalso
          rw [nx_last (by omega)] at he
          rw [show j = L.length - 1 by omega] at he
          exact hne he.symm
      exact twice_yes (i := j) (by unfold segN; split <;> omega) he
  · rename_i h0
    exact absurd h h0

set_option maxRecDepth 100000 in
set_option maxHeartbeats 2000000 in
theorem index37_any (w : World) (u : Value) (l : List Nat) (k : Nat) (hL : l.length ≤ 1000000000000) (hu : IxL w u l) :
    Calls Tryz.prog 65 #[u, .int .i64 (k : Int)] w fun e w' => (∃ z : Int, e = .returned (.int .i64 z) ∧ (0 ≤ z ↔ k ∈ l)) ∧ Below w.heap.size w w' := by
  obtain ⟨A, c, rfl, hc⟩ := hu
  have HC := hide hc
  clear hc
  go_enter Tryz.func65, Tryz.ntmps65
  go_wp2_with fail
  go_loopg [8] l.length (fun q iv wr => ∃ j : Nat, iv = .int .i64 (j : Int) ∧ q + j = l.length ∧ (∀ i, i < j → l[i]? ≠ some k) ∧ Below w.heap.size w wr)
  case atStart => exact ⟨0, rfl, rfl, fun i h => absurd h (by omega), Below.refl _ _⟩
  case round =>
    obtain ⟨j, rfl, hq, hs, hb⟩ := hrel
    have hj : j ≤ l.length := by omega
    have HQ := hide hq
    have HS := hide hs
    have HB := hide hb
    clear hq hs hb
    by_cases hlt : j < l.length
    · have hji : (j : Int) < (l.length : Int) := by omega
      have hj0 : (0 : Int) ≤ (j : Int) := by omega
      obtain ⟨g, hA, hcell⟩ := HC.out (by omega)
      subst hA
      obtain ⟨x, hx⟩ : ∃ x, l[j]? = some x := ⟨_, List.getElem?_eq_getElem hlt⟩
      have a := hcell j x hx
      have a2 := (bcell HB.out _ _ (block_lt_of_cell a)).trans a
      have HX := hide hx
      clear a hcell HC hx
      by_cases e : x = k
      · subst e
        go_wp2_with fail
        go_ret
        exact ⟨⟨_, rfl, fun _ => List.mem_of_getElem? HX.out, fun _ => hj0⟩, HB.out⟩
      · have ei : ¬ (k : Int) = (x : Int) := by omega
        have ei2 : ¬ k = x := fun h => e h.symm
        have E := hide e
        clear e
        go_wp2_with fail
        go_roundg (gk - 1)
        case measure => have := HQ.out; omega
        case rel =>
          refine ⟨j + 1, by go_num, by have := HQ.out; omega, fun i hi => ?_, HB.out⟩
          by_cases e : i = j
          · subst e; rw [HX.out]; intro h; exact E.out (Option.some.inj h)
          · exact HS.out i (by omega)
    · have hji : ¬ (j : Int) < (l.length : Int) := by omega
      go_wp2_with fail
      go_ret
      refine ⟨⟨_, rfl, fun h => absurd h (by decide), fun h => ?_⟩, HB.out⟩
      obtain ⟨i, hi⟩ := List.getElem?_of_mem h
      have h2 : i < l.length := (List.getElem?_eq_some_iff.1 hi).1
      exact absurd hi (HS.out i (by omega))

set_option maxRecDepth 100000 in
theorem contains37_any (w : World) (u : Value) (l : List Nat) (k : Nat) (hL : l.length ≤ 1000000000000) (hu : IxL w u l) :
    Calls Tryz.prog 31 #[u, .int .i64 (k : Int)] w fun e w' => e = .returned (.bool (decide (k ∈ l))) ∧ Below w.heap.size w w' := by
  have HC := hide (index37_any w u l k hL hu)
  obtain ⟨R, hR⟩ : ∃ R, decide (k ∈ l) = R := ⟨_, rfl⟩
  rw [hR]
  have HR := hide hR
  obtain ⟨A, c, rfl, _⟩ := hu
  clear hR
  go_enter Tryz.func31, Tryz.ntmps31
  go_wp2_with fail
  refine HC.out.mono ?_
  rintro e w1 ⟨⟨z, rfl, hz⟩, hb1⟩
  have hd : decide (0 ≤ z) = R := by rw [← HR.out]; exact decide_eq_decide.2 hz
  have HD := hide hd
  clear hd hz HC
  go_wp2_with fail
  go_ret
  exact ⟨by rw [← HD.out]; rfl, hb1⟩
end Go.Proofs.YtendaaghmeoddaaGreatDoor
