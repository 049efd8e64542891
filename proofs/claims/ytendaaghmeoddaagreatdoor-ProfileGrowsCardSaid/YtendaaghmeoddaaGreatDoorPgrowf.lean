/- What the calls of ProfileGrows return. -/
import Derived.Test.YtendaaghmeoddaaGreatDoorPlaws
import Derived.Test.YtendaaghmeoddaaGreatDoorPwor
namespace Go.Proofs.YtendaaghmeoddaaGreatDoor
open Go.RowKit MLab

theorem grows_facts {L P : List S2} {c : Bool} {t : Int} (hc : chkP L c = 0) (hk : chkPtsN P = 0) (hP : 0 < P.length) (h0 : 0 ≤ t) (ht : t < 256) :
    ∃ (la lb : List Nat) (W : Rat) (i : Nat) (n : Int),
      outE L c P t = 0 ∧ outL L c P t = la ∧ outE L c P (t + 1) = 0 ∧ outL L c P (t + 1) = lb ∧ (∀ k, k ∈ lb → k ∈ la) ∧ la.length ≤ P.length ∧ lb.length ≤ P.length ∧
      worV L c P = .tuple #[.string ⟨(RT W).toArray⟩, .int .i64 ((i : Nat) : Int), .int .i64 0] ∧ i < P.length ∧ Sz 30 30 W ∧
      cmpV (4 * W) ((t * t : Int) : Rat) = .tuple #[.int .i64 n, .int .i64 0] ∧ ((0 < n ∧ i ∈ la) ∨ (n ≤ 0 ∧ i ∉ la ∧ la = [])) := by
  obtain ⟨_, _, hr⟩ := chkP_zero hc
  have hp3 : RightS P := by
    rcases chkPtsN_cases P with h | h | ⟨_, h2, h3⟩
    · rw [h] at hk; exact absurd hk (by decide)
    · rw [h] at hk; exact absurd hk (by decide)
    · exact rightS_of_all h3
  have e1 : outE L c P t = 0 := by unfold outE; rw [if_pos hc, if_pos hk, if_pos ⟨h0, by omega⟩]
  have e2 : outE L c P (t + 1) = 0 := by unfold outE; rw [if_pos hc, if_pos hk, if_pos ⟨by omega, by omega⟩]
  have l1 : outL L c P t = fl (outF L c P t) P.length := by unfold outL; rw [if_pos e1]
  have l2 : outL L c P (t + 1) = fl (outF L c P (t + 1)) P.length := by unfold outL; rw [if_pos e2]
  obtain ⟨m1, m2⟩ := grows_mem (L := L) (c := c) t hP
  obtain ⟨W, hW⟩ : ∃ W, (wst 0 (fun i => dN L c (gP P i)) P.length).1 = W := ⟨_, rfl⟩
  obtain ⟨i, hi⟩ : ∃ i, (wst 0 (fun i => dN L c (gP P i)) P.length).2 = i := ⟨_, rfl⟩
  have hsz : Sz 30 30 W := by rw [← hW]; exact wst_sz ((Sz.int (a := 1) (n := 0) (by decide)).mono (by omega) (by omega) : Sz 30 30 ((0 : Int) : Rat)) (fun j => dN_sz hr (hp3 j)) _
  have hgn := grows_none (L := L) (P := P) (c := c) (n := t)
  rw [hW] at hgn m2
  rw [hi] at m1 m2
  have hwv : worV L c P = .tuple #[.string ⟨(RT W).toArray⟩, .int .i64 ((i : Nat) : Int), .int .i64 0] := by
    unfold worV; rw [if_pos hc, if_pos hk, if_neg (by omega), hW, hi]
  have z1 : Sz 32 31 (4 * W) := (Sz.mul ((Sz.int (a := 1) (n := 4) (by decide)) : Sz 1 0 ((4 : Int) : Rat)) hsz).mono (by omega) (by omega)
  have htt : (t * t).natAbs < 10 ^ 10 := by
    have h1 : t * t ≤ 256 * 256 := Int.mul_le_mul (by omega) (by omega) h0 (by omega)
    have h2 : 0 ≤ t * t := Int.mul_nonneg h0 h0
    have : (10 : Nat) ^ 10 = 10000000000 := by decide
    omega
  have z2 : Sz 32 31 ((t * t : Int) : Rat) := (Sz.int (a := 10) htt).mono (by omega) (by omega)
  have hfq : ∀ b, farQ (4 * W) t = b ↔ decide (((t * t : Int) : Rat) < 4 * W) = b := fun b => Iff.rfl
  have hcv : cmpV (4 * W) ((t * t : Int) : Rat) = .tuple #[.int .i64 ((4 * W).num * (((t * t : Int) : Rat)).den - (((t * t : Int) : Rat)).num * (4 * W).den).sign, .int .i64 0] := by
    unfold cmpV
    rw [if_pos ⟨big_of_pow (cross_lt z1 z2) (by decide), big_of_pow (cross_lt z2 z1) (by decide)⟩]
  refine ⟨_, _, W, i, _, e1, l1, e2, l2, fun k h => grows_wide h0 h, fl_length _ _, fl_length _ _, hwv, m1, hsz, hcv, ?_⟩
  by_cases hf : farQ (4 * W) t = true
  · exact .inl ⟨(cross_pos _ _).2 (of_decide_eq_true ((hfq true).1 hf)), m2.2 hf⟩
  · have hff : farQ (4 * W) t = false := by simpa using hf
    refine .inr ⟨?_, fun h => hf (m2.1 h), hgn hff⟩
    have h1 := of_decide_eq_false ((hfq false).1 hff)
    exact Int.not_lt.1 fun h => h1 ((cross_pos _ _).1 h)
theorem grows_near {L : List S2} {c : Bool} {x y : Int} (hc : chkP L c = 0) (h3 : 3 ≤ L.length) (hne : gP L 0 ≠ gP L (L.length - 1)) (hp : Co x ∧ Co y) :
    ∃ (d0 d1 : Rat) (i0 i1 n : Int), neV L false x y = .tuple #[.string ⟨(RT d0).toArray⟩, .int .i64 i0, .int .i64 0] ∧ neV L true x y = .tuple #[.string ⟨(RT d1).toArray⟩, .int .i64 i1, .int .i64 0] ∧ Sz 30 30 d0 ∧ Sz 30 30 d1 ∧
      cmpV d1 d0 = .tuple #[.int .i64 n, .int .i64 0] ∧ n ≤ 0 := by
  obtain ⟨_, _, hr⟩ := chkP_zero hc
  have c0 := grows_chk hc h3 hne false
  have c1 := grows_chk hc h3 hne true
  have z0 : Sz 30 30 (dN L false (x, y)) := dN_sz hr hp
  have z1 : Sz 30 30 (dN L true (x, y)) := dN_sz hr hp
  refine ⟨_, _, _, _, _, by unfold neV; rw [if_pos c0, if_pos hp], by unfold neV; rw [if_pos c1, if_pos hp], z0, z1, cmpV_sz z1 z0, ?_⟩
  exact Int.not_lt.1 fun h => Rat.not_le.2 ((cross_pos _ _).1 h) (grows_closed L (x, y) (by omega))
end Go.Proofs.YtendaaghmeoddaaGreatDoor
