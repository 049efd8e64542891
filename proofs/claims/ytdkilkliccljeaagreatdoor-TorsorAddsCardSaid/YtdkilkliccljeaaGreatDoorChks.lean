/- Lists of points: Check, CheckSpots of vector and of metrolabref07; Few, FewSpots. -/
import Derived.Test.YtdkilkliccljeaaGreatDoorAll
namespace Go.Proofs.YtdkilkliccljeaaGreatDoor
open Go.RowKit MLab

/-- The error number of a list. -/
def chkSpsN (L : List (Int × Int × Int)) : Int := if 64 < L.length then 5 else chkSps L
theorem chkSpsN_cases (L : List (Int × Int × Int)) : chkSpsN L = 5 ∨ chkSpsN L = 2 ∨ (chkSpsN L = 0 ∧ L.length ≤ 64 ∧ L.all okSps = true) := by
  unfold chkSpsN chkSps
  by_cases h : 64 < L.length
  · exact .inl (if_pos h)
  · rw [if_neg h]
    by_cases h2 : L.all okSps = true
    · exact .inr (.inr ⟨if_pos h2, by omega, h2⟩)
    · exact .inr (.inl (if_neg h2))

set_option maxRecDepth 100000 in
theorem checkeds_any (w : World) (v : Value) (L : List (Int × Int × Int)) (hv : Sps w v L) (hL : L.length ≤ 1000000000000) :
    Calls Tryz.prog 87 #[v, .func (.func 88) #[] #[]] w fun e w' => e = .returned (.int .i64 (chkSpsN L)) ∧ Below w.heap.size w w' := by
  by_cases h : 64 < L.length
  · have h1 : (64 : Int) < (L.length : Int) := by omega
    rw [chkSpsN, if_pos h]
    obtain ⟨A, c, rfl, hc⟩ := id hv
    clear hv hc
    go_enter Tryz.func87, Tryz.ntmps87
    go_wp2_with fail
    go_ret
    exact ⟨rfl, Below.refl _ _⟩
  · have h1 : ¬ (64 : Int) < (L.length : Int) := by omega
    rw [chkSpsN, if_neg h]
    have HV := hide hv
    obtain ⟨A, c, rfl, hc⟩ := id hv
    clear hv hc
    go_enter Tryz.func87, Tryz.ntmps87
    go_wp2_with fail
    refine (alls_any _ _ L HV.out hL).mono ?_
    rintro e w1 ⟨rfl, hb1⟩
    go_wp2_with fail
    go_ret
    exact ⟨rfl, hb1⟩

set_option maxRecDepth 100000 in
theorem CheckSpots_any (w : World) (v : Value) (L : List (Int × Int × Int)) (hv : Sps w v L) (hL : L.length ≤ 1000000000000) :
    Calls Tryz.prog 44 #[v] w fun e w' => e = .returned (.int .i64 (chkSpsN L)) ∧ Below w.heap.size w w' := by
  go_enter Tryz.func44, Tryz.ntmps44
  go_wp2_with fail
  refine (checkeds_any _ _ L hv hL).mono ?_
  rintro e w1 ⟨rfl, hb1⟩
  go_wp2_with fail
  go_ret
  exact ⟨rfl, hb1⟩

/-- The error number of a list. -/
def chkPtsN (L : List (Int × Int)) : Int := if 64 < L.length then 5 else chkPts L
theorem chkPtsN_cases (L : List (Int × Int)) : chkPtsN L = 5 ∨ chkPtsN L = 2 ∨ (chkPtsN L = 0 ∧ L.length ≤ 64 ∧ L.all okPts = true) := by
  unfold chkPtsN chkPts
  by_cases h : 64 < L.length
  · exact .inl (if_pos h)
  · rw [if_neg h]
    by_cases h2 : L.all okPts = true
    · exact .inr (.inr ⟨if_pos h2, by omega, h2⟩)
    · exact .inr (.inl (if_neg h2))

end Go.Proofs.YtdkilkliccljeaaGreatDoor
