/- Lists of points: Check, CheckSpots of vector and of metrolabref07; Few, FewSpots. -/
import Derived.Test.YtendaaghmeoddaaGreatDoorAll
namespace Go.Proofs.YtendaaghmeoddaaGreatDoor
open Go.RowKit MLab

/-- The error number of a list. -/
def chkSpsN (L : List (Int × Int × Int)) : Int := if 64 < L.length then 5 else chkSps L
theorem chkSpsN_cases (L : List (Int × Int × Int)) : chkSpsN L = 5 ∨ chkSpsN L = 2 ∨ (chkSpsN L = 0 ∧ L.length ≤ 64 ∧ L.all okSps = true) := by
  unfold chkSpsN chkSps
  by_cases h : 64 < L.length
  · exact .inl (if_pos h)
  · rw [if_neg h]
    by_cases h2 : L.all okSps = true
    · exact .inr (.inr ⟨if_pos h2, by omega, h2⟩)
    · exact .inr (.inl (if_neg h2))

/-- The error number of a list. -/
def chkPtsN (L : List (Int × Int)) : Int := if 64 < L.length then 5 else chkPts L
theorem chkPtsN_cases (L : List (Int × Int)) : chkPtsN L = 5 ∨ chkPtsN L = 2 ∨ (chkPtsN L = 0 ∧ L.length ≤ 64 ∧ L.all okPts = true) := by
  unfold chkPtsN chkPts
  by_cases h : 64 < L.length
  · exact .inl (if_pos h)
  · rw [if_neg h]
    by_cases h2 : L.all okPts = true
    · exact .inr (.inr ⟨if_pos h2, by omega, h2⟩)
    · exact .inr (.inl (if_neg h2))

set_option maxRecDepth 100000 in
theorem checkedp_any (w : World) (v : Value) (L : List (Int × Int)) (hv : Pts w v L) (hL : L.length ≤ 1000000000000) :
    Calls Tryz.prog 91 #[v, .func (.func 92) #[] #[]] w fun e w' => e = .returned (.int .i64 (chkPtsN L)) ∧ Below w.heap.size w w' := by
  by_cases h : 64 < L.length
  · have h1 : (64 : Int) < (L.length : Int) := by omega
    rw [chkPtsN, if_pos h]
    obtain ⟨A, c, rfl, hc⟩ := id hv
    clear hv hc
    go_enter Tryz.func91, Tryz.ntmps91
    go_wp2_with fail
    go_ret
    exact ⟨rfl, Below.refl _ _⟩
  · have h1 : ¬ (64 : Int) < (L.length : Int) := by omega
    rw [chkPtsN, if_neg h]
    have HV := hide hv
    obtain ⟨A, c, rfl, hc⟩ := id hv
    clear hv hc
    go_enter Tryz.func91, Tryz.ntmps91
    go_wp2_with fail
    refine (allp_any _ _ L HV.out hL).mono ?_
    rintro e w1 ⟨rfl, hb1⟩
    go_wp2_with fail
    go_ret
    exact ⟨rfl, hb1⟩

set_option maxRecDepth 100000 in
theorem Check_any (w : World) (v : Value) (L : List (Int × Int)) (hv : Pts w v L) (hL : L.length ≤ 1000000000000) :
    Calls Tryz.prog 49 #[v] w fun e w' => e = .returned (.int .i64 (chkPtsN L)) ∧ Below w.heap.size w w' := by
  go_enter Tryz.func49, Tryz.ntmps49
  go_wp2_with fail
  refine (checkedp_any _ _ L hv hL).mono ?_
  rintro e w1 ⟨rfl, hb1⟩
  go_wp2_with fail
  go_ret
  exact ⟨rfl, hb1⟩

set_option maxRecDepth 100000 in
set_option maxHeartbeats 1000000 in
theorem rCheck_any (w : World) (v : Value) (L : List (Int × Int)) (hv : Pts w v L) (hL : L.length ≤ 1000000000000) :
    Calls Tryz.prog 29 #[v] w fun e w' => e = .returned (.int .i64 (chkPtsN L)) ∧ Below w.heap.size w w' := by
  obtain ⟨A, c, rfl, hc⟩ := id hv
  have HC := hide hc
  clear hv hc
  by_cases h : 64 < L.length
  · have h1 : (64 : Int) < (L.length : Int) := by omega
    rw [chkPtsN, if_pos h]
    go_enter Tryz.func29, Tryz.ntmps29
    go_wp2_with fail
    go_ret
    exact ⟨rfl, Below.refl _ _⟩
  · have h1 : ¬ (64 : Int) < (L.length : Int) := by omega
    rw [chkPtsN, if_neg h]
    go_enter Tryz.func29, Tryz.ntmps29
    go_wp2_with fail
    go_loopg [3] L.length (fun k i wr => ∃ j : Nat, i = .int .i64 (j : Int) ∧ k + j = L.length ∧ (L.take j).all okPts = true ∧ Below w.heap.size w wr)
    case atStart => exact ⟨0, rfl, rfl, rfl, Below.refl _ _⟩
    case round =>
      obtain ⟨j, rfl, hk, hok, hb⟩ := hrel
      have hj : j ≤ L.length := by omega
      have HK := hide hk
      have HOK := hide hok
      have HB := hide hb
      clear hk hok hb
      by_cases hlt : j < L.length
      · have hji : (j : Int) < (L.length : Int) := by omega
        obtain ⟨b, off, hA, hcell⟩ := HC.out (by omega)
        obtain ⟨h0, h1⟩ := hcell j _ (List.getElem?_eq_getElem hlt)
        have hc0 : wr.cell? ⟨b, off + j * 2, none⟩ = some (.int .i64 L[j].1) := (HB.out.cell (p := ⟨b, off + j * 2, none⟩) (block_lt_of_cell h0)).trans h0
        have hc1 : wr.cell? ⟨b, off + j * 2 + 1, none⟩ = some (.int .i64 L[j].2) := (HB.out.cell (p := ⟨b, off + j * 2 + 1, none⟩) (block_lt_of_cell h1)).trans h1
        clear hcell h0 h1 HC
        subst hA
        by_cases hz : okPts L[j] = true
        · have HZ := hide hz
          go_wp2_with fail
          refine (rright_any _ L[j].1 L[j].2).mono ?_
          rintro e w2 ⟨rfl, hb2⟩
          have HB2 := hide hb2
          clear hb2
          rw [okPts] at hz
          rw [hz]
          clear hz
          go_wp2_with fail
          go_roundg (gk - 1)
          case measure => have := HK.out; omega
          case rel =>
            refine ⟨j + 1, by go_num, by have := HK.out; omega, ?_, HB.out.trans (HB2.out.mono HB.out.size)⟩
            rw [List.take_succ_eq_append_getElem hlt, List.all_append, HOK.out]; simpa using HZ.out
        · have HZ := hide hz
          rw [Bool.not_eq_true, okPts] at hz
          go_wp2_with fail
          refine (rright_any _ L[j].1 L[j].2).mono ?_
          rintro e w2 ⟨rfl, hb2⟩
          have HB2 := hide hb2
          clear hb2
          rw [hz]
          clear hz
          go_wp2_with fail
          go_ret
          refine ⟨?_, HB.out.trans (HB2.out.mono HB.out.size)⟩
          rw [chkPts, if_neg (fun h => HZ.out (List.all_eq_true.1 h _ (List.getElem_mem hlt)))]; rfl
      · have hji : ¬ (j : Int) < (L.length : Int) := by omega
        go_wp2_with fail
        go_ret
        refine ⟨?_, HB.out⟩
        have h := HOK.out
        rw [List.take_of_length_le (by omega)] at h
        rw [chkPts, if_pos h]; rfl

set_option maxRecDepth 100000 in
theorem Few_any (w : World) (v : Value) (L : List (Int × Int)) (hv : Pts w v L) :
    Calls Tryz.prog 46 #[v] w fun e w' => e = .returned (.bool (decide (L.length ≤ 8 ∨ 64 < L.length ∧ L.length < 128))) ∧ w = w' := by
  obtain ⟨A, c, rfl, hc⟩ := id hv
  clear hv hc
  by_cases h1 : L.length ≤ 8
  · have g1 : (L.length : Int) ≤ 8 := by omega
    rw [decide_eq_true (show L.length ≤ 8 ∨ 64 < L.length ∧ L.length < 128 from .inl h1)]
    go_enter Tryz.func46, Tryz.ntmps46
    go_wp2_with fail
    go_ret
    exact ⟨rfl, rfl⟩
  · have g1 : ¬ (L.length : Int) ≤ 8 := by omega
    by_cases h2 : 64 < L.length
    · have g2 : (64 : Int) < (L.length : Int) := by omega
      by_cases h3 : L.length < 128
      · have g3 : (L.length : Int) < 128 := by omega
        rw [decide_eq_true (show L.length ≤ 8 ∨ 64 < L.length ∧ L.length < 128 from .inr ⟨h2, h3⟩)]
        go_enter Tryz.func46, Tryz.ntmps46
        go_wp2_with fail
        go_ret
        exact ⟨rfl, rfl⟩
      · have g3 : ¬ (L.length : Int) < 128 := by omega
        rw [decide_eq_false (show ¬ (L.length ≤ 8 ∨ 64 < L.length ∧ L.length < 128) from fun h => by omega)]
        go_enter Tryz.func46, Tryz.ntmps46
        go_wp2_with fail
        go_ret
        exact ⟨rfl, rfl⟩
    · have g2 : ¬ (64 : Int) < (L.length : Int) := by omega
      rw [decide_eq_false (show ¬ (L.length ≤ 8 ∨ 64 < L.length ∧ L.length < 128) from fun h => by omega)]
      go_enter Tryz.func46, Tryz.ntmps46
      go_wp2_with fail
      go_ret
      exact ⟨rfl, rfl⟩

end Go.Proofs.YtendaaghmeoddaaGreatDoor
