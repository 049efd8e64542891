/- VectorSpaces: the walk. -/
import Derived.Test.YtblfinpfcpglcaaGreatDoorCop
namespace Go.Proofs.YtblfinpfcpglcaaGreatDoor
open Go.RowKit MLab

set_option maxRecDepth 100000 in
theorem Coplanar_any (w : World) (v : Value) (L : List S3) (hv : Sps w v L) (hL : L.length ≤ 1000000000000) :
    Calls Tryz.prog 30 #[v] w fun e w' => PairR (chkSpsN L = 0 ∧ Even4 L) (chkSpsN L) e ∧ Below w.heap.size w w' := by
  have bad : ∀ n : Int, (n = 5 ∨ n = 2) → chkSpsN L = n → Calls Tryz.prog 30 #[v] w fun e w' => PairR (chkSpsN L = 0 ∧ Even4 L) (chkSpsN L) e ∧ Below w.heap.size w w' := by
    intro n hn hc
    rw [hc]
    have HN := hide hn
    have HC := hide hc
    clear hn hc
    go_enter Tryz.func30, Tryz.ntmps30
    go_wp2_with fail
    refine (CheckSpots_any _ _ L hv hL).mono ?_
    rw [HC.out]
    rintro e w1 ⟨rfl, hb1⟩
    have hn0 : ¬ n = 0 := by rcases HN.out with h | h <;> omega
    go_wp2_with fail
    go_ret2
    exact ⟨⟨false, rfl, by simp, fun h => (hn0 h.1).elim⟩, hb1⟩
  rcases chkSpsN_cases L with h | h | ⟨h, _, hok⟩
  · exact bad 5 (.inl rfl) h
  · exact bad 2 (.inr rfl) h
  · refine (coplanar_ok w v L hv hL h hok).mono ?_
    rintro e w' ⟨⟨b, rfl, p1, p2⟩, hb⟩
    rw [h]
    exact ⟨⟨b, rfl, fun hb => ⟨rfl, p1 hb⟩, fun hb => p2 hb.2⟩, hb⟩

set_option maxRecDepth 100000 in
theorem rCoplanar_any (w : World) (v : Value) (L : List S3) (hv : Sps w v L) (hL : L.length ≤ 1000000000000) :
    Calls Tryz.prog 31 #[v] w fun e w' => PairR (chkSpsN L = 0 ∧ Even4 L) (chkSpsN L) e ∧ Below w.heap.size w w' := by
  have bad : ∀ n : Int, (n = 5 ∨ n = 2) → chkSpsN L = n → Calls Tryz.prog 31 #[v] w fun e w' => PairR (chkSpsN L = 0 ∧ Even4 L) (chkSpsN L) e ∧ Below w.heap.size w w' := by
    intro n hn hc
    rw [hc]
    have HN := hide hn
    have HC := hide hc
    clear hn hc
    go_enter Tryz.func31, Tryz.ntmps31
    go_wp2_with fail
    refine (rCheckSpots_any _ _ L hv hL).mono ?_
    rw [HC.out]
    rintro e w1 ⟨rfl, hb1⟩
    have hn0 : ¬ n = 0 := by rcases HN.out with h | h <;> omega
    go_wp2_with fail
    go_ret2
    exact ⟨⟨false, rfl, by simp, fun h => (hn0 h.1).elim⟩, hb1⟩
  rcases chkSpsN_cases L with h | h | ⟨h, _, hok⟩
  · exact bad 5 (.inl rfl) h
  · exact bad 2 (.inr rfl) h
  · have HC := hide h
    have HOK := hide hok
    rw [HC.out]
    clear h hok bad
    go_enter Tryz.func31, Tryz.ntmps31
    go_wp2_with fail
    refine (rCheckSpots_any _ _ L hv hL).mono ?_
    rw [HC.out]
    rintro e w1 ⟨rfl, hb1⟩
    have HB := hide hb1
    have HV := hide (hv.below hb1)
    clear hb1
    go_wp2_with fail
    refine (reven_any _ _ L HV.out hL HOK.out).mono ?_
    rintro e w2 ⟨⟨b, rfl, p1, p2⟩, hb2⟩
    have H1 := hide p1
    have H2 := hide p2
    have HB2 := hide hb2
    clear p1 p2 hb2
    go_wp2_with fail
    go_ret2
    exact ⟨⟨b, rfl, fun h => ⟨trivial, H1.out h⟩, fun h => H2.out h.2⟩, HB.out.trans (HB2.out.mono HB.out.size)⟩

set_option maxRecDepth 100000 in
set_option maxHeartbeats 2000000 in
theorem spaces_any (w : World) (v : Value) (L : List S3) (hv : Sps w v L) (hs : Std w) :
    Calls Tryz.prog 6 #[v] w fun e w' => e = .returned (.bool true) ∧ Below w.heap.size w w' := by
  have HV := hide hv
  have HS := hide hs
  clear hv hs
  by_cases hf : L.length ≤ 6 ∨ 64 < L.length ∧ L.length < 128
  · have hL : L.length ≤ 1000000000000 := by omega
    have hd := hide (decide_eq_true hf)
    clear hf
    go_enter Tryz.func6, Tryz.ntmps6
    go_wp2_with fail
    refine (FewSpots_any _ _ L HV.out).mono ?_
    rw [hd.out]
    rintro e w1 ⟨rfl, rfl⟩
    go_wp2_with fail
    refine (Coplanar_any _ _ L HV.out hL).mono ?_
    rintro e w1 ⟨⟨b, rfl, p1, p2⟩, hb1⟩
    have H1 := hide p1
    have H2 := hide p2
    have HB1 := hide hb1
    have HV1 := hide (HV.out.below hb1)
    clear p1 p2 hb1
    go_wp2_with fail
    refine (rCoplanar_any _ _ L HV1.out hL).mono ?_
    rintro e w2 ⟨⟨b2, rfl, p1, p2⟩, hb2⟩
    obtain rfl : b2 = b := by
      rw [Bool.eq_iff_iff]
      exact ⟨fun h => H2.out (p1 h), fun h => p2 (H1.out h)⟩
    have HB2 := hide (HB1.out.trans (hb2.mono HB1.out.size))
    have HV2 := hide (HV.out.below HB2.out)
    clear p1 p2 hb2
    generalize hn : chkSpsN L = n
    have HN := hide hn
    clear hn
    go_wp2_with fail
    refine (awake_any _ (HS.out.below HB2.out (Nat.le_refl _))).mono ?_
    rintro e w3 ⟨rfl, hb3⟩
    have HB3 := hide (HB2.out.trans (hb3.mono HB2.out.size))
    have HV3 := hide (HV.out.below HB3.out)
    clear hb3
    go_wp2_with fail
    refine (CheckSpots_any _ _ L HV3.out hL).mono ?_
    rw [HN.out]
    rintro e w4 ⟨rfl, hb4⟩
    have HB4 := hide (HB3.out.trans (hb4.mono HB3.out.size))
    have HV4 := hide (HV.out.below HB4.out)
    clear hb4
    go_wp2_with fail
    refine (rCheckSpots_any _ _ L HV4.out hL).mono ?_
    rw [HN.out]
    rintro e w5 ⟨rfl, hb5⟩
    have HB5 := hide (HB4.out.trans (hb5.mono HB4.out.size))
    clear hb5
    go_wp2_with fail
    go_ret
    exact ⟨by simp, HB5.out⟩
  · have hd := hide (decide_eq_false hf)
    clear hf
    go_enter Tryz.func6, Tryz.ntmps6
    go_wp2_with fail
    refine (FewSpots_any _ _ L HV.out).mono ?_
    rw [hd.out]
    rintro e w1 ⟨rfl, rfl⟩
    go_wp2_with fail
    refine (awake_any _ HS.out).mono ?_
    rintro e w3 ⟨rfl, hb3⟩
    go_wp2_with fail
    go_ret
    exact ⟨rfl, hb3⟩
end Go.Proofs.YtblfinpfcpglcaaGreatDoor
