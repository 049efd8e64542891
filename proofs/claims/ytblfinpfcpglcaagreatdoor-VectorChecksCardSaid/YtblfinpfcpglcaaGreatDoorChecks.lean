/- VectorChecks: the walk. -/
import Derived.Test.YtblfinpfcpglcaaGreatDoorRsort
namespace Go.Proofs.YtblfinpfcpglcaaGreatDoor
open Go.RowKit MLab

def OrdV (L : List S2) (w : World) (v : Value) : Prop := if chkPtsN L = 0 then IdxS w v L else v = .slice none 0 0
theorem OrdV.below {w w' : World} {v : Value} {L : List S2} (h : OrdV L w v) (hb : Below w.heap.size w w') : OrdV L w' v := by
  unfold OrdV at h ⊢
  by_cases hc : chkPtsN L = 0
  · rw [if_pos hc] at h ⊢; exact h.below hb
  · rw [if_neg hc] at h ⊢; exact h
theorem OrdV.shape {w : World} {v : Value} {L : List S2} (h : OrdV L w v) : ∃ A m c, v = .slice A m c := by
  unfold OrdV at h
  split at h
  · obtain ⟨A, c, hv, _⟩ := h
    exact ⟨A, _, c, hv⟩
  · exact ⟨none, 0, 0, h⟩
theorem same_ord (w : World) (u v : Value) (L : List S2) (hL : L.length ≤ 1000000000000) (hu : OrdV L w u) (hv : OrdV L w v) :
    Calls Tryz.prog 53 #[u, v] w fun e w' => e = .returned (.bool true) ∧ Below w.heap.size w w' := by
  unfold OrdV at hu hv
  split at hu
  · rename_i h
    rw [if_pos h] at hv
    exact same_any w u v L hL hu hv
  · rename_i h
    rw [if_neg h] at hv
    rw [hu, hv]
    exact same_nil w

set_option maxRecDepth 100000 in
set_option maxHeartbeats 4000000 in
theorem checks_any (w : World) (v : Value) (L : List S2) (hv : Pts w v L) (hs : Std w) :
    Calls Tryz.prog 11 #[v] w fun e w' => e = .returned (.bool true) ∧ Below w.heap.size w w' := by
  have HV := hide hv
  have HS := hide hs
  obtain ⟨A, c, rfl, _⟩ := id hv
  clear hv hs
  by_cases hf : L.length ≤ 8 ∨ 64 < L.length ∧ L.length < 128
  · have hL : L.length ≤ 1000000000000 := by omega
    have h8 : L.length ≤ 8 ∨ 64 < L.length := by omega
    have hd := hide (decide_eq_true hf)
    have H8 := hide h8
    clear hf h8
    obtain ⟨n, hn⟩ : ∃ n : Int, chkPtsN L = n := ⟨_, rfl⟩
    obtain ⟨a, ha⟩ : ∃ a : Int, areaR L = .tuple #[.int .i64 a, .int .i64 n] := ⟨_, by rw [areaR, hn]⟩
    have HN := hide hn
    have HA := hide ha
    clear hn ha
    go_enter Tryz.func11, Tryz.ntmps11
    go_wp2_with fail
    refine (Few_any _ _ L HV.out).mono ?_
    rw [hd.out]
    rintro e w1 ⟨rfl, rfl⟩
    go_wp2_with fail
    refine (Area_any _ _ L HV.out hL).mono ?_
    rw [HA.out]
    rintro e w1 ⟨rfl, hb1⟩
    have HB1 := hide hb1
    have HV1 := hide (HV.out.below hb1)
    clear hb1
    go_wp2_with fail
    refine (rArea_any _ _ L HV1.out hL).mono ?_
    rw [HA.out]
    rintro e w2 ⟨rfl, hb2⟩
    have HB2 := hide (HB1.out.trans (hb2.mono HB1.out.size))
    have HV2 := hide (HV.out.below HB2.out)
    clear hb2
    go_wp2_with fail
    refine (Collinear_any _ _ L HV2.out hL).mono ?_
    rw [HN.out]
    rintro e w3 ⟨⟨b, rfl, p1, p2⟩, hb3⟩
    have H1 := hide p1
    have H2 := hide p2
    have HB3 := hide (HB2.out.trans (hb3.mono HB2.out.size))
    have HV3 := hide (HV.out.below HB3.out)
    clear p1 p2 hb3
    go_wp2_with fail
    refine (rCollinear_any _ _ L HV3.out hL).mono ?_
    rw [HN.out]
    rintro e w4 ⟨⟨b2, rfl, p1, p2⟩, hb4⟩
    obtain rfl : b2 = b := by
      rw [Bool.eq_iff_iff]
      exact ⟨fun h => H2.out (p1 h), fun h => p2 (H1.out h)⟩
    have HB4 := hide (HB3.out.trans (hb4.mono HB3.out.size))
    have HV4 := hide (HV.out.below HB4.out)
    clear p1 p2 hb4
    go_wp2_with fail
    refine (Order_any _ _ L HV4.out hL H8.out).mono ?_
    rintro e w5 ⟨⟨u, rfl, hu⟩, hb5⟩
    rw [HN.out]
    have HU := hide (show OrdV L w5 u from hu)
    obtain ⟨A1, m1, c1, rfl⟩ := HU.out.shape
    have HB5 := hide (HB4.out.trans (hb5.mono HB4.out.size))
    have HV5 := hide (HV.out.below HB5.out)
    clear hu hb5
    go_wp2_with fail
    refine (rOrder_any _ _ L HV5.out hL).mono ?_
    rintro e w6 ⟨⟨u2, rfl, hu2⟩, hb6⟩
    rw [HN.out]
    have HU2 := hide (show OrdV L w6 u2 from hu2)
    have HU1 := hide (HU.out.below hb6)
    obtain ⟨A2, m2, c2, rfl⟩ := HU2.out.shape
    have HB6 := hide (HB5.out.trans (hb6.mono HB5.out.size))
    clear hu2 hb6 HU
    go_wp2_with fail
    refine (awake_any _ (HS.out.below HB6.out (Nat.le_refl _))).mono ?_
    rintro e w7 ⟨rfl, hb7⟩
    have HB67 := hide hb7
    have HB7 := hide (HB6.out.trans (hb7.mono HB6.out.size))
    have HV7 := hide (HV.out.below HB7.out)
    clear hb7
    go_wp2_with fail
    refine (Check_any _ _ L HV7.out hL).mono ?_
    rw [HN.out]
    rintro e w8 ⟨rfl, hb8⟩
    have HB68 := hide (HB67.out.trans (hb8.mono HB67.out.size))
    have HB8 := hide (HB7.out.trans (hb8.mono HB7.out.size))
    have HV8 := hide (HV.out.below HB8.out)
    clear hb8
    go_wp2_with fail
    refine (rCheck_any _ _ L HV8.out hL).mono ?_
    rw [HN.out]
    rintro e w9 ⟨rfl, hb9⟩
    have HB69 := hide (HB68.out.trans (hb9.mono HB68.out.size))
    have HB9 := hide (HB8.out.trans (hb9.mono HB8.out.size))
    clear hb9
    cases b2
    all_goals
      go_wp2_with fail
      refine (same_ord _ _ _ L hL (HU1.out.below HB69.out) (HU2.out.below HB69.out)).mono ?_
      rintro e w10 ⟨rfl, hb10⟩
      have HB10 := hide (HB9.out.trans (hb10.mono HB9.out.size))
      clear hb10
      go_wp2_with fail
      go_ret
      exact ⟨by simp, HB10.out⟩
  · have hd := hide (decide_eq_false hf)
    clear hf
    go_enter Tryz.func11, Tryz.ntmps11
    go_wp2_with fail
    refine (Few_any _ _ L HV.out).mono ?_
    rw [hd.out]
    rintro e w1 ⟨rfl, rfl⟩
    go_wp2_with fail
    refine (awake_any _ HS.out).mono ?_
    rintro e w3 ⟨rfl, hb3⟩
    go_wp2_with fail
    go_ret
    exact ⟨rfl, hb3⟩
end Go.Proofs.YtblfinpfcpglcaaGreatDoor
