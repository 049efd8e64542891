/- profile.Worst and its closure. -/
import Derived.Test.YtendaaghmeoddaaGreatDoorRpout
namespace Go.Proofs.YtendaaghmeoddaaGreatDoor
open Go.RowKit MLab

theorem segV_nn2 (L : List S2) (c : Bool) (p : S2) : 0 ≤ dN L c p := by
  unfold dN
  rw [(nearF_at _ _).1]
  exact segV_nn _ _ _ _ _ _
theorem rt_m1 : (⟨#[45, 49]⟩ : ByteArray) = ⟨(RT (-1)).toArray⟩ := by
  rw [show RT (-1) = [45, 49] from by rw [show (-1 : Rat) = ((-1 : Int) : Rat) from rfl, RT, if_pos (by rfl)]; kernel_rfl]

set_option maxRecDepth 100000 in
set_option maxHeartbeats 2000000 in
/-- Worst's closure: it keeps the greatest number and its index in two boxes. -/
theorem pwor1_any (w : World) (i n0 n1 bB bA : Nat) (q B : Rat) (a : Nat) (h1 : n0 ≤ bB ∧ bB < n1) (h2 : n0 ≤ bA ∧ bA < n1) (hne : bB ≠ bA) (hn1 : n1 ≤ w.heap.size) (hb : Boxed w bB 35 (.string ⟨(RT B).toArray⟩)) (ha : Boxed w bA 3 (.int .i64 (a : Int))) (hq : Sz 30 30 q) (hB : Sz 30 30 B) (hs : Std w) :
    Calls Tryz.prog 62 #[.int .i64 (i : Int), .string ⟨(RT q).toArray⟩, .pointer (some ⟨bB, 0, none⟩), .pointer (some ⟨bA, 0, none⟩)] w fun e w' => e = .returned (.bool false) ∧ (Boxed w' bB 35 (.string ⟨(RT (if B < q then (q, i) else (B, a)).1).toArray⟩) ∧ Boxed w' bA 3 (.int .i64 (((if B < q then (q, i) else (B, a)).2 : Nat) : Int))) ∧ KX n0 n1 w w' := by
  have HO := hide (porder_any w ⟨(RT q).toArray⟩ ⟨(RT B).toArray⟩ q B rfl rfl hq hB hs)
  have hss := cross_pos q B
  obtain ⟨s, hs0⟩ : ∃ s, (q.num * B.den - B.num * q.den).sign = s := ⟨_, rfl⟩
  rw [hs0] at HO hss
  obtain ⟨R, hR⟩ : ∃ R, (if B < q then (q, i) else (B, a)) = R := ⟨_, rfl⟩
  rw [hR]
  have HR := hide hR
  have cB := hb.cell
  clear hq hB hs hs0 hR
  go_enter Tryz.func62, Tryz.ntmps62
  go_wp2_with fail
  refine HO.out.mono ?_
  rintro e w1 ⟨rfl, hb1⟩
  have b1 := Boxed.keptL hb hb1
  have b2 := Boxed.keptL ha hb1
  have hz := hb1.size
  have HB1 := hide hb1
  clear hb1 cB
  have cB := b1.cell
  have fB := b1.frozen
  have cA := b2.cell
  have fA := b2.frozen
  by_cases hlt : B < q
  · have h0 : 0 < s := hss.2 hlt
    have HE := hide (HR.out.symm.trans (if_pos hlt))
    clear hss hlt
    go_wp2_with fail
    go_ret
    rw [HE.out]
    refine ⟨rfl, ⟨(b1.set _).other hne _, (b2.other (Ne.symm hne) _).set _⟩, ⟨((HB1.out.mono (by omega)).setCell (p := ⟨bB, 0, none⟩) h1.1 _).setCell (p := ⟨bA, 0, none⟩) h2.1 _, fun k hk hk2 => ?_⟩⟩
    exact ((Below.heap_setCell _ _ _ _ (by show k ≠ bA; omega)).trans (Below.heap_setCell _ _ _ _ (by show k ≠ bB; omega))).trans (HB1.out.block k hk2)
  · have h0 : ¬ 0 < s := fun h => hlt (hss.1 h)
    have HE := hide (HR.out.symm.trans (if_neg hlt))
    clear hss hlt
    go_wp2_with fail
    go_ret
    rw [HE.out]
    exact ⟨rfl, ⟨b1, b2⟩, KX.of_below HB1.out (by omega)⟩

set_option maxRecDepth 100000 in
set_option maxHeartbeats 4000000 in
theorem pwor_bad (w : World) (v : Value) (L : List S2) (c0 : Bool) (vp : Value) (P : List S2) (hv : Pts w v L) (hvp : Pts w vp P) (hL : L.length ≤ 1000000000000) (_hP : P.length ≤ 1000000000000) (hs : Std w) (k : Int) (hk : k ≠ 0) (he : chkP L c0 = k) :
    Calls Tryz.prog 26 #[v, .bool c0, vp] w fun e w' => e = .returned (.tuple #[.string ⟨#[]⟩, .int .i64 0, .int .i64 k]) ∧ Below w.heap.size w w' := by
  have HV := hide hv
  have HVP := hide hvp
  have HS := hide hs
  obtain ⟨A, c, rfl, _⟩ := id hv
  obtain ⟨A2, c2, rfl, _⟩ := id hvp
  clear hv hvp hs
  have HE := hide he
  have hk0 : ¬ k = 0 := hk
  clear he hk
  go_enter Tryz.func26, Tryz.ntmps26
  go_wp2_with fail
  refine (pcheck_any _ _ L c0 HV.out hL).mono ?_
  rw [HE.out]
  rintro e w1 ⟨rfl, hb1⟩
  have HB1 := hide hb1
  clear hb1
  go_wp2_with fail
  go_ret3
  exact ⟨rfl, HB1.out⟩

set_option maxRecDepth 100000 in
set_option maxHeartbeats 4000000 in
theorem pwor_bad2 (w : World) (v : Value) (L : List S2) (c0 : Bool) (vp : Value) (P : List S2) (hv : Pts w v L) (hvp : Pts w vp P) (hL : L.length ≤ 1000000000000) (hP : P.length ≤ 1000000000000) (hs : Std w) (k : Int) (hk : k ≠ 0) (he : chkP L c0 = 0) (hd : chkPtsN P = k) :
    Calls Tryz.prog 26 #[v, .bool c0, vp] w fun e w' => e = .returned (.tuple #[.string ⟨#[]⟩, .int .i64 0, .int .i64 k]) ∧ Below w.heap.size w w' := by
  have HV := hide hv
  have HVP := hide hvp
  have HS := hide hs
  obtain ⟨A, c, rfl, _⟩ := id hv
  obtain ⟨A2, c2, rfl, _⟩ := id hvp
  clear hv hvp hs
  have HE := hide he
  have HD := hide hd
  have hk0 : ¬ k = 0 := hk
  clear he hk hd
  go_enter Tryz.func26, Tryz.ntmps26
  go_wp2_with fail
  refine (pcheck_any _ _ L c0 HV.out hL).mono ?_
  rw [HE.out]
  rintro e w1 ⟨rfl, hb1⟩
  have HB1 := hide hb1
  clear hb1
  go_wp2_with fail
  refine (Check_any _ _ P (HVP.out.below HB1.out) hP).mono ?_
  rw [HD.out]
  rintro e w2 ⟨rfl, hb2⟩
  have HB2 := hide (HB1.out.trans (hb2.mono HB1.out.size))
  clear hb2
  go_wp2_with fail
  go_ret3
  exact ⟨rfl, HB2.out⟩

set_option maxRecDepth 100000 in
set_option maxHeartbeats 4000000 in
theorem pwor_none (w : World) (v : Value) (L : List S2) (c0 : Bool) (vp : Value) (P : List S2) (hv : Pts w v L) (hvp : Pts w vp P) (hL : L.length ≤ 1000000000000) (hP : P.length ≤ 1000000000000) (hs : Std w) (he : chkP L c0 = 0) (hd : chkPtsN P = 0) (hn : P.length = 0) :
    Calls Tryz.prog 26 #[v, .bool c0, vp] w fun e w' => e = .returned (.tuple #[.string ⟨#[]⟩, .int .i64 0, .int .i64 13]) ∧ Below w.heap.size w w' := by
  obtain rfl : P = [] := List.length_eq_zero_iff.1 hn
  have HV := hide hv
  have HVP := hide hvp
  have HS := hide hs
  obtain ⟨A, c, rfl, _⟩ := id hv
  obtain ⟨A2, c2, rfl, _⟩ := id hvp
  clear hv hvp hs
  have HE := hide he
  have HD := hide hd
  clear he hd
  go_enter Tryz.func26, Tryz.ntmps26
  go_wp2_with fail
  refine (pcheck_any _ _ L c0 HV.out hL).mono ?_
  rw [HE.out]
  rintro e w1 ⟨rfl, hb1⟩
  have HB1 := hide hb1
  clear hb1
  go_wp2_with fail
  refine (Check_any _ _ [] (HVP.out.below HB1.out) hP).mono ?_
  rw [HD.out]
  rintro e w2 ⟨rfl, hb2⟩
  have HB2 := hide (HB1.out.trans (hb2.mono HB1.out.size))
  clear hb2
  go_wp2_with fail
  go_ret3
  exact ⟨rfl, HB2.out⟩

set_option maxRecDepth 100000 in
set_option maxHeartbeats 4000000 in
theorem pwor_ok (w : World) (v : Value) (L : List S2) (c0 : Bool) (vp : Value) (P : List S2) (hv : Pts w v L) (hvp : Pts w vp P) (hL : L.length ≤ 1000000000000) (hP : P.length ≤ 1000000000000) (hs : Std w) (he : chkP L c0 = 0) (hd : chkPtsN P = 0) (hn : ¬ P.length = 0) :
    Calls Tryz.prog 26 #[v, .bool c0, vp] w fun e w' => e = .returned (.tuple #[.string ⟨(RT (wst (-1) (fun i => dN L c0 (gP P i)) P.length).1).toArray⟩, .int .i64 (((wst (-1) (fun i => dN L c0 (gP P i)) P.length).2 : Nat) : Int), .int .i64 0]) ∧ Below w.heap.size w w' := by
  obtain ⟨g1, g2, g3⟩ := chkP_zero he
  have hp3 : P.length ≤ 64 ∧ RightS P := by
    rcases chkPtsN_cases P with h | h | ⟨_, h2, h3⟩
    · rw [h] at hd; exact absurd hd (by decide)
    · rw [h] at hd; exact absurd hd (by decide)
    · exact ⟨h2, rightS_of_all h3⟩
  obtain ⟨hp1, hp2⟩ := hp3
  have HV := hide hv
  have HVP := hide hvp
  have HS := hide hs
  obtain ⟨A, c, rfl, _⟩ := id hv
  obtain ⟨A2, c2, rfl, _⟩ := id hvp
  clear hv hvp hs
  have HE := hide he
  have HD := hide hd
  have hni : ¬ (P.length : Int) = 0 := by omega
  have HPR := hide hp2
  have G3 := hide g3
  have hsz : ∀ j, Sz 30 30 (dN L c0 (gP P j)) := fun j => dN_sz g3 (hp2 j)
  have HSZ := hide hsz
  have hm1 : Sz 30 30 (-1) := (Sz.int (a := 1) (n := -1) (by decide)).mono (by omega) (by omega)
  have HM1 := hide hm1
  obtain ⟨RV, hRV⟩ : ∃ r, Value.tuple #[.string ⟨(RT (wst (-1) (fun i => dN L c0 (gP P i)) P.length).1).toArray⟩, .int .i64 (((wst (-1) (fun i => dN L c0 (gP P i)) P.length).2 : Nat) : Int), .int .i64 0] = r := ⟨_, rfl⟩
  rw [hRV]
  have HRV := hide hRV
  clear he hd g3 hp2 hsz hm1 hRV
  go_enter Tryz.func26, Tryz.ntmps26
  go_wp2_with fail
  refine (pcheck_any _ _ L c0 HV.out hL).mono ?_
  rw [HE.out]
  rintro e w1 ⟨rfl, hb1⟩
  have HB1 := hide hb1
  clear hb1
  go_wp2_with fail
  refine (Check_any _ _ P (HVP.out.below HB1.out) hP).mono ?_
  rw [HD.out]
  rintro e w2 ⟨rfl, hb2⟩
  have HB2 := hide (HB1.out.trans (hb2.mono HB1.out.size))
  clear hb2
  go_upto_region 10 with (fail)
  have bb : Boxed ((w2.alloc (.cells #[.string ⟨#[45, 49]⟩] 35)).alloc (.cells #[.int .i64 0] 3)) w2.heap.size 35 (.string ⟨(RT (-1)).toArray⟩) := by rw [← rt_m1]; exact (Boxed.new w2 _ _).alloc _
  have ba : Boxed ((w2.alloc (.cells #[.string ⟨#[45, 49]⟩] 35)).alloc (.cells #[.int .i64 0] 3)) (w2.heap.size + 1) 3 (.int .i64 ((0 : Nat) : Int)) := by have h := Boxed.new (w2.alloc (.cells #[.string ⟨#[45, 49]⟩] 35)) 3 (.int .i64 0); rwa [World.size_alloc] at h
  have hb5 : Below w2.heap.size w2 ((w2.alloc (.cells #[.string ⟨#[45, 49]⟩] 35)).alloc (.cells #[.int .i64 0] 3)) := allocs_below w2 [_, _]
  have hz5 : ((w2.alloc (.cells #[.string ⟨#[45, 49]⟩] 35)).alloc (.cells #[.int .i64 0] 3)).heap.size = w2.heap.size + 2 := by simp
  generalize ((w2.alloc (.cells #[.string ⟨#[45, 49]⟩] 35)).alloc (.cells #[.int .i64 0] 3)) = w5 at *
  have HB5 := hide hb5
  have HX5 := hide (HB2.out.trans (hb5.mono HB2.out.size))
  have hpb : PtB w2.heap.size w5 (.slice A L.length c) L := (PtB.of (HV.out.below HB2.out)).below hb5
  have hpb2 : PtB w2.heap.size w5 (.slice A2 P.length c2) P := (PtB.of (HVP.out.below HB2.out)).below hb5
  have HFL := hide (failing_any w5 (.slice A L.length c) L c0 (.slice A2 P.length c2) P 62 #[.pointer (some ⟨w2.heap.size, 0, none⟩), .pointer (some ⟨w2.heap.size + 1, 0, none⟩)] w2.heap.size w5.heap.size (fun _ => false)
    (fun j W => Boxed W w2.heap.size 35 (.string ⟨(RT (wst (-1) (fun i => dN L c0 (gP P i)) j).1).toArray⟩) ∧ Boxed W (w2.heap.size + 1) 3 (.int .i64 (((wst (-1) (fun i => dN L c0 (gP P i)) j).2 : Nat) : Int)))
    (enters_of Tryz.func62 (by kernel_rfl) rfl) (by omega) (Nat.le_refl _) (fun W hW => HS.out.below ((HB2.out.trans (HB5.out.mono HB2.out.size)).trans (hW.mono HB2.out.size)) (Nat.le_refl _)) hpb hpb2 HE.out hp1 HPR.out
    (fun i W W' h h2 => ⟨(h2.block _ (by omega)).trans h.1, (h2.block _ (by omega)).trans h.2⟩)
    (fun j W hj hJ hb hz => (pwor1_any W j w2.heap.size w5.heap.size w2.heap.size (w2.heap.size + 1) (dN L c0 (gP P j)) _ _ ⟨Nat.le_refl _, by omega⟩ ⟨by omega, by omega⟩ (by omega) hz hJ.1 hJ.2 (HSZ.out j) (wst_sz HM1.out HSZ.out j) (HS.out.below ((HB2.out.trans (HB5.out.mono HB2.out.size)).trans (hb.mono HB2.out.size)) (Nat.le_refl _))).mono (by
      rintro e W' ⟨rfl, h1, h2⟩
      exact ⟨rfl, h1, h2⟩))
    ⟨bb, ba⟩)
  clear bb ba hb5 hpb hpb2
  go_wp2_with fail
  refine HFL.out.mono ?_
  rintro e w6 ⟨⟨u, rfl, hin⟩, ⟨b1, b2⟩, hb6⟩
  obtain ⟨A3, c3, rfl⟩ := hin.shape
  have HB6 := hide (HX5.out.trans (hb6.mono HB2.out.size))
  obtain ⟨s, hs1⟩ : ∃ s : ByteArray, (⟨(RT (wst (-1) (fun i => dN L c0 (gP P i)) P.length).1).toArray⟩ : ByteArray) = s := ⟨_, rfl⟩
  obtain ⟨a, ha1⟩ : ∃ a : Int, (((wst (-1) (fun i => dN L c0 (gP P i)) P.length).2 : Nat) : Int) = a := ⟨_, rfl⟩
  have hrv := HRV.out
  rw [hs1] at b1 hrv
  rw [ha1] at b2 hrv
  have HRW := hide hrv
  have cB := b1.cell
  have cA := b2.cell
  clear hin hb6 HFL hs1 ha1 hrv b1 b2
  go_upto_region 13 with (fail)
  go_region
  all_goals go_wp2_with fail
  all_goals go_ret3
  all_goals exact ⟨congrArg Ending.returned HRW.out, HB6.out.drew⟩

def worV (L : List S2) (c : Bool) (P : List S2) : Value :=
  if chkP L c = 0 then (if chkPtsN P = 0 then (if P.length = 0 then .tuple #[.string ⟨#[]⟩, .int .i64 0, .int .i64 13] else .tuple #[.string ⟨(RT (wst 0 (fun i => dN L c (gP P i)) P.length).1).toArray⟩, .int .i64 (((wst 0 (fun i => dN L c (gP P i)) P.length).2 : Nat) : Int), .int .i64 0]) else .tuple #[.string ⟨#[]⟩, .int .i64 0, .int .i64 (chkPtsN P)]) else .tuple #[.string ⟨#[]⟩, .int .i64 0, .int .i64 (chkP L c)]
theorem worV_shape (L : List S2) (c : Bool) (P : List S2) : ∃ s i e, worV L c P = .tuple #[.string s, .int .i64 i, .int .i64 e] := by
  unfold worV; split
  · split
    · split
      · exact ⟨_, _, _, rfl⟩
      · exact ⟨_, _, _, rfl⟩
    · exact ⟨_, _, _, rfl⟩
  · exact ⟨_, _, _, rfl⟩
theorem pwor_any (w : World) (v : Value) (L : List S2) (c0 : Bool) (vp : Value) (P : List S2) (hv : Pts w v L) (hvp : Pts w vp P) (hL : L.length ≤ 1000000000000) (hP : P.length ≤ 1000000000000) (hs : Std w) :
    Calls Tryz.prog 26 #[v, .bool c0, vp] w fun e w' => e = .returned (worV L c0 P) ∧ Below w.heap.size w w' := by
  unfold worV
  by_cases h : chkP L c0 = 0
  · rw [if_pos h]
    by_cases hd : chkPtsN P = 0
    · rw [if_pos hd]
      by_cases hn : P.length = 0
      · rw [if_pos hn]; exact pwor_none w v L c0 vp P hv hvp hL hP hs h hd hn
      · rw [if_neg hn]
        have hk := pwor_ok w v L c0 vp P hv hvp hL hP hs h hd hn
        obtain ⟨k, hk1⟩ : ∃ k, P.length = k + 1 := ⟨P.length - 1, by omega⟩
        have he := wst_start (d := fun i => dN L c0 (gP P i)) (fun j => segV_nn2 L c0 _) k
        rw [← hk1] at he
        rw [he] at hk
        exact hk
    · rw [if_neg hd]; exact pwor_bad2 w v L c0 vp P hv hvp hL hP hs _ hd h rfl
  · rw [if_neg h]; exact pwor_bad w v L c0 vp P hv hvp hL hP hs _ h rfl
theorem rpwor_any (w : World) (v : Value) (L : List S2) (c0 : Bool) (vp : Value) (P : List S2) (hv : Pts w v L) (hvp : Pts w vp P) (hL : L.length ≤ 1000000000000) (hP : P.length ≤ 1000000000000) :
    Calls Tryz.prog 27 #[v, .bool c0, vp] w fun e w' => e = .returned (worV L c0 P) ∧ Below w.heap.size w w' := by
  unfold worV
  by_cases h : chkP L c0 = 0
  · rw [if_pos h]
    by_cases hd : chkPtsN P = 0
    · rw [if_pos hd]
      by_cases hn : P.length = 0
      · rw [if_pos hn]; exact rpwor_none w v L c0 vp P hv hvp hL hP h hd hn
      · rw [if_neg hn]; exact rpwor_ok w v L c0 vp P hv hvp hL hP h hd hn
    · rw [if_neg hd]; exact rpwor_bad2 w v L c0 vp P hv hvp hL hP _ hd h rfl
  · rw [if_neg h]; exact rpwor_bad w v L c0 vp P hv hvp hL hP _ h rfl
end Go.Proofs.YtendaaghmeoddaaGreatDoor
