/- slices.Contains of slices of numbers; right; ProfileParts: the walk. -/
import Derived.Test.YtendaaghmeoddaaGreatDoorPsides
import Derived.Test.YtendaaghmeoddaaGreatDoorPune
import Derived.Test.YtendaaghmeoddaaGreatDoorPlaws
namespace Go.Proofs.YtendaaghmeoddaaGreatDoor
open Go.RowKit MLab

set_option maxRecDepth 100000 in
set_option maxHeartbeats 2000000 in
theorem index37_any (w : World) (u : Value) (l : List Nat) (k : Nat) (hL : l.length ≤ 1000000000000) (hu : IxL w u l) :
    Calls Tryz.prog 65 #[u, .int .i64 (k : Int)] w fun e w' => (∃ z : Int, e = .returned (.int .i64 z) ∧ (0 ≤ z ↔ k ∈ l)) ∧ Below w.heap.size w w' := by
  obtain ⟨A, c, rfl, hc⟩ := hu
  have HC := hide hc
  clear hc
  go_enter Tryz.func65, Tryz.ntmps65
  go_wp2_with fail
  go_loopg [8] l.length (fun q iv wr => ∃ j : Nat, iv = .int .i64 (j : Int) ∧ q + j = l.length ∧ (∀ i, i < j → l[i]? ≠ some k) ∧ Below w.heap.size w wr)
  case atStart => exact ⟨0, rfl, rfl, fun i h => absurd h (by omega), Below.refl _ _⟩
  case round =>
    obtain ⟨j, rfl, hq, hs, hb⟩ := hrel
    have hj : j ≤ l.length := by omega
    have HQ := hide hq
    have HS := hide hs
    have HB := hide hb
    clear hq hs hb
    by_cases hlt : j < l.length
    · have hji : (j : Int) < (l.length : Int) := by omega
      have hj0 : (0 : Int) ≤ (j : Int) := by omega
      obtain ⟨g, hA, hcell⟩ := HC.out (by omega)
      subst hA
      obtain ⟨x, hx⟩ : ∃ x, l[j]? = some x := ⟨_, List.getElem?_eq_getElem hlt⟩
      have a := hcell j x hx
      have a2 := (bcell HB.out _ _ (block_lt_of_cell a)).trans a
      have HX := hide hx
      clear a hcell HC hx
      by_cases e : x = k
      · subst e
        go_wp2_with fail
        go_ret
        exact ⟨⟨_, rfl, fun _ => List.mem_of_getElem? HX.out, fun _ => hj0⟩, HB.out⟩
      · have ei : ¬ (k : Int) = (x : Int) := by omega
        have ei2 : ¬ k = x := fun h => e h.symm
        have E := hide e
        clear e
        go_wp2_with fail
        go_roundg (gk - 1)
        case measure => have := HQ.out; omega
        case rel =>
          refine ⟨j + 1, by go_num, by have := HQ.out; omega, fun i hi => ?_, HB.out⟩
          by_cases e : i = j
          · subst e; rw [HX.out]; intro h; exact E.out (Option.some.inj h)
          · exact HS.out i (by omega)
    · have hji : ¬ (j : Int) < (l.length : Int) := by omega
      go_wp2_with fail
      go_ret
      refine ⟨⟨_, rfl, fun h => absurd h (by decide), fun h => ?_⟩, HB.out⟩
      obtain ⟨i, hi⟩ := List.getElem?_of_mem h
      have h2 : i < l.length := (List.getElem?_eq_some_iff.1 hi).1
      exact absurd hi (HS.out i (by omega))

set_option maxRecDepth 100000 in
theorem contains37_any (w : World) (u : Value) (l : List Nat) (k : Nat) (hL : l.length ≤ 1000000000000) (hu : IxL w u l) :
    Calls Tryz.prog 31 #[u, .int .i64 (k : Int)] w fun e w' => e = .returned (.bool (decide (k ∈ l))) ∧ Below w.heap.size w w' := by
  have HC := hide (index37_any w u l k hL hu)
  obtain ⟨R, hR⟩ : ∃ R, decide (k ∈ l) = R := ⟨_, rfl⟩
  rw [hR]
  have HR := hide hR
  obtain ⟨A, c, rfl, _⟩ := hu
  clear hR
  go_enter Tryz.func31, Tryz.ntmps31
  go_wp2_with fail
  refine HC.out.mono ?_
  rintro e w1 ⟨⟨z, rfl, hz⟩, hb1⟩
  have hd : decide (0 ≤ z) = R := by rw [← HR.out]; exact decide_eq_decide.2 hz
  have HD := hide hd
  clear hd hz HC
  go_wp2_with fail
  go_ret
  exact ⟨by rw [← HD.out]; rfl, hb1⟩

set_option maxRecDepth 100000 in
set_option maxHeartbeats 1000000 in
theorem right37_any (w : World) (v : Value) (L : List S2) (hv : Pts w v L) :
    Calls Tryz.prog 28 #[v] w fun e w' => e = .returned (.bool (decide (L.length ≤ 8 ∧ chkP L true = 0))) ∧ Below w.heap.size w w' := by
  obtain ⟨R, hR⟩ : ∃ R, decide (L.length ≤ 8 ∧ chkP L true = 0) = R := ⟨_, rfl⟩
  rw [hR]
  have HR := hide hR
  have HV := hide hv
  obtain ⟨A, c, rfl, _⟩ := id hv
  clear hv hR
  by_cases h8 : L.length ≤ 8
  · have hi8 : (L.length : Int) ≤ 8 := by omega
    have hL : L.length ≤ 1000000000000 := by omega
    have hd : decide (chkP L true = 0) = R := by rw [← HR.out]; exact decide_eq_decide.2 ⟨fun h => ⟨h8, h⟩, fun h => h.2⟩
    have HD := hide hd
    clear hd
    go_enter Tryz.func28, Tryz.ntmps28
    go_wp2_with fail
    refine (rpcheck_any _ _ L true HV.out hL).mono ?_
    rintro e w1 ⟨rfl, hb1⟩
    have HB1 := hide hb1
    clear hb1
    generalize chkP L true = k at *
    go_wp2_with fail
    go_ret
    exact ⟨by rw [← HD.out]; rfl, HB1.out⟩
  · have hi8 : ¬ (L.length : Int) ≤ 8 := by omega
    have hd : R = false := by rw [← HR.out]; exact decide_eq_false fun h => h8 h.1
    subst hd
    clear HR
    go_enter Tryz.func28, Tryz.ntmps28
    go_wp2_with fail
    go_ret
    exact ⟨rfl, Below.refl _ _⟩

theorem rightS_of_chk {P : List S2} (hd : chkPtsN P = 0) : ∀ j, Co (gP P j).1 ∧ Co (gP P j).2 := by
  have hp3 : RightS P := by
    rcases chkPtsN_cases P with h | h | ⟨_, h2, h3⟩
    · rw [h] at hd; exact absurd hd (by decide)
    · rw [h] at hd; exact absurd hd (by decide)
    · exact rightS_of_all h3
  exact hp3
theorem inV_right {L : List S2} {x y : Int} (hck : chkP L true = 0) (h : Co x ∧ Co y) : inV L x y = .tuple #[.int .i64 (locP L (x, y)), .int .i64 0] := by
  unfold inV; rw [if_pos hck, if_pos h]

set_option maxRecDepth 100000 in
set_option maxHeartbeats 8000000 in
theorem parts_any (w : World) (v : Value) (L : List S2) (hv : Pts w v L) (vp : Value) (P : List S2) (hvp : Pts w vp P) (t : Int) (ht : 0 ≤ t ∧ t < 256) (hs : Std w) :
    Calls Tryz.prog 7 #[v, vp, .int .u8 t] w fun e w' => e = .returned (.bool true) ∧ Below w.heap.size w w' := by
  have HV := hide hv
  have HVP := hide hvp
  have HS := hide hs
  have h64 : IntKind.i64.wrap t = t := IntWalk.i64_in _ (by omega)
  obtain ⟨A, c, rfl, _⟩ := id hv
  obtain ⟨A2, c2, rfl, hpc⟩ := id hvp
  have HPC := hide hpc
  clear hv hs hvp hpc
  by_cases hr : L.length ≤ 8 ∧ chkP L true = 0
  · by_cases h8 : P.length ≤ 8
    · by_cases hk : chkPtsN P = 0
      · skip
        obtain ⟨_, hck⟩ := id hr
        have hL : L.length ≤ 1000000000000 := by omega
        have hP : P.length ≤ 1000000000000 := by omega
        have hd := hide (decide_eq_true hr)
        have hi : ¬ 8 < (P.length : Int) := by omega
        have HK := hide hk
        have tn : Tl t := by unfold Tl; omega
        have tm : Tl 100000 := by unfold Tl; omega
        have t2 : Tl (2 * t) := by unfold Tl; omega
        have e1 : uneE L P t t = 0 := by unfold uneE; rw [if_pos hck, if_pos hk, if_pos ⟨tn, tn⟩]
        have e2 : outE L true P (2 * t) = 0 := by unfold outE; rw [if_pos hck, if_pos hk, if_pos t2]
        have e3 : uneE L P t 100000 = 0 := by unfold uneE; rw [if_pos hck, if_pos hk, if_pos ⟨tn, tm⟩]
        have l1 : uneL L P t t = fl (uneF L P t t) P.length := by unfold uneL; rw [if_pos e1]
        have l2 : outL L true P (2 * t) = fl (uneF L P t t) P.length := by unfold outL; rw [if_pos e2]; exact (parts_same L P t).symm
        have l3 : uneL L P t 100000 = fl (uneF L P t 100000) P.length := by unfold uneL; rw [if_pos e3]
        have q1 : ∀ k, k ∈ fl (uneF L P t 100000) P.length → k ∈ fl (uneF L P t t) P.length := fun k h => parts_wide ht.1 (by omega) h
        have q2 : ∀ k, k ∈ fl (uneF L P t t) P.length → k < P.length := fun k h => (fl_mem.1 h).1
        have q3 : ∀ k, k ∈ fl (uneF L P t t) P.length → locP L (gP P k) ≠ 0 := fun k h => parts_ne h
        have q4 : ∀ k, 0 < locP L (gP P k) → k ∈ fl (uneF L P t t) P.length → k ∈ fl (uneF L P t 100000) P.length := fun k h => parts_in h
        have z1 : (fl (uneF L P t t) P.length).length ≤ 1000000000000 := Nat.le_trans (fl_length _ _) hP
        have z3 : (fl (uneF L P t 100000) P.length).length ≤ 1000000000000 := Nat.le_trans (fl_length _ _) hP
        obtain ⟨la, hla⟩ : ∃ l, fl (uneF L P t t) P.length = l := ⟨_, rfl⟩
        obtain ⟨lc, hlc⟩ : ∃ l, fl (uneF L P t 100000) P.length = l := ⟨_, rfl⟩
        rw [hla] at l1 l2 q1 q2 q3 q4 z1
        rw [hlc] at l3 q1 q4 z3
        have E1 := hide e1
        have E2 := hide e2
        have E3 := hide e3
        have L1 := hide l1
        have L2 := hide l2
        have L3 := hide l3
        have Q1 := hide q1
        have Q2 := hide q2
        have Q3 := hide q3
        have Q4 := hide q4
        have HPR : Hid (∀ j, Co (gP P j).1 ∧ Co (gP P j).2) := hide (rightS_of_chk hk)
        have HIN := hide (fun x y (h : Co x ∧ Co y) => inV_right hck h)
        have h2t : IntKind.i64.wrap (2 * t) = 2 * t := IntWalk.i64_in _ (by omega)
        clear hr hk hck tn tm t2 e1 e2 e3 l1 l2 l3 q1 q2 q3 q4 hla hlc
        have HB := hide (Below.refl w.heap.size w)
        go_enter Tryz.func7, Tryz.ntmps7
        go_wp2_with fail
        refine (right37_any _ _ L (HV.out.below HB.out)).mono ?_
        rw [hd.out]
        rintro e w1 ⟨rfl, hb⟩
        replace HB := hide (HB.out.trans (hb.mono HB.out.size))
        clear hb
        go_wp2_with fail
        refine (rCheck_any _ _ P (HVP.out.below HB.out) (by omega)).mono ?_
        rw [HK.out]
        rintro e w2 ⟨rfl, hb⟩
        replace HB := hide (HB.out.trans (hb.mono HB.out.size))
        clear hb
        go_wp2_with fail
        refine (pune_any _ _ L _ P t t (HV.out.below HB.out) (HVP.out.below HB.out) hL hP (HS.out.below HB.out (Nat.le_refl _))).mono ?_
        rw [E1.out, L1.out]
        rintro e w3 ⟨⟨u_IA, rfl, hin_IA⟩, hb⟩
        obtain ⟨A_IA, c_IA, rfl⟩ := hin_IA.shape
        have HIA := hide hin_IA
        clear hin_IA
        replace HB := hide (HB.out.trans (hb.mono HB.out.size))
        clear hb
        go_wp2_with fail
        refine (pout_any _ _ L true _ P (2 * t) (HV.out.below HB.out) (HVP.out.below HB.out) hL hP (HS.out.below HB.out (Nat.le_refl _))).mono ?_
        rw [E2.out, L2.out]
        rintro e w4 ⟨⟨u_IB, rfl, hin_IB⟩, hb⟩
        obtain ⟨A_IB, c_IB, rfl⟩ := hin_IB.shape
        have HIB := hide hin_IB
        clear hin_IB
        replace HB := hide (HB.out.trans (hb.mono HB.out.size))
        replace HIA := hide (HIA.out.below hb)
        clear hb
        go_wp2_with fail
        refine (pune_any _ _ L _ P t 100000 (HV.out.below HB.out) (HVP.out.below HB.out) hL hP (HS.out.below HB.out (Nat.le_refl _))).mono ?_
        rw [E3.out, L3.out]
        rintro e w5 ⟨⟨u_IC, rfl, hin_IC⟩, hb⟩
        obtain ⟨A_IC, c_IC, rfl⟩ := hin_IC.shape
        have HIC := hide hin_IC
        clear hin_IC
        replace HB := hide (HB.out.trans (hb.mono HB.out.size))
        replace HIA := hide (HIA.out.below hb)
        replace HIB := hide (HIB.out.below hb)
        clear hb
        go_wp2_with fail
        refine (equal_any _ _ _ la la z1 HIA.out HIB.out).mono ?_
        rw [decide_eq_true rfl]
        rintro e w6 ⟨rfl, hb⟩
        replace HB := hide (HB.out.trans (hb.mono HB.out.size))
        replace HIA := hide (HIA.out.below hb)
        replace HIB := hide (HIB.out.below hb)
        replace HIC := hide (HIC.out.below hb)
        clear hb
        have HBW := HB
        go_wp2_with fail
        go_loopg [74] lc.length (fun q iv wr => ∃ j : Nat, iv = .int .i64 (j : Int) ∧ q + j = lc.length ∧ Below w6.heap.size w6 wr)
        case atStart => exact ⟨0, rfl, rfl, Below.refl _ _⟩
        case round =>
          obtain ⟨j, rfl, hq, hb⟩ := hrel
          have hj : j ≤ lc.length := by omega
          have HQ := hide hq
          have HB := hide hb
          clear hq hb
          by_cases hlt : j < lc.length
          · have hji : (j : Int) < (lc.length : Int) := by omega
            have hj0 : (0 : Int) ≤ (j : Int) := by omega
            obtain ⟨_, _, hsl, hcc⟩ := id HIC.out
            obtain ⟨g, hA, hcell⟩ := hcc (by omega)
            cases hsl
            subst hA
            obtain ⟨x, hx⟩ : ∃ x, lc[j]? = some x := ⟨_, List.getElem?_eq_getElem hlt⟩
            have a := hcell j x hx
            have a2 := (bcell HB.out _ _ (block_lt_of_cell a)).trans a
            have hm : x ∈ la := Q1.out x (List.mem_of_getElem? hx)
            have hxl := Q2.out x hm
            have hx0 : ¬ (x : Int) < 0 := by omega
            have hx1 : ¬ (P.length : Int) ≤ (x : Int) := by omega
            have HD := hide (decide_eq_true hm)
            clear a hcell hcc hx hm
            go_wp2_with fail
            refine (contains37_any _ _ la x z1 (HIA.out.below HB.out)).mono ?_
            rw [HD.out]
            rintro e w9 ⟨rfl, hb9⟩
            have HB9 := hide (HB.out.trans (hb9.mono HB.out.size))
            clear hb9 a2
            go_wp2_with fail
            go_roundg (gk - 1)
            case measure => have := HQ.out; omega
            case rel => exact ⟨j + 1, by go_num, by have := HQ.out; omega, HB9.out⟩
          · have hji : ¬ (j : Int) < (lc.length : Int) := by omega
            obtain rfl : j = lc.length := by omega
            have HQ2 := HQ
            clear HQ hji hlt hj
            have HBA := hide HB.out
            go_wp2_with fail
            go_loopg [95] la.length (fun q iv wr => ∃ j : Nat, iv = .int .i64 (j : Int) ∧ q + j = la.length ∧ Below w6.heap.size w6 wr)
            case atStart => exact ⟨0, rfl, rfl, HBA.out⟩
            case round =>
              obtain ⟨j, rfl, hq, hb⟩ := hrel
              have hj : j ≤ la.length := by omega
              have HQ := hide hq
              have HB := hide hb
              clear hq hb
              by_cases hlt : j < la.length
              · have hji : (j : Int) < (la.length : Int) := by omega
                have hj0 : (0 : Int) ≤ (j : Int) := by omega
                obtain ⟨_, _, hsl, hcc⟩ := id HIA.out
                obtain ⟨g, hA, hcell⟩ := hcc (by omega)
                cases hsl
                subst hA
                obtain ⟨x, hx⟩ : ∃ x, la[j]? = some x := ⟨_, List.getElem?_eq_getElem hlt⟩
                have a := hcell j x hx
                have a2 := (bcell HB.out _ _ (block_lt_of_cell a)).trans a
                have hm : x ∈ la := List.mem_of_getElem? hx
                have hxl := Q2.out x hm
                have hx0 : ¬ (x : Int) < 0 := by omega
                have hxz : (0 : Int) ≤ (x : Int) := by omega
                have hx1 : ¬ (P.length : Int) ≤ (x : Int) := by omega
                have hx2 : (x : Int) < (P.length : Int) := by omega
                obtain ⟨b, off, hA, hpcell⟩ := HPC.out (by omega)
                subst hA
                obtain ⟨x1, x2, hxy⟩ : ∃ u v, gP P x = (u, v) := ⟨_, _, rfl⟩
                obtain ⟨a0, a1⟩ := hpcell x _ (gP_eq hxl)
                rw [hxy] at a0 a1
                have p0 := (bcell (HBW.out.trans (HB.out.mono HBW.out.size)) _ _ (block_lt_of_cell a0)).trans a0
                have p1 := (bcell (HBW.out.trans (HB.out.mono HBW.out.size)) _ _ (block_lt_of_cell a1)).trans a1
                have hco := HPR.out x
                rw [hxy] at hco
                have hne := Q3.out x hm
                have h4 := fun h => Q4.out x h hm
                rw [hxy] at hne h4
                have hor := locP_or L (x1, x2)
                have hiv := HIN.out x1 x2 hco
                obtain ⟨s, hs⟩ : ∃ s, locP L (x1, x2) = s := ⟨_, rfl⟩
                rw [hs] at hne h4 hor hiv
                have HIV := hide hiv
                clear a hcell hcc hx hm a0 a1 hpcell hxy hco hs hiv
                have HBX := hide (HBW.out.trans (HB.out.mono HBW.out.size))
                rcases hor with h | h | h
                · exact absurd h hne
                · subst h
                  have HD := hide (decide_eq_true (h4 (by decide)))
                  clear h4 hne
                  go_wp2_with fail
                  refine (pin_any _ _ L x1 x2 (HV.out.below HBX.out) hL (HS.out.below HBX.out (Nat.le_refl _))).mono ?_
                  rw [HIV.out]
                  rintro e w8 ⟨rfl, hb8⟩
                  have HB8 := hide (HB.out.trans (hb8.mono HB.out.size))
                  clear hb8 p0 p1 a2
                  go_wp2_with fail
                  refine (contains37_any _ _ lc x z3 (HIC.out.below HB8.out)).mono ?_
                  rw [HD.out]
                  rintro e w9 ⟨rfl, hb9⟩
                  have HB9 := hide (HB8.out.trans (hb9.mono HB8.out.size))
                  clear hb9
                  go_wp2_with fail
                  go_roundg (gk - 1)
                  case measure => have := HQ.out; omega
                  case rel => exact ⟨j + 1, by go_num, by have := HQ.out; omega, HB9.out⟩
                · subst h
                  clear h4 hne
                  go_wp2_with fail
                  refine (pin_any _ _ L x1 x2 (HV.out.below HBX.out) hL (HS.out.below HBX.out (Nat.le_refl _))).mono ?_
                  rw [HIV.out]
                  rintro e w8 ⟨rfl, hb8⟩
                  have HB8 := hide (HB.out.trans (hb8.mono HB.out.size))
                  clear hb8 p0 p1 a2
                  go_wp2_with fail
                  go_roundg (gk - 1)
                  case measure => have := HQ.out; omega
                  case rel => exact ⟨j + 1, by go_num, by have := HQ.out; omega, HB8.out⟩
              · have hji : ¬ (j : Int) < (la.length : Int) := by omega
                have HBX := hide (HBW.out.trans (HB.out.mono HBW.out.size))
                go_wp2_with fail
                refine (awake_any _ (HS.out.below HBX.out (Nat.le_refl _))).mono ?_
                rintro e w9 ⟨rfl, hb9⟩
                have HB9 := hide (HBX.out.trans (hb9.mono HBX.out.size))
                clear hb9
                go_wp2_with fail
                go_ret
                exact ⟨rfl, HB9.out⟩
      · skip
        have hd := hide (decide_eq_true hr)
        have hi : ¬ 8 < (P.length : Int) := by omega
        obtain ⟨k, hk0⟩ : ∃ k, chkPtsN P = k := ⟨_, rfl⟩
        rw [hk0] at hk
        have hk1 : (k != 0) = true := by simpa using hk
        have HK := hide hk0
        clear hr hk0
        have HB := hide (Below.refl w.heap.size w)
        go_enter Tryz.func7, Tryz.ntmps7
        go_wp2_with fail
        refine (right37_any _ _ L (HV.out.below HB.out)).mono ?_
        rw [hd.out]
        rintro e w1 ⟨rfl, hb⟩
        replace HB := hide (HB.out.trans (hb.mono HB.out.size))
        clear hb
        go_wp2_with fail
        refine (rCheck_any _ _ P (HVP.out.below HB.out) (by omega)).mono ?_
        rw [HK.out]
        rintro e w2 ⟨rfl, hb⟩
        replace HB := hide (HB.out.trans (hb.mono HB.out.size))
        clear hb
        go_wp2_with fail
        refine (awake_any _ (HS.out.below HB.out (Nat.le_refl _))).mono ?_
        rintro e w3 ⟨rfl, hb⟩
        replace HB := hide (HB.out.trans (hb.mono HB.out.size))
        clear hb
        go_wp2_with fail
        go_ret
        exact ⟨rfl, HB.out⟩
    · skip
      have hd := hide (decide_eq_true hr)
      have hi : 8 < (P.length : Int) := by omega
      clear hr h8
      have HB := hide (Below.refl w.heap.size w)
      go_enter Tryz.func7, Tryz.ntmps7
      go_wp2_with fail
      refine (right37_any _ _ L (HV.out.below HB.out)).mono ?_
      rw [hd.out]
      rintro e w1 ⟨rfl, hb⟩
      replace HB := hide (HB.out.trans (hb.mono HB.out.size))
      clear hb
      go_wp2_with fail
      refine (awake_any _ (HS.out.below HB.out (Nat.le_refl _))).mono ?_
      rintro e w2 ⟨rfl, hb⟩
      replace HB := hide (HB.out.trans (hb.mono HB.out.size))
      clear hb
      go_wp2_with fail
      go_ret
      exact ⟨rfl, HB.out⟩
  · skip
    have hd := hide (decide_eq_false hr)
    clear hr
    have HB := hide (Below.refl w.heap.size w)
    go_enter Tryz.func7, Tryz.ntmps7
    go_wp2_with fail
    refine (right37_any _ _ L (HV.out.below HB.out)).mono ?_
    rw [hd.out]
    rintro e w1 ⟨rfl, hb⟩
    replace HB := hide (HB.out.trans (hb.mono HB.out.size))
    clear hb
    go_wp2_with fail
    refine (awake_any _ (HS.out.below HB.out (Nat.le_refl _))).mono ?_
    rintro e w2 ⟨rfl, hb⟩
    replace HB := hide (HB.out.trans (hb.mono HB.out.size))
    clear hb
    go_wp2_with fail
    go_ret
    exact ⟨rfl, HB.out⟩
end Go.Proofs.YtendaaghmeoddaaGreatDoor
