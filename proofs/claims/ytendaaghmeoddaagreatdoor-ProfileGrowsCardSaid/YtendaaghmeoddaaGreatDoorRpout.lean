/- metrolabref37.Outside, Worst and Unequal. -/
import Derived.Test.YtendaaghmeoddaaGreatDoorPout
namespace Go.Proofs.YtendaaghmeoddaaGreatDoor
open Go.RowKit MLab

/-- What Unequal returns. -/
def uneE (L P : List S2) (n m : Int) : Int := if chkP L true = 0 then (if chkPtsN P = 0 then (if Tl n ∧ Tl m then 0 else 2) else chkPtsN P) else chkP L true
def uneB (d : Rat) (s n m : Int) : Bool := (decide (0 < s) && farQ d n) || (decide (s < 0) && farQ d m)
def uneF (L P : List S2) (n m : Int) : Nat → Bool := fun i => uneB (dN L true (gP P i)) (locP L (gP P i)) n m
def uneL (L P : List S2) (n m : Int) : List Nat := if uneE L P n m = 0 then fl (uneF L P n m) P.length else []
theorem locP_or (L : List S2) (p : S2) : locP L p = 0 ∨ locP L p = 1 ∨ locP L p = -1 := by
  unfold locP; split
  · exact .inl rfl
  · split
    · exact .inr (.inl rfl)
    · exact .inr (.inr rfl)
/-- The greatest of d 0, .., d (k - 1) above a beginning, and the first index that has it. -/
def wst (z : Rat) (d : Nat → Rat) : Nat → Rat × Nat
  | 0 => (z, 0)
  | k + 1 => if (wst z d k).1 < d k then (d k, k) else wst z d k
theorem wst_sz {z : Rat} {d : Nat → Rat} {m : Nat} (hz : Sz m m z) (h : ∀ j, Sz m m (d j)) : ∀ k, Sz m m (wst z d k).1
  | 0 => hz
  | k + 1 => by
    unfold wst
    split
    · exact h k
    · exact wst_sz hz h k
theorem wst_start {d : Nat → Rat} (h : ∀ j, 0 ≤ d j) : ∀ k, wst (-1) d (k + 1) = wst 0 d (k + 1)
  | 0 => by
    show (if (-1 : Rat) < d 0 then (d 0, 0) else (-1, 0)) = (if (0 : Rat) < d 0 then (d 0, 0) else (0, 0))
    have h0 := h 0
    rw [if_pos (by grind)]
    split
    · rfl
    · have : d 0 = 0 := Rat.le_antisymm (Rat.not_lt.1 (by assumption)) h0
      rw [this]
  | k + 1 => by
    show (if (wst (-1) d (k + 1)).1 < d (k + 1) then (d (k + 1), k + 1) else wst (-1) d (k + 1)) = (if (wst 0 d (k + 1)).1 < d (k + 1) then (d (k + 1), k + 1) else wst 0 d (k + 1))
    rw [wst_start h k]

set_option maxRecDepth 100000 in
set_option maxHeartbeats 4000000 in
theorem rpout_bad (w : World) (v : Value) (L : List S2) (c0 : Bool) (vp : Value) (P : List S2) (n : Int) (hv : Pts w v L) (hvp : Pts w vp P) (hL : L.length ≤ 1000000000000) (_hP : P.length ≤ 1000000000000) (k : Int) (hk : k ≠ 0) (he : chkP L c0 = k) :
    Calls Tryz.prog 25 #[v, .bool c0, vp, .int .i64 n] w fun e w' => e = .returned (.tuple #[.slice none 0 0, .int .i64 k]) ∧ Below w.heap.size w w' := by
  have HV := hide hv
  have HVP := hide hvp
  obtain ⟨A, c, rfl, _⟩ := id hv
  obtain ⟨A2, c2, rfl, hcell⟩ := id hvp
  have HC := hide hcell
  clear hv hvp hcell
  have HE := hide he
  have hk0 : ¬ k = 0 := hk
  clear he hk
  go_enter Tryz.func25, Tryz.ntmps25
  go_wp2_with fail
  refine (rpcheck_any _ _ L c0 HV.out hL).mono ?_
  rw [HE.out]
  rintro e w1 ⟨rfl, hb1⟩
  have HB1 := hide hb1
  clear hb1
  go_wp2_with fail
  go_ret2
  exact ⟨rfl, HB1.out⟩

set_option maxRecDepth 100000 in
set_option maxHeartbeats 4000000 in
theorem rpout_bad2 (w : World) (v : Value) (L : List S2) (c0 : Bool) (vp : Value) (P : List S2) (n : Int) (hv : Pts w v L) (hvp : Pts w vp P) (hL : L.length ≤ 1000000000000) (hP : P.length ≤ 1000000000000) (k : Int) (hk : k ≠ 0) (he : chkP L c0 = 0) (hd : chkPtsN P = k) :
    Calls Tryz.prog 25 #[v, .bool c0, vp, .int .i64 n] w fun e w' => e = .returned (.tuple #[.slice none 0 0, .int .i64 k]) ∧ Below w.heap.size w w' := by
  have HV := hide hv
  have HVP := hide hvp
  obtain ⟨A, c, rfl, _⟩ := id hv
  obtain ⟨A2, c2, rfl, hcell⟩ := id hvp
  have HC := hide hcell
  clear hv hvp hcell
  have HE := hide he
  have HD := hide hd
  have hk0 : ¬ k = 0 := hk
  clear he hk hd
  go_enter Tryz.func25, Tryz.ntmps25
  go_wp2_with fail
  refine (rpcheck_any _ _ L c0 HV.out hL).mono ?_
  rw [HE.out]
  rintro e w1 ⟨rfl, hb1⟩
  have HB1 := hide hb1
  clear hb1
  go_wp2_with fail
  refine (rCheck_any _ _ P (HVP.out.below HB1.out) hP).mono ?_
  rw [HD.out]
  rintro e w2 ⟨rfl, hb2⟩
  have HB2 := hide (HB1.out.trans (hb2.mono HB1.out.size))
  clear hb2
  go_wp2_with fail
  go_ret2
  exact ⟨rfl, HB2.out⟩

set_option maxRecDepth 100000 in
set_option maxHeartbeats 4000000 in
theorem rpout_tol (w : World) (v : Value) (L : List S2) (c0 : Bool) (vp : Value) (P : List S2) (n : Int) (hv : Pts w v L) (hvp : Pts w vp P) (hL : L.length ≤ 1000000000000) (hP : P.length ≤ 1000000000000) (he : chkP L c0 = 0) (hd : chkPtsN P = 0) (ht : ¬ Tl n) :
    Calls Tryz.prog 25 #[v, .bool c0, vp, .int .i64 n] w fun e w' => e = .returned (.tuple #[.slice none 0 0, .int .i64 2]) ∧ Below w.heap.size w w' := by
  have HV := hide hv
  have HVP := hide hvp
  obtain ⟨A, c, rfl, _⟩ := id hv
  obtain ⟨A2, c2, rfl, hcell⟩ := id hvp
  have HC := hide hcell
  clear hv hvp hcell
  have HE := hide he
  have HD := hide hd
  have HT := hide (decide_eq_false ht)
  clear he hd ht
  go_enter Tryz.func25, Tryz.ntmps25
  go_wp2_with fail
  refine (rpcheck_any _ _ L c0 HV.out hL).mono ?_
  rw [HE.out]
  rintro e w1 ⟨rfl, hb1⟩
  have HB1 := hide hb1
  clear hb1
  go_wp2_with fail
  refine (rCheck_any _ _ P (HVP.out.below HB1.out) hP).mono ?_
  rw [HD.out]
  rintro e w2 ⟨rfl, hb2⟩
  have HB2 := hide (HB1.out.trans (hb2.mono HB1.out.size))
  clear hb2
  go_wp2_with fail
  refine (rptol_any _ n).mono ?_
  rw [HT.out]
  rintro e w3 ⟨rfl, rfl⟩
  go_wp2_with fail
  go_ret2
  exact ⟨rfl, HB2.out⟩

set_option maxRecDepth 100000 in
set_option maxHeartbeats 4000000 in
theorem rpout_ok (w : World) (v : Value) (L : List S2) (c0 : Bool) (vp : Value) (P : List S2) (n : Int) (hv : Pts w v L) (hvp : Pts w vp P) (hL : L.length ≤ 1000000000000) (hP : P.length ≤ 1000000000000) (he : chkP L c0 = 0) (hd : chkPtsN P = 0) (ht : Tl n) :
    Calls Tryz.prog 25 #[v, .bool c0, vp, .int .i64 n] w fun e w' => (∃ u, e = .returned (.tuple #[u, .int .i64 0]) ∧ IxL w' u (fl (outF L c0 P n) P.length)) ∧ Below w.heap.size w w' := by
  obtain ⟨g1, g2, g3⟩ := chkP_zero he
  have hp3 : P.length ≤ 64 ∧ RightS P := by
    rcases chkPtsN_cases P with h | h | ⟨_, h2, h3⟩
    · rw [h] at hd; exact absurd hd (by decide)
    · rw [h] at hd; exact absurd hd (by decide)
    · exact ⟨h2, rightS_of_all h3⟩
  obtain ⟨hp1, hp2⟩ := hp3
  have HV := hide hv
  have HVP := hide hvp
  obtain ⟨A, c, rfl, _⟩ := id hv
  obtain ⟨A2, c2, rfl, hcell⟩ := id hvp
  have HC := hide hcell
  clear hv hvp hcell
  have HE := hide he
  have HD := hide hd
  have HT := hide (decide_eq_true ht)
  have HPR := hide hp2
  have HBY := hide (fun W (hV : Pts W (.slice A L.length c) L) x y hc => rpbeyond_any W _ L c0 x y n hV g1 g2 g3 hc ht)
  obtain ⟨g, hg⟩ : ∃ g, outF L c0 P n = g := ⟨_, rfl⟩
  have HGG := hide hg
  rw [hg]
  obtain ⟨i0, hi, hz0, hz1, hz2⟩ := info_parts info_int
  clear he hd ht g3 hp2 hg
  go_enter Tryz.func25, Tryz.ntmps25
  go_wp2_with fail
  refine (rpcheck_any _ _ L c0 HV.out hL).mono ?_
  rw [HE.out]
  rintro e w1 ⟨rfl, hb1⟩
  have HB1 := hide hb1
  clear hb1
  go_wp2_with fail
  refine (rCheck_any _ _ P (HVP.out.below HB1.out) hP).mono ?_
  rw [HD.out]
  rintro e w2 ⟨rfl, hb2⟩
  have HB2 := hide (HB1.out.trans (hb2.mono HB1.out.size))
  clear hb2
  go_wp2_with fail
  refine (rptol_any _ n).mono ?_
  rw [HT.out]
  rintro e w3 ⟨rfl, rfl⟩
  have HBS := HB2
  go_wp2_with fail
  go_loopg [12, 13] P.length (fun q ov iv wr => ∃ j : Nat, iv = .int .i64 (j : Int) ∧ q + j = P.length ∧ wr.ownsRow w.heap.size 3 1 ov (fl g j).length (icl (fl g j)) ∧ Below w.heap.size w wr)
  case atStart => exact ⟨0, rfl, by omega, World.ownsRow_nil _ _ _ _, HBS.out⟩
  case round =>
    obtain ⟨j, rfl, hq, hown, hb⟩ := hrel
    have HQ := hide hq
    have HOWN := hide hown
    have HB := hide hb
    have hjle : j ≤ P.length := by omega
    clear hq hown hb
    by_cases hlt : j < P.length
    · have hji : (j : Int) < (P.length : Int) := by omega
      have hj0 : (0 : Int) ≤ (j : Int) := by omega
      obtain ⟨b, off, hA, hcell⟩ := HC.out (by omega)
      subst hA
      obtain ⟨x1, x2, hx⟩ : ∃ x y, gP P j = (x, y) := ⟨_, _, rfl⟩
      obtain ⟨a0, a1⟩ := hcell j _ (gP_eq hlt)
      rw [hx] at a0 a1
      have p0 := (bcell HB.out _ _ (block_lt_of_cell a0)).trans a0
      have p1 := (bcell HB.out _ _ (block_lt_of_cell a1)).trans a1
      have hco := HPR.out j
      rw [hx] at hco
      have hby := HBY.out wr (HV.out.below HB.out) x1 x2 hco
      have hgj : farQ (4 * dN L c0 (x1, x2)) n = g j := by rw [← HGG.out, ← hx]; rfl
      rw [hgj] at hby
      have hfs := fl_succ g j
      have hfl := fl_length g j
      obtain ⟨R, hG⟩ : ∃ R, g j = R := ⟨_, rfl⟩
      rw [hG] at hby hfs
      have HFS := hide hfs
      have HBJ := hide hby
      clear hcell HC hx a0 a1 hfs hG hgj hby hco HBY
      go_wp2_with fail
      refine HBJ.out.mono ?_
      rintro e w3 ⟨rfl, hb3⟩
      have HB3 := hide (HB.out.trans (hb3.mono HB.out.size))
      have hown := owns_below HOWN.out hb3
      clear hb3 p0 p1
      cases R
      · skip
        rw [if_neg (by simp)] at HFS
        have HOW3 := hide hown
        clear hown
        go_wp2_with fail
        go_roundg (gk - 1)
        case measure => have := HQ.out; omega
        case rel => exact ⟨j + 1, by go_num, by have := HQ.out; omega, by rw [HFS.out]; exact HOW3.out, HB3.out⟩
      · skip
        rw [if_pos rfl] at HFS
        go_wp2_with (at_builtin; refine wpList_append_own _ rfl _ _ 48 rfl w.heap.size 3 i0 (.int .i64 0) 1 8 Tryz.underlying48 hi hz0 hz1 hz2 rfl (by decide) _ _ _ rfl (hown.alloc _) ⟨w3.heap.size, 0, none⟩ 1 1 [.int .i64 (j : Int)] rfl rfl ?d1 ?d2 ?d3 ?d4 ?d5 ?_)
        case d1 =>
          intro i u hj
          match i, hj with
          | 0, hj => simp at hj; subst hj; simp [Addr.add]
        case d2 => intro u hu; simp at hu; subst hu; rfl
        case d3 => unfold maxLen; omega
        case d4 => omega
        case d5 => have := HB3.out.size; simp; omega
        intro v' w4 hown' hgrow _
        rw [icl_snoc, ← HFS.out] at hown'
        have hb4 : Below w.heap.size w w4 := (HB3.out.alloc HB3.out.size _).grown hgrow (by have := HB3.out.size; simp; omega) (fun k e => (hown.lt k e).1)
        have hlen : (fl g j).length + 1 = (fl g (j + 1)).length := by rw [HFS.out]; simp
        rw [hlen] at hown'
        have HOW4 := hide hown'
        have HB4 := hide hb4
        clear hown' hgrow hb4 hown
        go_wp2_with fail
        go_roundg (gk - 1)
        case measure => have := HQ.out; omega
        case rel => exact ⟨j + 1, by go_num, by have := HQ.out; omega, HOW4.out, HB4.out⟩
    · have hji : ¬ (j : Int) < (P.length : Int) := by omega
      obtain rfl : j = P.length := by omega
      have hin := IxL.of_row HOWN.out rfl
      obtain ⟨A3, c3, rfl⟩ := hin.shape
      have HIN := hide hin
      clear hin
      go_wp2_with fail
      go_ret2
      exact ⟨⟨_, rfl, HIN.out⟩, HB.out⟩

set_option maxRecDepth 100000 in
set_option maxHeartbeats 4000000 in
theorem rpwor_bad (w : World) (v : Value) (L : List S2) (c0 : Bool) (vp : Value) (P : List S2) (hv : Pts w v L) (hvp : Pts w vp P) (hL : L.length ≤ 1000000000000) (_hP : P.length ≤ 1000000000000) (k : Int) (hk : k ≠ 0) (he : chkP L c0 = k) :
    Calls Tryz.prog 27 #[v, .bool c0, vp] w fun e w' => e = .returned (.tuple #[.string ⟨#[]⟩, .int .i64 0, .int .i64 k]) ∧ Below w.heap.size w w' := by
  have HV := hide hv
  have HVP := hide hvp
  obtain ⟨A, c, rfl, _⟩ := id hv
  obtain ⟨A2, c2, rfl, hcell⟩ := id hvp
  have HC := hide hcell
  clear hv hvp hcell
  have HE := hide he
  have hk0 : ¬ k = 0 := hk
  clear he hk
  go_enter Tryz.func27, Tryz.ntmps27
  go_wp2_with fail
  refine (rpcheck_any _ _ L c0 HV.out hL).mono ?_
  rw [HE.out]
  rintro e w1 ⟨rfl, hb1⟩
  have HB1 := hide hb1
  clear hb1
  go_wp2_with fail
  go_ret3
  exact ⟨rfl, HB1.out⟩

set_option maxRecDepth 100000 in
set_option maxHeartbeats 4000000 in
theorem rpwor_bad2 (w : World) (v : Value) (L : List S2) (c0 : Bool) (vp : Value) (P : List S2) (hv : Pts w v L) (hvp : Pts w vp P) (hL : L.length ≤ 1000000000000) (hP : P.length ≤ 1000000000000) (k : Int) (hk : k ≠ 0) (he : chkP L c0 = 0) (hd : chkPtsN P = k) :
    Calls Tryz.prog 27 #[v, .bool c0, vp] w fun e w' => e = .returned (.tuple #[.string ⟨#[]⟩, .int .i64 0, .int .i64 k]) ∧ Below w.heap.size w w' := by
  have HV := hide hv
  have HVP := hide hvp
  obtain ⟨A, c, rfl, _⟩ := id hv
  obtain ⟨A2, c2, rfl, hcell⟩ := id hvp
  have HC := hide hcell
  clear hv hvp hcell
  have HE := hide he
  have HD := hide hd
  have hk0 : ¬ k = 0 := hk
  clear he hk hd
  go_enter Tryz.func27, Tryz.ntmps27
  go_wp2_with fail
  refine (rpcheck_any _ _ L c0 HV.out hL).mono ?_
  rw [HE.out]
  rintro e w1 ⟨rfl, hb1⟩
  have HB1 := hide hb1
  clear hb1
  go_wp2_with fail
  refine (rCheck_any _ _ P (HVP.out.below HB1.out) hP).mono ?_
  rw [HD.out]
  rintro e w2 ⟨rfl, hb2⟩
  have HB2 := hide (HB1.out.trans (hb2.mono HB1.out.size))
  clear hb2
  go_wp2_with fail
  go_ret3
  exact ⟨rfl, HB2.out⟩

set_option maxRecDepth 100000 in
set_option maxHeartbeats 4000000 in
theorem rpwor_none (w : World) (v : Value) (L : List S2) (c0 : Bool) (vp : Value) (P : List S2) (hv : Pts w v L) (hvp : Pts w vp P) (hL : L.length ≤ 1000000000000) (hP : P.length ≤ 1000000000000) (he : chkP L c0 = 0) (hd : chkPtsN P = 0) (hn : P.length = 0) :
    Calls Tryz.prog 27 #[v, .bool c0, vp] w fun e w' => e = .returned (.tuple #[.string ⟨#[]⟩, .int .i64 0, .int .i64 13]) ∧ Below w.heap.size w w' := by
  obtain rfl : P = [] := List.length_eq_zero_iff.1 hn
  have HV := hide hv
  have HVP := hide hvp
  obtain ⟨A, c, rfl, _⟩ := id hv
  obtain ⟨A2, c2, rfl, hcell⟩ := id hvp
  have HC := hide hcell
  clear hv hvp hcell
  have HE := hide he
  have HD := hide hd
  clear he hd
  go_enter Tryz.func27, Tryz.ntmps27
  go_wp2_with fail
  refine (rpcheck_any _ _ L c0 HV.out hL).mono ?_
  rw [HE.out]
  rintro e w1 ⟨rfl, hb1⟩
  have HB1 := hide hb1
  clear hb1
  go_wp2_with fail
  refine (rCheck_any _ _ [] (HVP.out.below HB1.out) hP).mono ?_
  rw [HD.out]
  rintro e w2 ⟨rfl, hb2⟩
  have HB2 := hide (HB1.out.trans (hb2.mono HB1.out.size))
  clear hb2
  go_wp2_with fail
  go_ret3
  exact ⟨rfl, HB2.out⟩

set_option maxRecDepth 100000 in
set_option maxHeartbeats 4000000 in
theorem rpwor_ok (w : World) (v : Value) (L : List S2) (c0 : Bool) (vp : Value) (P : List S2) (hv : Pts w v L) (hvp : Pts w vp P) (hL : L.length ≤ 1000000000000) (hP : P.length ≤ 1000000000000) (he : chkP L c0 = 0) (hd : chkPtsN P = 0) (hn : ¬ P.length = 0) :
    Calls Tryz.prog 27 #[v, .bool c0, vp] w fun e w' => e = .returned (.tuple #[.string ⟨(RT (wst 0 (fun i => dN L c0 (gP P i)) P.length).1).toArray⟩, .int .i64 (((wst 0 (fun i => dN L c0 (gP P i)) P.length).2 : Nat) : Int), .int .i64 0]) ∧ Below w.heap.size w w' := by
  obtain ⟨g1, g2, g3⟩ := chkP_zero he
  have hp3 : P.length ≤ 64 ∧ RightS P := by
    rcases chkPtsN_cases P with h | h | ⟨_, h2, h3⟩
    · rw [h] at hd; exact absurd hd (by decide)
    · rw [h] at hd; exact absurd hd (by decide)
    · exact ⟨h2, rightS_of_all h3⟩
  obtain ⟨hp1, hp2⟩ := hp3
  have HV := hide hv
  have HVP := hide hvp
  obtain ⟨A, c, rfl, _⟩ := id hv
  obtain ⟨A2, c2, rfl, hcell⟩ := id hvp
  have HC := hide hcell
  clear hv hvp hcell
  have HE := hide he
  have HD := hide hd
  have hni : ¬ (P.length : Int) = 0 := by omega
  have hni2 : ((P.length : Int) == 0) = false := by rw [beq_eq_false_iff_ne]; omega
  have HPR := hide hp2
  have hsz : ∀ j, Sz 30 30 (dN L c0 (gP P j)) := fun j => dN_sz g3 (hp2 j)
  have HNR := hide (fun W (hV : Pts W (.slice A L.length c) L) x y hc => rpnear_any W _ L c0 x y hV g1 g2 g3 hc)
  obtain ⟨d, hg⟩ : ∃ d, (fun i => dN L c0 (gP P i)) = d := ⟨_, rfl⟩
  have hsz2 : ∀ j, Sz 30 30 (d j) := by intro j; rw [← hg]; exact hsz j
  have HSZ := hide hsz2
  have HGG := hide hg
  rw [hg]
  obtain ⟨RV, hRV⟩ : ∃ r, Value.tuple #[.string ⟨(RT (wst 0 d P.length).1).toArray⟩, .int .i64 (((wst 0 d P.length).2 : Nat) : Int), .int .i64 0] = r := ⟨_, rfl⟩
  rw [hRV]
  have HRV := hide hRV
  have hs0 : (⟨#[48]⟩ : ByteArray) = ⟨(RT 0).toArray⟩ := by rw [RT_zero]
  have HS0 := hide hs0
  clear he hd g3 hp2 hg hsz hsz2 hRV hs0
  go_enter Tryz.func27, Tryz.ntmps27
  go_wp2_with fail
  refine (rpcheck_any _ _ L c0 HV.out hL).mono ?_
  rw [HE.out]
  rintro e w1 ⟨rfl, hb1⟩
  have HB1 := hide hb1
  clear hb1
  go_wp2_with fail
  refine (rCheck_any _ _ P (HVP.out.below HB1.out) hP).mono ?_
  rw [HD.out]
  rintro e w2 ⟨rfl, hb2⟩
  have HB2 := hide (HB1.out.trans (hb2.mono HB1.out.size))
  clear hb2
  have HBS := HB2
  go_wp2_with fail
  go_loopg [11, 12, 13] P.length (fun q bv av iv wr => ∃ j : Nat, iv = .int .i64 (j : Int) ∧ q + j = P.length ∧ bv = .string ⟨(RT (wst 0 d j).1).toArray⟩ ∧ av = .int .i64 (((wst 0 d j).2 : Nat) : Int) ∧ Below w.heap.size w wr)
  case atStart => exact ⟨0, rfl, by omega, by rw [HS0.out]; rfl, rfl, HBS.out⟩
  case round =>
    obtain ⟨j, rfl, hq, rfl, rfl, hb⟩ := hrel
    have HQ := hide hq
    have HB := hide hb
    have hjle : j ≤ P.length := by omega
    clear hq hb
    by_cases hlt : j < P.length
    · have hji : (j : Int) < (P.length : Int) := by omega
      have hj0 : (0 : Int) ≤ (j : Int) := by omega
      obtain ⟨b, off, hA, hcell⟩ := HC.out (by omega)
      subst hA
      obtain ⟨x1, x2, hx⟩ : ∃ x y, gP P j = (x, y) := ⟨_, _, rfl⟩
      obtain ⟨a0, a1⟩ := hcell j _ (gP_eq hlt)
      rw [hx] at a0 a1
      have p0 := (bcell HB.out _ _ (block_lt_of_cell a0)).trans a0
      have p1 := (bcell HB.out _ _ (block_lt_of_cell a1)).trans a1
      have hco := HPR.out j
      rw [hx] at hco
      have hnr := HNR.out wr (HV.out.below HB.out) x1 x2 hco
      have hdj : (nearF (dq L (x1, x2)) (segN L c0 - 1)).1 = d j := by rw [← HGG.out]; show _ = dN L c0 (gP P j); rw [hx]; rfl
      rw [hdj] at hnr
      obtain ⟨ix, hix⟩ : ∃ i : Int, (((nearF (dq L (x1, x2)) (segN L c0 - 1)).2 : Nat) : Int) = i := ⟨_, rfl⟩
      rw [hix] at hnr
      obtain ⟨B, hB⟩ : ∃ B, (wst 0 d j).1 = B := ⟨_, rfl⟩
      obtain ⟨at_, hat⟩ : ∃ a, (wst 0 d j).2 = a := ⟨_, rfl⟩
      obtain ⟨q, hqd⟩ : ∃ q, d j = q := ⟨_, rfl⟩
      have hzB : Sz 30 30 B := by rw [← hB]; exact wst_sz ((Sz.int (a := 1) (n := 0) (by decide)).mono (by omega) (by omega) : Sz 30 30 ((0 : Int) : Rat)) HSZ.out j
      have hzq : Sz 30 30 q := by rw [← hqd]; exact HSZ.out j
      rw [hB, hat]
      rw [hqd] at hnr
      have HNJ := hide hnr
      have ho := fun W => rqorder_any W ⟨(RT q).toArray⟩ ⟨(RT B).toArray⟩ q B rfl rfl (m := 30) (by omega) hzq hzB
      have hstep : wst 0 d (j + 1) = if B < q then (q, j) else (B, at_) := by
        show (if (wst 0 d j).1 < d j then (d j, j) else wst 0 d j) = _
        rw [hqd, hB, ← hB, ← hat]
      have HST := hide hstep
      obtain ⟨s, hs⟩ : ∃ s, (q.num * B.den - B.num * q.den).sign = s := ⟨_, rfl⟩
      have hss := cross_pos q B
      rw [hs] at hss ho
      have HO := hide ho
      clear hcell HC hx a0 a1 hnr hco hdj hix hB hat hqd hzB hzq hstep hs ho
      go_wp2_with fail
      refine HNJ.out.mono ?_
      rintro e w3 ⟨rfl, hb3⟩
      have HB3 := hide (HB.out.trans (hb3.mono HB.out.size))
      clear hb3 p0 p1
      go_wp2_with fail
      refine (HO.out _).mono ?_
      rintro e w4 ⟨rfl, hb4⟩
      have HB4 := hide (HB3.out.trans (hb4.mono HB3.out.size))
      clear hb4
      by_cases hBq : B < q
      · have hs0 : 0 < s := hss.2 hBq
        have HE := hide (HST.out.trans (if_pos hBq))
        clear hss hBq
        go_wp2_with fail
        go_roundg (gk - 1)
        case measure => have := HQ.out; omega
        case rel => exact ⟨j + 1, by go_num, by have := HQ.out; omega, by show Value.string _ = Value.string _; rw [HE.out], by show Value.int .i64 _ = Value.int .i64 _; rw [HE.out], HB4.out⟩
      · have hs0 : ¬ 0 < s := fun h => hBq (hss.1 h)
        have HE := hide (HST.out.trans (if_neg hBq))
        clear hss hBq
        go_wp2_with fail
        go_roundg (gk - 1)
        case measure => have := HQ.out; omega
        case rel => exact ⟨j + 1, by go_num, by have := HQ.out; omega, by show Value.string _ = Value.string _; rw [HE.out], by show Value.int .i64 _ = Value.int .i64 _; rw [HE.out], HB4.out⟩
    · have hji : ¬ (j : Int) < (P.length : Int) := by omega
      obtain rfl : j = P.length := by omega
      go_wp2_with fail
      go_ret3
      exact ⟨congrArg Ending.returned HRV.out, HB.out⟩

set_option maxRecDepth 100000 in
set_option maxHeartbeats 4000000 in
theorem rpune_bad (w : World) (v : Value) (L : List S2) (vp : Value) (P : List S2) (n m : Int) (hv : Pts w v L) (hvp : Pts w vp P) (hL : L.length ≤ 1000000000000) (_hP : P.length ≤ 1000000000000) (k : Int) (hk : k ≠ 0) (he : chkP L true = k) :
    Calls Tryz.prog 22 #[v, vp, .int .i64 n, .int .i64 m] w fun e w' => e = .returned (.tuple #[.slice none 0 0, .int .i64 k]) ∧ Below w.heap.size w w' := by
  have HV := hide hv
  have HVP := hide hvp
  obtain ⟨A, c, rfl, _⟩ := id hv
  obtain ⟨A2, c2, rfl, hcell⟩ := id hvp
  have HC := hide hcell
  clear hv hvp hcell
  have HE := hide he
  have hk0 : ¬ k = 0 := hk
  clear he hk
  go_enter Tryz.func22, Tryz.ntmps22
  go_wp2_with fail
  refine (rpcheck_any _ _ L true HV.out hL).mono ?_
  rw [HE.out]
  rintro e w1 ⟨rfl, hb1⟩
  have HB1 := hide hb1
  clear hb1
  go_wp2_with fail
  go_ret2
  exact ⟨rfl, HB1.out⟩

set_option maxRecDepth 100000 in
set_option maxHeartbeats 4000000 in
theorem rpune_bad2 (w : World) (v : Value) (L : List S2) (vp : Value) (P : List S2) (n m : Int) (hv : Pts w v L) (hvp : Pts w vp P) (hL : L.length ≤ 1000000000000) (hP : P.length ≤ 1000000000000) (k : Int) (hk : k ≠ 0) (he : chkP L true = 0) (hd : chkPtsN P = k) :
    Calls Tryz.prog 22 #[v, vp, .int .i64 n, .int .i64 m] w fun e w' => e = .returned (.tuple #[.slice none 0 0, .int .i64 k]) ∧ Below w.heap.size w w' := by
  have HV := hide hv
  have HVP := hide hvp
  obtain ⟨A, c, rfl, _⟩ := id hv
  obtain ⟨A2, c2, rfl, hcell⟩ := id hvp
  have HC := hide hcell
  clear hv hvp hcell
  have HE := hide he
  have HD := hide hd
  have hk0 : ¬ k = 0 := hk
  clear he hk hd
  go_enter Tryz.func22, Tryz.ntmps22
  go_wp2_with fail
  refine (rpcheck_any _ _ L true HV.out hL).mono ?_
  rw [HE.out]
  rintro e w1 ⟨rfl, hb1⟩
  have HB1 := hide hb1
  clear hb1
  go_wp2_with fail
  refine (rCheck_any _ _ P (HVP.out.below HB1.out) hP).mono ?_
  rw [HD.out]
  rintro e w2 ⟨rfl, hb2⟩
  have HB2 := hide (HB1.out.trans (hb2.mono HB1.out.size))
  clear hb2
  go_wp2_with fail
  go_ret2
  exact ⟨rfl, HB2.out⟩

set_option maxRecDepth 100000 in
set_option maxHeartbeats 4000000 in
theorem rpune_tol1 (w : World) (v : Value) (L : List S2) (vp : Value) (P : List S2) (n m : Int) (hv : Pts w v L) (hvp : Pts w vp P) (hL : L.length ≤ 1000000000000) (hP : P.length ≤ 1000000000000) (he : chkP L true = 0) (hd : chkPtsN P = 0) (ht : ¬ Tl n) :
    Calls Tryz.prog 22 #[v, vp, .int .i64 n, .int .i64 m] w fun e w' => e = .returned (.tuple #[.slice none 0 0, .int .i64 2]) ∧ Below w.heap.size w w' := by
  have HV := hide hv
  have HVP := hide hvp
  obtain ⟨A, c, rfl, _⟩ := id hv
  obtain ⟨A2, c2, rfl, hcell⟩ := id hvp
  have HC := hide hcell
  clear hv hvp hcell
  have HE := hide he
  have HD := hide hd
  have HT := hide (decide_eq_false ht)
  clear he hd ht
  go_enter Tryz.func22, Tryz.ntmps22
  go_wp2_with fail
  refine (rpcheck_any _ _ L true HV.out hL).mono ?_
  rw [HE.out]
  rintro e w1 ⟨rfl, hb1⟩
  have HB1 := hide hb1
  clear hb1
  go_wp2_with fail
  refine (rCheck_any _ _ P (HVP.out.below HB1.out) hP).mono ?_
  rw [HD.out]
  rintro e w2 ⟨rfl, hb2⟩
  have HB2 := hide (HB1.out.trans (hb2.mono HB1.out.size))
  clear hb2
  go_wp2_with fail
  refine (rptol_any _ n).mono ?_
  rw [HT.out]
  rintro e w3 ⟨rfl, rfl⟩
  go_wp2_with fail
  go_ret2
  exact ⟨rfl, HB2.out⟩

set_option maxRecDepth 100000 in
set_option maxHeartbeats 4000000 in
theorem rpune_tol2 (w : World) (v : Value) (L : List S2) (vp : Value) (P : List S2) (n m : Int) (hv : Pts w v L) (hvp : Pts w vp P) (hL : L.length ≤ 1000000000000) (hP : P.length ≤ 1000000000000) (he : chkP L true = 0) (hd : chkPtsN P = 0) (ht : Tl n) (hm : ¬ Tl m) :
    Calls Tryz.prog 22 #[v, vp, .int .i64 n, .int .i64 m] w fun e w' => e = .returned (.tuple #[.slice none 0 0, .int .i64 2]) ∧ Below w.heap.size w w' := by
  have HV := hide hv
  have HVP := hide hvp
  obtain ⟨A, c, rfl, _⟩ := id hv
  obtain ⟨A2, c2, rfl, hcell⟩ := id hvp
  have HC := hide hcell
  clear hv hvp hcell
  have HE := hide he
  have HD := hide hd
  have HT := hide (decide_eq_true ht)
  have HT2 := hide (decide_eq_false hm)
  clear he hd ht hm
  go_enter Tryz.func22, Tryz.ntmps22
  go_wp2_with fail
  refine (rpcheck_any _ _ L true HV.out hL).mono ?_
  rw [HE.out]
  rintro e w1 ⟨rfl, hb1⟩
  have HB1 := hide hb1
  clear hb1
  go_wp2_with fail
  refine (rCheck_any _ _ P (HVP.out.below HB1.out) hP).mono ?_
  rw [HD.out]
  rintro e w2 ⟨rfl, hb2⟩
  have HB2 := hide (HB1.out.trans (hb2.mono HB1.out.size))
  clear hb2
  go_wp2_with fail
  refine (rptol_any _ n).mono ?_
  rw [HT.out]
  rintro e w3 ⟨rfl, rfl⟩
  go_wp2_with fail
  refine (rptol_any _ m).mono ?_
  rw [HT2.out]
  rintro e w3 ⟨rfl, rfl⟩
  go_wp2_with fail
  go_ret2
  exact ⟨rfl, HB2.out⟩

set_option maxRecDepth 100000 in
set_option maxHeartbeats 4000000 in
theorem rpune_ok (w : World) (v : Value) (L : List S2) (vp : Value) (P : List S2) (n m : Int) (hv : Pts w v L) (hvp : Pts w vp P) (hL : L.length ≤ 1000000000000) (hP : P.length ≤ 1000000000000) (he : chkP L true = 0) (hd : chkPtsN P = 0) (ht : Tl n) (hm : Tl m) :
    Calls Tryz.prog 22 #[v, vp, .int .i64 n, .int .i64 m] w fun e w' => (∃ u, e = .returned (.tuple #[u, .int .i64 0]) ∧ IxL w' u (fl (uneF L P n m) P.length)) ∧ Below w.heap.size w w' := by
  obtain ⟨g1, g2, g3⟩ := chkP_zero he
  have hp3 : P.length ≤ 64 ∧ RightS P := by
    rcases chkPtsN_cases P with h | h | ⟨_, h2, h3⟩
    · rw [h] at hd; exact absurd hd (by decide)
    · rw [h] at hd; exact absurd hd (by decide)
    · exact ⟨h2, rightS_of_all h3⟩
  obtain ⟨hp1, hp2⟩ := hp3
  have HV := hide hv
  have HVP := hide hvp
  obtain ⟨A, c, rfl, _⟩ := id hv
  obtain ⟨A2, c2, rfl, hcell⟩ := id hvp
  have HC := hide hcell
  clear hv hvp hcell
  have HE := hide he
  have HD := hide hd
  have HT := hide (decide_eq_true ht)
  have HT2 := hide (decide_eq_true hm)
  have HPR := hide hp2
  have HNR := hide (fun W (hV : Pts W (.slice A L.length c) L) x y hc => rpnear_any W _ L true x y hV g1 g2 g3 hc)
  have HLO := hide (fun W (hV : Pts W (.slice A L.length c) L) x y hc => rploc_any W _ L x y hV g1 g2 g3 hc)
  have HFA := hide (fun W x y (hc : Co x ∧ Co y) => rpfar_any W ⟨(RT (dN L true (x, y))).toArray⟩ (dN L true (x, y)) n rfl ((dN_sz g3 hc).mono (by omega) (by omega)) ht)
  have HFB := hide (fun W x y (hc : Co x ∧ Co y) => rpfar_any W ⟨(RT (dN L true (x, y))).toArray⟩ (dN L true (x, y)) m rfl ((dN_sz g3 hc).mono (by omega) (by omega)) hm)
  obtain ⟨g, hg⟩ : ∃ g, uneF L P n m = g := ⟨_, rfl⟩
  have HGG := hide hg
  rw [hg]
  obtain ⟨i0, hi, hz0, hz1, hz2⟩ := info_parts info_int
  clear he hd ht hm g3 hp2 hg
  go_enter Tryz.func22, Tryz.ntmps22
  go_wp2_with fail
  refine (rpcheck_any _ _ L true HV.out hL).mono ?_
  rw [HE.out]
  rintro e w1 ⟨rfl, hb1⟩
  have HB1 := hide hb1
  clear hb1
  go_wp2_with fail
  refine (rCheck_any _ _ P (HVP.out.below HB1.out) hP).mono ?_
  rw [HD.out]
  rintro e w2 ⟨rfl, hb2⟩
  have HB2 := hide (HB1.out.trans (hb2.mono HB1.out.size))
  clear hb2
  go_wp2_with fail
  refine (rptol_any _ n).mono ?_
  rw [HT.out]
  rintro e w3 ⟨rfl, rfl⟩
  go_wp2_with fail
  refine (rptol_any _ m).mono ?_
  rw [HT2.out]
  rintro e w3 ⟨rfl, rfl⟩
  have HBS := HB2
  go_wp2_with fail
  go_loopg [12, 13] P.length (fun q ov iv wr => ∃ j : Nat, iv = .int .i64 (j : Int) ∧ q + j = P.length ∧ wr.ownsRow w.heap.size 3 1 ov (fl g j).length (icl (fl g j)) ∧ Below w.heap.size w wr)
  case atStart => exact ⟨0, rfl, by omega, World.ownsRow_nil _ _ _ _, HBS.out⟩
  case round =>
    obtain ⟨j, rfl, hq, hown, hb⟩ := hrel
    have HQ := hide hq
    have HOWN := hide hown
    have HB := hide hb
    have hjle : j ≤ P.length := by omega
    clear hq hown hb
    by_cases hlt : j < P.length
    · have hji : (j : Int) < (P.length : Int) := by omega
      have hj0 : (0 : Int) ≤ (j : Int) := by omega
      obtain ⟨b, off, hA, hcell⟩ := HC.out (by omega)
      subst hA
      obtain ⟨x1, x2, hx⟩ : ∃ x y, gP P j = (x, y) := ⟨_, _, rfl⟩
      obtain ⟨a0, a1⟩ := hcell j _ (gP_eq hlt)
      rw [hx] at a0 a1
      have p0 := (bcell HB.out _ _ (block_lt_of_cell a0)).trans a0
      have p1 := (bcell HB.out _ _ (block_lt_of_cell a1)).trans a1
      have hco := HPR.out j
      rw [hx] at hco
      have hnr := HNR.out wr (HV.out.below HB.out) x1 x2 hco
      have hdx : (nearF (dq L (x1, x2)) (segN L true - 1)).1 = dN L true (x1, x2) := rfl
      rw [hdx] at hnr
      have hlo := fun W hV => HLO.out W hV x1 x2 hco
      have hfa := fun W => HFA.out W x1 x2 hco
      have hfb := fun W => HFB.out W x1 x2 hco
      have hgj : uneB (dN L true (x1, x2)) (locP L (x1, x2)) n m = g j := by rw [← HGG.out, ← hx]; rfl
      have hor := locP_or L (x1, x2)
      obtain ⟨s, hs⟩ : ∃ s : ByteArray, (⟨(RT (dN L true (x1, x2))).toArray⟩ : ByteArray) = s := ⟨_, rfl⟩
      rw [hs] at hnr hfa hfb
      obtain ⟨fn, hfn⟩ : ∃ f, farQ (dN L true (x1, x2)) n = f := ⟨_, rfl⟩
      obtain ⟨fm, hfm⟩ : ∃ f, farQ (dN L true (x1, x2)) m = f := ⟨_, rfl⟩
      unfold uneB at hgj
      rw [hfn] at hfa hgj
      rw [hfm] at hfb hgj
      obtain ⟨sd, hsd⟩ : ∃ z, locP L (x1, x2) = z := ⟨_, rfl⟩
      rw [hsd] at hlo hgj hor
      obtain ⟨ix, hix⟩ : ∃ i : Int, (((nearF (dq L (x1, x2)) (segN L true - 1)).2 : Nat) : Int) = i := ⟨_, rfl⟩
      rw [hix] at hnr
      have hfs := fl_succ g j
      have hfl := fl_length g j
      have HFS := hide hfs
      have HNJ := hide hnr
      have HLJ := hide hlo
      have HFn := hide hfa
      have HFm := hide hfb
      clear hcell HC hx a0 a1 hfs hco hnr hlo hfa hfb hs hfn hfm hsd hix hdx HNR HLO HFA HFB
      go_wp2_with fail
      refine HNJ.out.mono ?_
      rintro e w2b ⟨rfl, hb3⟩
      have q0 := (bcell hb3 _ _ (block_lt_of_cell p0)).trans p0
      have q1 := (bcell hb3 _ _ (block_lt_of_cell p1)).trans p1
      have HB2b := hide (HB.out.trans (hb3.mono HB.out.size))
      have HOW2 := hide (owns_below HOWN.out hb3)
      clear hb3 p0 p1
      go_wp2_with fail
      refine (HLJ.out _ (HV.out.below HB2b.out)).mono ?_
      rintro e w3 ⟨rfl, hb3⟩
      have HB3 := hide (HB2b.out.trans (hb3.mono HB2b.out.size))
      have hown := owns_below HOW2.out hb3
      clear hb3 q0 q1
      rcases hor with rfl | rfl | rfl
      · have hgf : g j = false := hgj.symm
        rw [hgf] at HFS
        clear hgj hgf
        rw [if_neg (by simp)] at HFS
        have HOW3 := hide hown
        clear hown
        go_wp2_with fail
        go_roundg (gk - 1)
        case measure => have := HQ.out; omega
        case rel => exact ⟨j + 1, by go_num, by have := HQ.out; omega, by rw [HFS.out]; exact HOW3.out, HB3.out⟩
      · have hgf : g j = fn := by rw [← hgj]; cases fn <;> cases fm <;> rfl
        rw [hgf] at HFS
        clear hgj hgf
        go_wp2_with fail
        refine (HFn.out w3).mono ?_
        rintro e w5 ⟨rfl, hb5⟩
        have HB5 := hide (HB3.out.trans (hb5.mono HB3.out.size))
        have hown := owns_below hown hb5
        clear hb5 HB3
        have HB3 := HB5
        clear HB5
        generalize w5 = w3 at *
        cases fn
        · skip
          rw [if_neg (by simp)] at HFS
          have HOW3 := hide hown
          clear hown
          go_wp2_with fail
          go_roundg (gk - 1)
          case measure => have := HQ.out; omega
          case rel => exact ⟨j + 1, by go_num, by have := HQ.out; omega, by rw [HFS.out]; exact HOW3.out, HB3.out⟩
        · skip
          rw [if_pos rfl] at HFS
          go_wp2_with (at_builtin; refine wpList_append_own _ rfl _ _ 48 rfl w.heap.size 3 i0 (.int .i64 0) 1 8 Tryz.underlying48 hi hz0 hz1 hz2 rfl (by decide) _ _ _ rfl (hown.alloc _) ⟨w3.heap.size, 0, none⟩ 1 1 [.int .i64 (j : Int)] rfl rfl ?d1 ?d2 ?d3 ?d4 ?d5 ?_)
          case d1 =>
            intro i u hj
            match i, hj with
            | 0, hj => simp at hj; subst hj; simp [Addr.add]
          case d2 => intro u hu; simp at hu; subst hu; rfl
          case d3 => unfold maxLen; omega
          case d4 => omega
          case d5 => have := HB3.out.size; simp; omega
          intro v' w4 hown' hgrow _
          rw [icl_snoc, ← HFS.out] at hown'
          have hb4 : Below w.heap.size w w4 := (HB3.out.alloc HB3.out.size _).grown hgrow (by have := HB3.out.size; simp; omega) (fun k e => (hown.lt k e).1)
          have hlen : (fl g j).length + 1 = (fl g (j + 1)).length := by rw [HFS.out]; simp
          rw [hlen] at hown'
          have HOW4 := hide hown'
          have HB4 := hide hb4
          clear hown' hgrow hb4 hown
          go_wp2_with fail
          go_roundg (gk - 1)
          case measure => have := HQ.out; omega
          case rel => exact ⟨j + 1, by go_num, by have := HQ.out; omega, HOW4.out, HB4.out⟩
      · have hgf : g j = fm := by rw [← hgj]; cases fn <;> cases fm <;> rfl
        rw [hgf] at HFS
        clear hgj hgf
        go_wp2_with fail
        refine (HFm.out w3).mono ?_
        rintro e w5 ⟨rfl, hb5⟩
        have HB5 := hide (HB3.out.trans (hb5.mono HB3.out.size))
        have hown := owns_below hown hb5
        clear hb5 HB3
        have HB3 := HB5
        clear HB5
        generalize w5 = w3 at *
        cases fm
        · skip
          rw [if_neg (by simp)] at HFS
          have HOW3 := hide hown
          clear hown
          go_wp2_with fail
          go_roundg (gk - 1)
          case measure => have := HQ.out; omega
          case rel => exact ⟨j + 1, by go_num, by have := HQ.out; omega, by rw [HFS.out]; exact HOW3.out, HB3.out⟩
        · skip
          rw [if_pos rfl] at HFS
          go_wp2_with (at_builtin; refine wpList_append_own _ rfl _ _ 48 rfl w.heap.size 3 i0 (.int .i64 0) 1 8 Tryz.underlying48 hi hz0 hz1 hz2 rfl (by decide) _ _ _ rfl (hown.alloc _) ⟨w3.heap.size, 0, none⟩ 1 1 [.int .i64 (j : Int)] rfl rfl ?d1 ?d2 ?d3 ?d4 ?d5 ?_)
          case d1 =>
            intro i u hj
            match i, hj with
            | 0, hj => simp at hj; subst hj; simp [Addr.add]
          case d2 => intro u hu; simp at hu; subst hu; rfl
          case d3 => unfold maxLen; omega
          case d4 => omega
          case d5 => have := HB3.out.size; simp; omega
          intro v' w4 hown' hgrow _
          rw [icl_snoc, ← HFS.out] at hown'
          have hb4 : Below w.heap.size w w4 := (HB3.out.alloc HB3.out.size _).grown hgrow (by have := HB3.out.size; simp; omega) (fun k e => (hown.lt k e).1)
          have hlen : (fl g j).length + 1 = (fl g (j + 1)).length := by rw [HFS.out]; simp
          rw [hlen] at hown'
          have HOW4 := hide hown'
          have HB4 := hide hb4
          clear hown' hgrow hb4 hown
          go_wp2_with fail
          go_roundg (gk - 1)
          case measure => have := HQ.out; omega
          case rel => exact ⟨j + 1, by go_num, by have := HQ.out; omega, HOW4.out, HB4.out⟩
    · have hji : ¬ (j : Int) < (P.length : Int) := by omega
      obtain rfl : j = P.length := by omega
      have hin := IxL.of_row HOWN.out rfl
      obtain ⟨A3, c3, rfl⟩ := hin.shape
      have HIN := hide hin
      clear hin
      go_wp2_with fail
      go_ret2
      exact ⟨⟨_, rfl, HIN.out⟩, HB.out⟩

theorem rpout_any (w : World) (v : Value) (L : List S2) (c0 : Bool) (vp : Value) (P : List S2) (n : Int) (hv : Pts w v L) (hvp : Pts w vp P) (hL : L.length ≤ 1000000000000) (hP : P.length ≤ 1000000000000) :
    Calls Tryz.prog 25 #[v, .bool c0, vp, .int .i64 n] w fun e w' => (∃ u, e = .returned (.tuple #[u, .int .i64 (outE L c0 P n)]) ∧ IxL w' u (outL L c0 P n)) ∧ Below w.heap.size w w' := by
  have nl : ∀ k, k ≠ 0 → outE L c0 P n = k → outL L c0 P n = [] := fun k hk h => by unfold outL; rw [if_neg (by rw [h]; exact hk)]
  by_cases h : chkP L c0 = 0
  · by_cases hd : chkPtsN P = 0
    · by_cases ht : Tl n
      · have e0 : outE L c0 P n = 0 := by unfold outE; rw [if_pos h, if_pos hd, if_pos ht]
        have e1 : outL L c0 P n = fl (outF L c0 P n) P.length := by unfold outL; rw [if_pos e0]
        rw [e0, e1]
        exact rpout_ok w v L c0 vp P n hv hvp hL hP h hd ht
      · have e0 : outE L c0 P n = 2 := by unfold outE; rw [if_pos h, if_pos hd, if_neg ht]
        rw [e0, nl 2 (by decide) e0]
        exact (rpout_tol w v L c0 vp P n hv hvp hL hP h hd ht).mono (by rintro e W' ⟨rfl, hb⟩; exact ⟨⟨_, rfl, IxL.nil _⟩, hb⟩)
    · have e0 : outE L c0 P n = chkPtsN P := by unfold outE; rw [if_pos h, if_neg hd]
      rw [nl _ hd e0, e0]
      exact (rpout_bad2 w v L c0 vp P n hv hvp hL hP _ hd h rfl).mono (by rintro e W' ⟨rfl, hb⟩; exact ⟨⟨_, rfl, IxL.nil _⟩, hb⟩)
  · have e0 : outE L c0 P n = chkP L c0 := by unfold outE; rw [if_neg h]
    rw [nl _ h e0, e0]
    exact (rpout_bad w v L c0 vp P n hv hvp hL hP _ h rfl).mono (by rintro e W' ⟨rfl, hb⟩; exact ⟨⟨_, rfl, IxL.nil _⟩, hb⟩)
theorem rpune_any (w : World) (v : Value) (L : List S2) (vp : Value) (P : List S2) (n m : Int) (hv : Pts w v L) (hvp : Pts w vp P) (hL : L.length ≤ 1000000000000) (hP : P.length ≤ 1000000000000) :
    Calls Tryz.prog 22 #[v, vp, .int .i64 n, .int .i64 m] w fun e w' => (∃ u, e = .returned (.tuple #[u, .int .i64 (uneE L P n m)]) ∧ IxL w' u (uneL L P n m)) ∧ Below w.heap.size w w' := by
  have nl : ∀ k, k ≠ 0 → uneE L P n m = k → uneL L P n m = [] := fun k hk h => by unfold uneL; rw [if_neg (by rw [h]; exact hk)]
  by_cases h : chkP L true = 0
  · by_cases hd : chkPtsN P = 0
    · by_cases ht : Tl n
      · by_cases hm : Tl m
        · have e0 : uneE L P n m = 0 := by unfold uneE; rw [if_pos h, if_pos hd, if_pos ⟨ht, hm⟩]
          have e1 : uneL L P n m = fl (uneF L P n m) P.length := by unfold uneL; rw [if_pos e0]
          rw [e0, e1]
          exact rpune_ok w v L vp P n m hv hvp hL hP h hd ht hm
        · have e0 : uneE L P n m = 2 := by unfold uneE; rw [if_pos h, if_pos hd, if_neg (fun h => hm h.2)]
          rw [e0, nl 2 (by decide) e0]
          exact (rpune_tol2 w v L vp P n m hv hvp hL hP h hd ht hm).mono (by rintro e W' ⟨rfl, hb⟩; exact ⟨⟨_, rfl, IxL.nil _⟩, hb⟩)
      · have e0 : uneE L P n m = 2 := by unfold uneE; rw [if_pos h, if_pos hd, if_neg (fun h => ht h.1)]
        rw [e0, nl 2 (by decide) e0]
        exact (rpune_tol1 w v L vp P n m hv hvp hL hP h hd ht).mono (by rintro e W' ⟨rfl, hb⟩; exact ⟨⟨_, rfl, IxL.nil _⟩, hb⟩)
    · have e0 : uneE L P n m = chkPtsN P := by unfold uneE; rw [if_pos h, if_neg hd]
      rw [nl _ hd e0, e0]
      exact (rpune_bad2 w v L vp P n m hv hvp hL hP _ hd h rfl).mono (by rintro e W' ⟨rfl, hb⟩; exact ⟨⟨_, rfl, IxL.nil _⟩, hb⟩)
  · have e0 : uneE L P n m = chkP L true := by unfold uneE; rw [if_neg h]
    rw [nl _ h e0, e0]
    exact (rpune_bad w v L vp P n m hv hvp hL hP _ h rfl).mono (by rintro e W' ⟨rfl, hb⟩; exact ⟨⟨_, rfl, IxL.nil _⟩, hb⟩)
end Go.Proofs.YtendaaghmeoddaaGreatDoor
