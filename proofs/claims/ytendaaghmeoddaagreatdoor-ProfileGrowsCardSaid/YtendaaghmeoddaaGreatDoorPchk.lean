/- profile.Check: a range over the segments, with an early return. -/
import Derived.Test.YtendaaghmeoddaaGreatDoorPloc
import Derived.Test.YtendaaghmeoddaaGreatDoorRpchk
import Derived.Test.YtendaaghmeoddaaGreatDoorChks
namespace Go.Proofs.YtendaaghmeoddaaGreatDoor
open Go.RowKit Go.Shelf MLab
attribute [local go_sem] Oper.semAt_some

set_option maxRecDepth 100000 in
set_option maxHeartbeats 2000000 in
theorem pcheck_bad (w : World) (v : Value) (L : List S2) (c0 : Bool) (hv : Pts w v L) (hL : L.length ≤ 1000000000000) (n : Int) (hn : chkPtsN L = n) (h0 : n ≠ 0) :
    Calls Tryz.prog 19 #[v, .bool c0] w fun e w' => e = .returned (.int .i64 n) ∧ Below w.heap.size w w' := by
  have HN := hide hn
  have h0i : ¬ n = 0 := h0
  clear hn
  have hA0 : Below w.heap.size w (w.alloc (.cells #[.int .i64 0] 27)) := allocs_below w [_]
  have HCK := hide (Check_any _ _ L (hv.below hA0) hL)
  have HA0 := hide hA0
  obtain ⟨A, c, rfl, _⟩ := id hv
  clear hv hA0
  go_enter Tryz.func19, Tryz.ntmps19
  go_wp2_with fail
  refine HCK.out.mono ?_
  rw [HN.out]
  rintro e w1 ⟨rfl, hb1⟩
  have bR : Boxed w1 w.heap.size 27 (.int .i64 0) := Boxed.keptL (Boxed.new w 27 (.int .i64 0)) hb1
  have cR := bR.cell
  have fR := bR.frozen
  have HB1 := hide (HA0.out.trans (hb1.mono HA0.out.size))
  clear hb1
  go_wp2_with fail
  have hc5 := (bR.set (.int .i64 (n))).cell
  exact bodyPost_ret (v := .int .i64 n) (by simp [results, Tryz.results19, go_sem, hc5]) rfl ⟨rfl, HB1.out.setCell (p := ⟨w.heap.size, 0, none⟩) (Nat.le_refl _) _⟩

set_option maxRecDepth 100000 in
set_option maxHeartbeats 2000000 in
theorem pcheck_few2 (w : World) (v : Value) (L : List S2) (c0 : Bool) (hv : Pts w v L) (hL : L.length ≤ 1000000000000) (hn : chkPtsN L = 0) (h2 : L.length < 2) :
    Calls Tryz.prog 19 #[v, .bool c0] w fun e w' => e = .returned (.int .i64 13) ∧ Below w.heap.size w w' := by
  have HN := hide hn
  have h2i : (L.length : Int) < 2 := by omega
  clear hn
  have hA0 : Below w.heap.size w (w.alloc (.cells #[.int .i64 0] 27)) := allocs_below w [_]
  have HCK := hide (Check_any _ _ L (hv.below hA0) hL)
  have HA0 := hide hA0
  obtain ⟨A, c, rfl, _⟩ := id hv
  clear hv hA0
  go_enter Tryz.func19, Tryz.ntmps19
  go_wp2_with fail
  refine HCK.out.mono ?_
  rw [HN.out]
  rintro e w1 ⟨rfl, hb1⟩
  have bR : Boxed w1 w.heap.size 27 (.int .i64 0) := Boxed.keptL (Boxed.new w 27 (.int .i64 0)) hb1
  have cR := bR.cell
  have fR := bR.frozen
  have HB1 := hide (HA0.out.trans (hb1.mono HA0.out.size))
  clear hb1
  go_wp2_with fail
  have hc5 := (bR.set (.int .i64 (13))).cell
  exact bodyPost_ret (v := .int .i64 13) (by simp [results, Tryz.results19, go_sem, hc5]) rfl ⟨rfl, HB1.out.setCell (p := ⟨w.heap.size, 0, none⟩) (Nat.le_refl _) _⟩

set_option maxRecDepth 100000 in
set_option maxHeartbeats 2000000 in
theorem pcheck_few3 (w : World) (v : Value) (L : List S2) (c0 : Bool) (hv : Pts w v L) (hL : L.length ≤ 1000000000000) (hn : chkPtsN L = 0) (h2 : ¬ L.length < 2) (h3 : L.length < 3) (hc : c0 = true) :
    Calls Tryz.prog 19 #[v, .bool c0] w fun e w' => e = .returned (.int .i64 13) ∧ Below w.heap.size w w' := by
  subst hc
  have HN := hide hn
  have h2i : ¬ (L.length : Int) < 2 := by omega
  have h3i : (L.length : Int) < 3 := by omega
  clear hn
  have hA0 : Below w.heap.size w (w.alloc (.cells #[.int .i64 0] 27)) := allocs_below w [_]
  have HCK := hide (Check_any _ _ L (hv.below hA0) hL)
  have HA0 := hide hA0
  obtain ⟨A, c, rfl, _⟩ := id hv
  clear hv hA0
  go_enter Tryz.func19, Tryz.ntmps19
  go_wp2_with fail
  refine HCK.out.mono ?_
  rw [HN.out]
  rintro e w1 ⟨rfl, hb1⟩
  have bR : Boxed w1 w.heap.size 27 (.int .i64 0) := Boxed.keptL (Boxed.new w 27 (.int .i64 0)) hb1
  have cR := bR.cell
  have fR := bR.frozen
  have HB1 := hide (HA0.out.trans (hb1.mono HA0.out.size))
  clear hb1
  go_wp2_with fail
  have hc5 := (bR.set (.int .i64 (13))).cell
  exact bodyPost_ret (v := .int .i64 13) (by simp [results, Tryz.results19, go_sem, hc5]) rfl ⟨rfl, HB1.out.setCell (p := ⟨w.heap.size, 0, none⟩) (Nat.le_refl _) _⟩

set_option maxRecDepth 100000 in
set_option maxHeartbeats 4000000 in
theorem pcheck_ok_true (w : World) (v : Value) (L : List S2) (hv : Pts w v L) (hL : L.length ≤ 64) (hn : chkPtsN L = 0) (h2 : 2 ≤ L.length) (h3 : 3 ≤ L.length) :
    Calls Tryz.prog 19 #[v, .bool true] w fun e w' => e = .returned (.int .i64 (if twiceB L true = true then 7 else 0)) ∧ Below w.heap.size w w' := by
  obtain ⟨R, hR⟩ : ∃ R : Int, (if twiceB L true = true then 7 else 0) = R := ⟨_, rfl⟩
  rw [hR]
  have HR := hide hR
  clear hR
  have HN := hide hn
  have hlow : ∀ b off len cap, v = .slice (some ⟨b, off, none⟩) len cap → 0 < len → b < w.heap.size := by
    obtain ⟨A, c, rfl, hc⟩ := hv
    intro b off len cap h h0
    obtain ⟨rfl, rfl, rfl⟩ : A = some ⟨b, off, none⟩ ∧ L.length = len ∧ c = cap := by simpa using h
    obtain ⟨b', off', hA, hcell⟩ := hc h0
    obtain ⟨rfl, rfl⟩ : b = b' ∧ off = off' := by simpa using hA
    exact block_lt_of_cell (hcell 0 _ (gP_eq h0)).1
  have HV := hide hv
  obtain ⟨A, c, rfl, _⟩ := id hv
  have h2i : ¬ (L.length : Int) < 2 := by omega
  have h3i : ¬ (L.length : Int) < 3 := by omega
  have HLOW := hide hlow
  clear hv hlow hn
  have hA0 : Below w.heap.size w (w.alloc (.cells #[.int .i64 0] 27)) := allocs_below w [_]
  have HA0 := hide hA0
  have HCK := hide (Check_any _ _ L (HV.out.below hA0) (by omega))
  clear hA0
  refine (callsIn_wide (n := 6)).1 ?_
  refine callsIn_of_wp_marks Tryz.func19 rfl trivial ?_ rfl
  simp only [Tryz.ntmps19, List.size_toArray, List.length_cons, List.length_nil, Nat.reduceAdd, Nat.reduceSub, Array.replicate_succ, Array.replicate_zero, List.push_toArray, List.append_toArray, List.nil_append, List.cons_append]
  refine wpIn_wide.2 ?_
  go_wp2_with fail
  refine HCK.out.mono ?_
  rw [HN.out]
  rintro e w1 ⟨rfl, hb1⟩
  have bR : Boxed w1 w.heap.size 27 (.int .i64 0) := Boxed.keptL (Boxed.new w 27 (.int .i64 0)) hb1
  have HB1 := hide (HA0.out.trans (hb1.mono HA0.out.size))
  have hs1 : w.heap.size < w1.heap.size := by have := hb1.size; simp at this; omega
  clear hb1
  go_wp2_with fail
  refine (segments_any _ _ _ _ _).mono ?_
  rintro e w2 ⟨rfl, rfl⟩
  go_wp2_with fail
  have hB0 : Below w1.heap.size w1 ((w1.alloc (.cells #[.slice A L.length c] 22)).alloc (.cells #[.bool true] 4)) := allocs_below w1 [_, _]
  have bR0 := (bR.alloc (.cells #[.slice A L.length c] 22)).alloc (.cells #[.bool true] 4)
  have bV := (Boxed.new w1 22 (.slice A L.length c)).alloc (.cells #[.bool true] 4)
  have bC := Boxed.new (w1.alloc (.cells #[.slice A L.length c] 22)) 4 (.bool true)
  simp only [World.size_alloc] at bC
  have hsz : ((w1.alloc (.cells #[.slice A L.length c] 22)).alloc (.cells #[.bool true] 4)).heap.size = w1.heap.size + 2 := by simp
  obtain ⟨W0, hW0⟩ : ∃ W0, (w1.alloc (.cells #[.slice A L.length c] 22)).alloc (.cells #[.bool true] 4) = W0 := ⟨_, rfl⟩
  rw [hW0] at bR0 bV bC hB0 hsz ⊢
  clear hW0 bR
  have hBw : Below w.heap.size w W0 := HB1.out.trans (hB0.mono HB1.out.size)
  refine (wpIn_wide (n := 6)).1 ?_
  refine wpIn_rangeFunc_ownH rfl (by omega) (gf := 95) (lb := #[.pointer (some ⟨w1.heap.size, 0, none⟩), .pointer (some ⟨w1.heap.size + 1, 0, none⟩)]) rfl trivial (enters_of Tryz.func95 (by kernel_rfl) rfl)
    (segments_stops 5 (by omega) w1.heap.size (w1.heap.size + 1) w.heap.size (.slice A L.length c) L true hL W0 (by omega) bV.cell bC.cell (HV.out.below hBw) HLOW.out) KpS.trans (KpS.put (by omega)) (Below.refl _ _) (fun _ => rfl)
    (fun pre W => Boxed W w.heap.size 27 (.int .i64 0) ∧ (∀ i, i ∈ pre → gP L i ≠ nx L i) ∧ Below w.heap.size w W)
    (fun cd pre W => cd = .ret ∧ (∃ i, i ∈ pre ∧ gP L i = nx L i) ∧ Boxed W w.heap.size 27 (.int .i64 7) ∧ Below w.heap.size w W)
    (fun pre X Y row hs hg hr => ?own)
    (fun cd pre X Y row hs hg hr => ?ownx)
    ⟨bR0, fun _ h => absurd h (by simp), hBw⟩
    (fun x a' W => ∃ B9, Blk W B9 89 #[.int .i64 (gP L x).1, .int .i64 (gP L x).2, .int .i64 (nx L x).1, .int .i64 (nx L x).2] ∧ a' = { tmps := #[.slice A L.length c, .bool true, undef, undef, .pointer (some ⟨w.heap.size, 0, none⟩), .int .i64 0, undef, .pointer (some ⟨B9, 0, none⟩), .slice A L.length c, .int .i64 0, .int .i64 0, .bool false, undef, .slice A L.length c, .int .i64 (L.length : Int), .bool (decide ((L.length : Int) < 2)), .bool (decide ((L.length : Int) < 2)), .bool true, .bool true, .slice A L.length c, .int .i64 (L.length : Int), .bool (decide ((L.length : Int) < 3)), .bool (decide ((L.length : Int) < 3)), .bool (decide ((L.length : Int) < 2) || decide ((L.length : Int) < 3)), .slice A L.length c, .bool true, .func (.func 95) #[] #[.pointer (some ⟨w1.heap.size, 0, none⟩), .pointer (some ⟨w1.heap.size + 1, 0, none⟩)], .int .i64 (x : Int), .agg #[.int .i64 (gP L x).1, .int .i64 (gP L x).2, .int .i64 (nx L x).1, .int .i64 (nx L x).2], undef, undef, undef, undef, undef], defers := [] })
    (fun x a' _ X Y row hs hg hr => by
      obtain ⟨B9, h1, h3⟩ := hs
      refine ⟨B9, h1.grown hg (fun e => ?_), h3⟩
      obtain ⟨o, ho, hc⟩ := (hr B9 e.symm).2; rw [show X.heap[B9]? = _ from h1] at ho; cases ho; cases hc)
    ?assign ?body ?done ?stop
  case own =>
    obtain ⟨h1, h2, h3⟩ := hs
    exact ⟨(boxed_own (β := Unit) _ _ (fun _ => _)) () X Y row h1 hg (fun r e => (hr r e).2), h2, (ownFrom_below (β := Unit) (Nat.le_refl _) (by omega)) () X Y row h3 hg hr⟩
  case ownx =>
    obtain ⟨h0, h2, h1, h3⟩ := hs
    exact ⟨h0, h2, (boxed_own (β := Unit) _ _ (fun _ => _)) () X Y row h1 hg (fun r e => (hr r e).2), (ownFrom_below (β := Unit) (Nat.le_refl _) (by omega)) () X Y row h3 hg hr⟩
  case assign =>
    rintro l pre x W K ⟨b1, hne, hB1⟩ hK
    simp only [encS]
    gi_wp2
    have hA2 := allocs_below W [.cells #[.int .i64 (gP L x).1, .int .i64 (gP L x).2, .int .i64 (nx L x).1, .int .i64 (nx L x).2] 89]
    refine hK _ _ (keepsFrom_below hA2) (KpS.of_below hB1.size hA2) ⟨b1.alloc _, hne, hB1.trans (hA2.mono hB1.size)⟩ ⟨W.heap.size, Blk.new W _ _, rfl⟩
  case body =>
    rintro l pre x a' W hl _ ⟨b1, hne, hB1⟩ ⟨B9, h9, rfl⟩ hlt
    have HNE := hide hne
    have HB1' := hide hB1
    obtain ⟨p, hp⟩ : ∃ p, gP L x = p := ⟨_, rfl⟩
    obtain ⟨q, hq⟩ : ∃ q, nx L x = q := ⟨_, rfl⟩
    rw [hp, hq] at h9 ⊢
    have HPX := hide hp
    have HQX := hide hq
    obtain ⟨x1, x2⟩ := p
    obtain ⟨y1, y2⟩ := q
    dsimp only at h9 ⊢
    have c90 := (Blk.cell h9 0).trans rfl
    have c91 := (Blk.cell h9 1).trans rfl
    have c92 := (Blk.cell h9 2).trans rfl
    have c93 := (Blk.cell h9 3).trans rfl
    have cR := b1.cell
    have fR := b1.frozen
    clear hne hB1 hp hq
    by_cases e1 : x1 = y1
    · by_cases e2 : x2 = y2
      · subst e1 e2
        gi_wp2
        all_goals (try go_bits)
        exact ⟨(KeepsOthers.setCell _ _ _).from _, rfl, ⟨x, by simp, by rw [HPX.out, HQX.out]⟩, b1.set _, HB1'.out.setCell (p := ⟨w.heap.size, 0, none⟩) (Nat.le_refl _) _⟩
      · subst e1
        have f2 : (x2 = y2) = False := eq_false e2
        have HE := hide e2
        clear e2
        gi_wp2
        all_goals (try go_bits)
        refine ⟨keepsFrom_below (Below.refl _ _), KpS.of_below HB1'.out.size (Below.refl _ _), b1, fun i hi => ?_, HB1'.out⟩
        rcases List.mem_append.1 hi with hi | hi
        · exact HNE.out i hi
        · obtain rfl := List.mem_singleton.1 hi
          rw [HPX.out, HQX.out]; intro h; exact HE.out (Prod.mk.inj h).2
    · have f1 : (x1 = y1) = False := eq_false e1
      have HE := hide e1
      clear e1
      gi_wp2
      all_goals (try go_bits)
      refine ⟨keepsFrom_below (Below.refl _ _), KpS.of_below HB1'.out.size (Below.refl _ _), b1, fun i hi => ?_, HB1'.out⟩
      rcases List.mem_append.1 hi with hi | hi
      · exact HNE.out i hi
      · obtain rfl := List.mem_singleton.1 hi
        rw [HPX.out, HQX.out]; intro h; exact HE.out (Prod.mk.inj h).1
  case done =>
    rintro E ys W hE rfl ⟨b1, hne, hB1⟩ hK
    have cR := b1.cell
    have fR := b1.frozen
    have htw : twiceB L true = false := twice_no fun i hi => hne i (List.mem_range.2 hi)
    have HTW := hide htw
    have HBX := hide hB1
    have HKX := hide hK
    clear htw hne hB1 hK
    go_wp2_with fail
    have hK' := (KeepsOthers.setCell W ⟨w.heap.size, 0, none⟩ (.int .i64 0)).same E _ HKX.out rfl
    refine ⟨by simp, .inl ⟨_, _, rfl, run_takeDeferred hK', ?_⟩⟩
    have hc5 := cell_kept (b1.set (.int .i64 0)).cell (grownBy_putObj' _ E (.deferred none)) (fun r e => by cases e; exact ⟨_, hK', rfl⟩)
    refine ⟨.int .i64 0, ?_, by rw [← HR.out, HTW.out]; rfl, (HBX.out.setCell (p := ⟨w.heap.size, 0, none⟩) (Nat.le_refl _) _).trans (belowK_b (w := w) (Nat.le_refl _) _ E _ _ (by omega) hK' rfl rfl)⟩
    simp [results, Tryz.results19, go_sem, hc5]
  case stop =>
    rintro E c2 pre W hE hpre ⟨rfl, ⟨i, hi, he⟩, b1, hB1⟩ hK
    have htw : twiceB L true = true := by
      obtain ⟨k, hk, rfl⟩ := hpre
      have hik : i < k + 1 := by rw [← List.range_succ] at hi; exact List.mem_range.1 hi
      exact twice_yes (by omega) he
    have HTW := hide htw
    have HBX := hide hB1
    have HKX := hide hK
    clear htw hi he hB1 hK hpre
    gi_wp2
    refine ⟨by simp, .inl ⟨_, _, rfl, run_takeDeferred HKX.out, ?_⟩⟩
    have hc5 := cell_kept b1.cell (grownBy_putObj' _ E (.deferred none)) (fun r e => by cases e; exact ⟨_, HKX.out, rfl⟩)
    refine ⟨.int .i64 7, ?_, by rw [← HR.out, HTW.out]; rfl, HBX.out.trans (belowK_b (w := w) (Nat.le_refl _) W E _ _ (by omega) HKX.out rfl rfl)⟩
    simp [results, Tryz.results19, go_sem, hc5]

set_option maxRecDepth 100000 in
set_option maxHeartbeats 4000000 in
theorem pcheck_ok_false (w : World) (v : Value) (L : List S2) (hv : Pts w v L) (hL : L.length ≤ 64) (hn : chkPtsN L = 0) (h2 : 2 ≤ L.length) :
    Calls Tryz.prog 19 #[v, .bool false] w fun e w' => e = .returned (.int .i64 (if twiceB L false = true then 7 else 0)) ∧ Below w.heap.size w w' := by
  obtain ⟨R, hR⟩ : ∃ R : Int, (if twiceB L false = true then 7 else 0) = R := ⟨_, rfl⟩
  rw [hR]
  have HR := hide hR
  clear hR
  have HN := hide hn
  have hlow : ∀ b off len cap, v = .slice (some ⟨b, off, none⟩) len cap → 0 < len → b < w.heap.size := by
    obtain ⟨A, c, rfl, hc⟩ := hv
    intro b off len cap h h0
    obtain ⟨rfl, rfl, rfl⟩ : A = some ⟨b, off, none⟩ ∧ L.length = len ∧ c = cap := by simpa using h
    obtain ⟨b', off', hA, hcell⟩ := hc h0
    obtain ⟨rfl, rfl⟩ : b = b' ∧ off = off' := by simpa using hA
    exact block_lt_of_cell (hcell 0 _ (gP_eq h0)).1
  have HV := hide hv
  obtain ⟨A, c, rfl, _⟩ := id hv
  have h2i : ¬ (L.length : Int) < 2 := by omega
  skip
  have HLOW := hide hlow
  clear hv hlow hn
  have hA0 : Below w.heap.size w (w.alloc (.cells #[.int .i64 0] 27)) := allocs_below w [_]
  have HA0 := hide hA0
  have HCK := hide (Check_any _ _ L (HV.out.below hA0) (by omega))
  clear hA0
  refine (callsIn_wide (n := 6)).1 ?_
  refine callsIn_of_wp_marks Tryz.func19 rfl trivial ?_ rfl
  simp only [Tryz.ntmps19, List.size_toArray, List.length_cons, List.length_nil, Nat.reduceAdd, Nat.reduceSub, Array.replicate_succ, Array.replicate_zero, List.push_toArray, List.append_toArray, List.nil_append, List.cons_append]
  refine wpIn_wide.2 ?_
  go_wp2_with fail
  refine HCK.out.mono ?_
  rw [HN.out]
  rintro e w1 ⟨rfl, hb1⟩
  have bR : Boxed w1 w.heap.size 27 (.int .i64 0) := Boxed.keptL (Boxed.new w 27 (.int .i64 0)) hb1
  have HB1 := hide (HA0.out.trans (hb1.mono HA0.out.size))
  have hs1 : w.heap.size < w1.heap.size := by have := hb1.size; simp at this; omega
  clear hb1
  go_wp2_with fail
  refine (segments_any _ _ _ _ _).mono ?_
  rintro e w2 ⟨rfl, rfl⟩
  go_wp2_with fail
  have hB0 : Below w1.heap.size w1 ((w1.alloc (.cells #[.slice A L.length c] 22)).alloc (.cells #[.bool false] 4)) := allocs_below w1 [_, _]
  have bR0 := (bR.alloc (.cells #[.slice A L.length c] 22)).alloc (.cells #[.bool false] 4)
  have bV := (Boxed.new w1 22 (.slice A L.length c)).alloc (.cells #[.bool false] 4)
  have bC := Boxed.new (w1.alloc (.cells #[.slice A L.length c] 22)) 4 (.bool false)
  simp only [World.size_alloc] at bC
  have hsz : ((w1.alloc (.cells #[.slice A L.length c] 22)).alloc (.cells #[.bool false] 4)).heap.size = w1.heap.size + 2 := by simp
  obtain ⟨W0, hW0⟩ : ∃ W0, (w1.alloc (.cells #[.slice A L.length c] 22)).alloc (.cells #[.bool false] 4) = W0 := ⟨_, rfl⟩
  rw [hW0] at bR0 bV bC hB0 hsz ⊢
  clear hW0 bR
  have hBw : Below w.heap.size w W0 := HB1.out.trans (hB0.mono HB1.out.size)
  refine (wpIn_wide (n := 6)).1 ?_
  refine wpIn_rangeFunc_ownH rfl (by omega) (gf := 95) (lb := #[.pointer (some ⟨w1.heap.size, 0, none⟩), .pointer (some ⟨w1.heap.size + 1, 0, none⟩)]) rfl trivial (enters_of Tryz.func95 (by kernel_rfl) rfl)
    (segments_stops 5 (by omega) w1.heap.size (w1.heap.size + 1) w.heap.size (.slice A L.length c) L false hL W0 (by omega) bV.cell bC.cell (HV.out.below hBw) HLOW.out) KpS.trans (KpS.put (by omega)) (Below.refl _ _) (fun _ => rfl)
    (fun pre W => Boxed W w.heap.size 27 (.int .i64 0) ∧ (∀ i, i ∈ pre → gP L i ≠ nx L i) ∧ Below w.heap.size w W)
    (fun cd pre W => cd = .ret ∧ (∃ i, i ∈ pre ∧ gP L i = nx L i) ∧ Boxed W w.heap.size 27 (.int .i64 7) ∧ Below w.heap.size w W)
    (fun pre X Y row hs hg hr => ?own)
    (fun cd pre X Y row hs hg hr => ?ownx)
    ⟨bR0, fun _ h => absurd h (by simp), hBw⟩
    (fun x a' W => ∃ B9, Blk W B9 89 #[.int .i64 (gP L x).1, .int .i64 (gP L x).2, .int .i64 (nx L x).1, .int .i64 (nx L x).2] ∧ a' = { tmps := #[.slice A L.length c, .bool false, undef, undef, .pointer (some ⟨w.heap.size, 0, none⟩), .int .i64 0, undef, .pointer (some ⟨B9, 0, none⟩), .slice A L.length c, .int .i64 0, .int .i64 0, .bool false, undef, .slice A L.length c, .int .i64 (L.length : Int), .bool (decide ((L.length : Int) < 2)), .bool (decide ((L.length : Int) < 2)), .bool false, .bool false, undef, undef, undef, .bool false, .bool (decide ((L.length : Int) < 2)), .slice A L.length c, .bool false, .func (.func 95) #[] #[.pointer (some ⟨w1.heap.size, 0, none⟩), .pointer (some ⟨w1.heap.size + 1, 0, none⟩)], .int .i64 (x : Int), .agg #[.int .i64 (gP L x).1, .int .i64 (gP L x).2, .int .i64 (nx L x).1, .int .i64 (nx L x).2], undef, undef, undef, undef, undef], defers := [] })
    (fun x a' _ X Y row hs hg hr => by
      obtain ⟨B9, h1, h3⟩ := hs
      refine ⟨B9, h1.grown hg (fun e => ?_), h3⟩
      obtain ⟨o, ho, hc⟩ := (hr B9 e.symm).2; rw [show X.heap[B9]? = _ from h1] at ho; cases ho; cases hc)
    ?assign ?body ?done ?stop
  case own =>
    obtain ⟨h1, h2, h3⟩ := hs
    exact ⟨(boxed_own (β := Unit) _ _ (fun _ => _)) () X Y row h1 hg (fun r e => (hr r e).2), h2, (ownFrom_below (β := Unit) (Nat.le_refl _) (by omega)) () X Y row h3 hg hr⟩
  case ownx =>
    obtain ⟨h0, h2, h1, h3⟩ := hs
    exact ⟨h0, h2, (boxed_own (β := Unit) _ _ (fun _ => _)) () X Y row h1 hg (fun r e => (hr r e).2), (ownFrom_below (β := Unit) (Nat.le_refl _) (by omega)) () X Y row h3 hg hr⟩
  case assign =>
    rintro l pre x W K ⟨b1, hne, hB1⟩ hK
    simp only [encS]
    gi_wp2
    have hA2 := allocs_below W [.cells #[.int .i64 (gP L x).1, .int .i64 (gP L x).2, .int .i64 (nx L x).1, .int .i64 (nx L x).2] 89]
    refine hK _ _ (keepsFrom_below hA2) (KpS.of_below hB1.size hA2) ⟨b1.alloc _, hne, hB1.trans (hA2.mono hB1.size)⟩ ⟨W.heap.size, Blk.new W _ _, rfl⟩
  case body =>
    rintro l pre x a' W hl _ ⟨b1, hne, hB1⟩ ⟨B9, h9, rfl⟩ hlt
    have HNE := hide hne
    have HB1' := hide hB1
    obtain ⟨p, hp⟩ : ∃ p, gP L x = p := ⟨_, rfl⟩
    obtain ⟨q, hq⟩ : ∃ q, nx L x = q := ⟨_, rfl⟩
    rw [hp, hq] at h9 ⊢
    have HPX := hide hp
    have HQX := hide hq
    obtain ⟨x1, x2⟩ := p
    obtain ⟨y1, y2⟩ := q
    dsimp only at h9 ⊢
    have c90 := (Blk.cell h9 0).trans rfl
    have c91 := (Blk.cell h9 1).trans rfl
    have c92 := (Blk.cell h9 2).trans rfl
    have c93 := (Blk.cell h9 3).trans rfl
    have cR := b1.cell
    have fR := b1.frozen
    clear hne hB1 hp hq
    by_cases e1 : x1 = y1
    · by_cases e2 : x2 = y2
      · subst e1 e2
        gi_wp2
        all_goals (try go_bits)
        exact ⟨(KeepsOthers.setCell _ _ _).from _, rfl, ⟨x, by simp, by rw [HPX.out, HQX.out]⟩, b1.set _, HB1'.out.setCell (p := ⟨w.heap.size, 0, none⟩) (Nat.le_refl _) _⟩
      · subst e1
        have f2 : (x2 = y2) = False := eq_false e2
        have HE := hide e2
        clear e2
        gi_wp2
        all_goals (try go_bits)
        refine ⟨keepsFrom_below (Below.refl _ _), KpS.of_below HB1'.out.size (Below.refl _ _), b1, fun i hi => ?_, HB1'.out⟩
        rcases List.mem_append.1 hi with hi | hi
        · exact HNE.out i hi
        · obtain rfl := List.mem_singleton.1 hi
          rw [HPX.out, HQX.out]; intro h; exact HE.out (Prod.mk.inj h).2
    · have f1 : (x1 = y1) = False := eq_false e1
      have HE := hide e1
      clear e1
      gi_wp2
      all_goals (try go_bits)
      refine ⟨keepsFrom_below (Below.refl _ _), KpS.of_below HB1'.out.size (Below.refl _ _), b1, fun i hi => ?_, HB1'.out⟩
      rcases List.mem_append.1 hi with hi | hi
      · exact HNE.out i hi
      · obtain rfl := List.mem_singleton.1 hi
        rw [HPX.out, HQX.out]; intro h; exact HE.out (Prod.mk.inj h).1
  case done =>
    rintro E ys W hE rfl ⟨b1, hne, hB1⟩ hK
    have cR := b1.cell
    have fR := b1.frozen
    have htw : twiceB L false = false := twice_no fun i hi => hne i (List.mem_range.2 hi)
    have HTW := hide htw
    have HBX := hide hB1
    have HKX := hide hK
    clear htw hne hB1 hK
    go_wp2_with fail
    have hK' := (KeepsOthers.setCell W ⟨w.heap.size, 0, none⟩ (.int .i64 0)).same E _ HKX.out rfl
    refine ⟨by simp, .inl ⟨_, _, rfl, run_takeDeferred hK', ?_⟩⟩
    have hc5 := cell_kept (b1.set (.int .i64 0)).cell (grownBy_putObj' _ E (.deferred none)) (fun r e => by cases e; exact ⟨_, hK', rfl⟩)
    refine ⟨.int .i64 0, ?_, by rw [← HR.out, HTW.out]; rfl, (HBX.out.setCell (p := ⟨w.heap.size, 0, none⟩) (Nat.le_refl _) _).trans (belowK_b (w := w) (Nat.le_refl _) _ E _ _ (by omega) hK' rfl rfl)⟩
    simp [results, Tryz.results19, go_sem, hc5]
  case stop =>
    rintro E c2 pre W hE hpre ⟨rfl, ⟨i, hi, he⟩, b1, hB1⟩ hK
    have htw : twiceB L false = true := by
      obtain ⟨k, hk, rfl⟩ := hpre
      have hik : i < k + 1 := by rw [← List.range_succ] at hi; exact List.mem_range.1 hi
      exact twice_yes (by omega) he
    have HTW := hide htw
    have HBX := hide hB1
    have HKX := hide hK
    clear htw hi he hB1 hK hpre
    gi_wp2
    refine ⟨by simp, .inl ⟨_, _, rfl, run_takeDeferred HKX.out, ?_⟩⟩
    have hc5 := cell_kept b1.cell (grownBy_putObj' _ E (.deferred none)) (fun r e => by cases e; exact ⟨_, HKX.out, rfl⟩)
    refine ⟨.int .i64 7, ?_, by rw [← HR.out, HTW.out]; rfl, HBX.out.trans (belowK_b (w := w) (Nat.le_refl _) W E _ _ (by omega) HKX.out rfl rfl)⟩
    simp [results, Tryz.results19, go_sem, hc5]

theorem pcheck_any (w : World) (v : Value) (L : List S2) (c0 : Bool) (hv : Pts w v L) (hL : L.length ≤ 1000000000000) :
    Calls Tryz.prog 19 #[v, .bool c0] w fun e w' => e = .returned (.int .i64 (chkP L c0)) ∧ Below w.heap.size w w' := by
  rcases chkPtsN_cases L with h | h | ⟨h, hl, _⟩
  · rw [chkP, h, if_neg (by decide)]; exact pcheck_bad w v L c0 hv hL 5 h (by omega)
  · rw [chkP, h, if_neg (by decide)]; exact pcheck_bad w v L c0 hv hL 2 h (by omega)
  · rw [chkP, h, if_pos rfl, chkL]
    by_cases h2 : L.length < 2
    · rw [if_pos (.inl h2)]; exact pcheck_few2 w v L c0 hv hL h h2
    · cases c0
      · rw [if_neg (by rintro (h' | ⟨h', _⟩); exact h2 h'; exact absurd h' (by simp))]; exact pcheck_ok_false w v L hv hl h (by omega)
      · by_cases h3 : L.length < 3
        · rw [if_pos (.inr ⟨rfl, h3⟩)]; exact pcheck_few3 w v L true hv hL h h2 h3 rfl
        · rw [if_neg (by rintro (h' | ⟨_, h'⟩); exact h2 h'; exact h3 h')]; exact pcheck_ok_true w v L hv hl h (by omega) (by omega)
end Go.Proofs.YtendaaghmeoddaaGreatDoor
