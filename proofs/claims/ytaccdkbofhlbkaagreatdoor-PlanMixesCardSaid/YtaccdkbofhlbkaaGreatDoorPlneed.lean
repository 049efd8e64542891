/- plan.needs: what is asked of a plan. -/
import Derived.Test.YtaccdkbofhlbkaaGreatDoorPlunit
namespace Go.Proofs.YtaccdkbofhlbkaaGreatDoor
open Go.RowKit Go.Shelf MLab

set_option maxRecDepth 100000 in
set_option maxHeartbeats 2000000 in
theorem inside_any (w : World) (n lot : Int) (b : Nat) (h : Blk w b 3 #[.int .i64 lot]) :
    Calls Tryz.prog 97 #[.int .i64 n, .pointer (some ⟨b, 0, none⟩)] w fun e w' => e = .returned (.bool (decide (0 ≤ n) && decide (n ≤ lot))) ∧ Below w.heap.size w w' := by
  have a0 := Blk.cell h 0
  clear h
  by_cases h0 : n < 0
  · have hv : (decide (0 ≤ n) && decide (n ≤ lot)) = false := by simp; omega
    rw [hv]
    clear hv
    have h0n : ¬ 0 ≤ n := by omega
    go_enter Tryz.func97, Tryz.ntmps97
    go_wp2_with fail
    go_ret
    exact ⟨rfl, Below.refl _ _⟩
  · by_cases h1 : lot < n
    · have hv : (decide (0 ≤ n) && decide (n ≤ lot)) = false := by simp; omega
      rw [hv]
      clear hv
      have h0p : 0 ≤ n := by omega
      have h1n : ¬ n ≤ lot := by omega
      go_enter Tryz.func97, Tryz.ntmps97
      go_wp2_with fail
      go_ret
      exact ⟨rfl, Below.refl _ _⟩
    · have hv : (decide (0 ≤ n) && decide (n ≤ lot)) = true := by simp; omega
      rw [hv]
      clear hv
      have h0p : 0 ≤ n := by omega
      have h1p : n ≤ lot := by omega
      go_enter Tryz.func97, Tryz.ntmps97
      go_wp2_with fail
      go_ret
      exact ⟨rfl, Below.refl _ _⟩

theorem ins_yes {n lot : Int} (h0 : 0 ≤ n) (h1 : n ≤ lot) : (decide (0 ≤ n) && decide (n ≤ lot)) = true := by simp; omega
theorem ins_no {n lot : Int} (h : n < 0 ∨ lot < n) : (decide (0 ≤ n) && decide (n ≤ lot)) = false := by simp; omega

set_option maxRecDepth 100000 in
set_option maxHeartbeats 4000000 in
theorem needs_range (w : World) (lot good bad : Int) (a b : ByteArray) (h : ¬ (1 ≤ lot ∧ lot ≤ 64 ∧ (0 ≤ good ∧ good ≤ lot) ∧ 0 ≤ bad ∧ bad ≤ lot)) :
    Calls Tryz.prog 50 #[.int .i64 lot, .int .i64 good, .int .i64 bad, .string a, .string b] w fun e w' => e = .returned (.int .i64 (2)) ∧ Below w.heap.size w w' := by
  by_cases h1 : lot < 1
  · clear h
    have HB := allocs_below w [.cells #[.int .i64 lot] 3]
    have K_t : Blk (allocs w [.cells #[.int .i64 lot] 3]) (w.heap.size + 0) 3 #[.int .i64 lot] := allocs_at w [.cells #[.int .i64 lot] 3] 0 rfl
    unfold allocs at HB K_t
    simp only [List.foldl_cons, List.foldl_nil] at HB K_t
    rw [Nat.add_zero] at K_t
    go_enter Tryz.func50, Tryz.ntmps50
    go_upto_region 1 with (fail)
    generalize (w.alloc (.cells #[.int .i64 lot] 3)) = w0 at *
    replace K_t := hide K_t
    replace HB := hide HB
    have t0 := (Blk.cell K_t.out 0).trans (rfl : _ = some (Value.int .i64 lot))
    go_wp2_with fail
    go_ret
    exact ⟨rfl, HB.out⟩
  · by_cases h2 : 64 < lot
    · clear h
      have HB := allocs_below w [.cells #[.int .i64 lot] 3]
      have K_t : Blk (allocs w [.cells #[.int .i64 lot] 3]) (w.heap.size + 0) 3 #[.int .i64 lot] := allocs_at w [.cells #[.int .i64 lot] 3] 0 rfl
      unfold allocs at HB K_t
      simp only [List.foldl_cons, List.foldl_nil] at HB K_t
      rw [Nat.add_zero] at K_t
      go_enter Tryz.func50, Tryz.ntmps50
      go_upto_region 1 with (fail)
      generalize (w.alloc (.cells #[.int .i64 lot] 3)) = w0 at *
      replace K_t := hide K_t
      replace HB := hide HB
      have t0 := (Blk.cell K_t.out 0).trans (rfl : _ = some (Value.int .i64 lot))
      go_wp2_with fail
      go_ret
      exact ⟨rfl, HB.out⟩
    · by_cases h3 : good < 0
      · have HI_good := hide (fun W (h : Blk W w.heap.size 3 #[.int .i64 lot]) => inside_any W good lot w.heap.size h)
        rw [ins_no (by omega)] at HI_good
        clear h
        have HB := allocs_below w [.cells #[.int .i64 lot] 3]
        have K_t : Blk (allocs w [.cells #[.int .i64 lot] 3]) (w.heap.size + 0) 3 #[.int .i64 lot] := allocs_at w [.cells #[.int .i64 lot] 3] 0 rfl
        unfold allocs at HB K_t
        simp only [List.foldl_cons, List.foldl_nil] at HB K_t
        rw [Nat.add_zero] at K_t
        go_enter Tryz.func50, Tryz.ntmps50
        go_upto_region 1 with (fail)
        generalize (w.alloc (.cells #[.int .i64 lot] 3)) = w0 at *
        replace K_t := hide K_t
        replace HB := hide HB
        have t0 := (Blk.cell K_t.out 0).trans (rfl : _ = some (Value.int .i64 lot))
        go_wp2_with fail
        refine (HI_good.out _ K_t.out).mono ?_
        rintro e w1 ⟨rfl, hb⟩
        clear t0
        replace K_t := hide (Blk.below K_t.out hb (Blk.lt K_t.out))
        replace HB := hide (HB.out.trans (hb.mono HB.out.size))
        clear hb
        go_wp2_with fail
        go_ret
        exact ⟨rfl, HB.out⟩
      · by_cases h4 : lot < good
        · have HI_good := hide (fun W (h : Blk W w.heap.size 3 #[.int .i64 lot]) => inside_any W good lot w.heap.size h)
          rw [ins_no (by omega)] at HI_good
          clear h
          have HB := allocs_below w [.cells #[.int .i64 lot] 3]
          have K_t : Blk (allocs w [.cells #[.int .i64 lot] 3]) (w.heap.size + 0) 3 #[.int .i64 lot] := allocs_at w [.cells #[.int .i64 lot] 3] 0 rfl
          unfold allocs at HB K_t
          simp only [List.foldl_cons, List.foldl_nil] at HB K_t
          rw [Nat.add_zero] at K_t
          go_enter Tryz.func50, Tryz.ntmps50
          go_upto_region 1 with (fail)
          generalize (w.alloc (.cells #[.int .i64 lot] 3)) = w0 at *
          replace K_t := hide K_t
          replace HB := hide HB
          have t0 := (Blk.cell K_t.out 0).trans (rfl : _ = some (Value.int .i64 lot))
          go_wp2_with fail
          refine (HI_good.out _ K_t.out).mono ?_
          rintro e w1 ⟨rfl, hb⟩
          clear t0
          replace K_t := hide (Blk.below K_t.out hb (Blk.lt K_t.out))
          replace HB := hide (HB.out.trans (hb.mono HB.out.size))
          clear hb
          go_wp2_with fail
          go_ret
          exact ⟨rfl, HB.out⟩
        · by_cases h5 : bad < 0
          · have HI_good := hide (fun W (h : Blk W w.heap.size 3 #[.int .i64 lot]) => inside_any W good lot w.heap.size h)
            rw [ins_yes (by omega) (by omega)] at HI_good
            have HI_bad := hide (fun W (h : Blk W w.heap.size 3 #[.int .i64 lot]) => inside_any W bad lot w.heap.size h)
            rw [ins_no (by omega)] at HI_bad
            clear h
            have HB := allocs_below w [.cells #[.int .i64 lot] 3]
            have K_t : Blk (allocs w [.cells #[.int .i64 lot] 3]) (w.heap.size + 0) 3 #[.int .i64 lot] := allocs_at w [.cells #[.int .i64 lot] 3] 0 rfl
            unfold allocs at HB K_t
            simp only [List.foldl_cons, List.foldl_nil] at HB K_t
            rw [Nat.add_zero] at K_t
            go_enter Tryz.func50, Tryz.ntmps50
            go_upto_region 1 with (fail)
            generalize (w.alloc (.cells #[.int .i64 lot] 3)) = w0 at *
            replace K_t := hide K_t
            replace HB := hide HB
            have t0 := (Blk.cell K_t.out 0).trans (rfl : _ = some (Value.int .i64 lot))
            go_wp2_with fail
            refine (HI_good.out _ K_t.out).mono ?_
            rintro e w1 ⟨rfl, hb⟩
            clear t0
            replace K_t := hide (Blk.below K_t.out hb (Blk.lt K_t.out))
            replace HB := hide (HB.out.trans (hb.mono HB.out.size))
            clear hb
            have t0 := (Blk.cell K_t.out 0).trans (rfl : _ = some (Value.int .i64 lot))
            go_wp2_with fail
            refine (HI_bad.out _ K_t.out).mono ?_
            rintro e w2 ⟨rfl, hb⟩
            clear t0
            replace K_t := hide (Blk.below K_t.out hb (Blk.lt K_t.out))
            replace HB := hide (HB.out.trans (hb.mono HB.out.size))
            clear hb
            go_wp2_with fail
            go_ret
            exact ⟨rfl, HB.out⟩
          · by_cases h6 : lot < bad
            · have HI_good := hide (fun W (h : Blk W w.heap.size 3 #[.int .i64 lot]) => inside_any W good lot w.heap.size h)
              rw [ins_yes (by omega) (by omega)] at HI_good
              have HI_bad := hide (fun W (h : Blk W w.heap.size 3 #[.int .i64 lot]) => inside_any W bad lot w.heap.size h)
              rw [ins_no (by omega)] at HI_bad
              clear h
              have HB := allocs_below w [.cells #[.int .i64 lot] 3]
              have K_t : Blk (allocs w [.cells #[.int .i64 lot] 3]) (w.heap.size + 0) 3 #[.int .i64 lot] := allocs_at w [.cells #[.int .i64 lot] 3] 0 rfl
              unfold allocs at HB K_t
              simp only [List.foldl_cons, List.foldl_nil] at HB K_t
              rw [Nat.add_zero] at K_t
              go_enter Tryz.func50, Tryz.ntmps50
              go_upto_region 1 with (fail)
              generalize (w.alloc (.cells #[.int .i64 lot] 3)) = w0 at *
              replace K_t := hide K_t
              replace HB := hide HB
              have t0 := (Blk.cell K_t.out 0).trans (rfl : _ = some (Value.int .i64 lot))
              go_wp2_with fail
              refine (HI_good.out _ K_t.out).mono ?_
              rintro e w1 ⟨rfl, hb⟩
              clear t0
              replace K_t := hide (Blk.below K_t.out hb (Blk.lt K_t.out))
              replace HB := hide (HB.out.trans (hb.mono HB.out.size))
              clear hb
              have t0 := (Blk.cell K_t.out 0).trans (rfl : _ = some (Value.int .i64 lot))
              go_wp2_with fail
              refine (HI_bad.out _ K_t.out).mono ?_
              rintro e w2 ⟨rfl, hb⟩
              clear t0
              replace K_t := hide (Blk.below K_t.out hb (Blk.lt K_t.out))
              replace HB := hide (HB.out.trans (hb.mono HB.out.size))
              clear hb
              go_wp2_with fail
              go_ret
              exact ⟨rfl, HB.out⟩
            · exact absurd (show 1 ≤ lot ∧ lot ≤ 64 ∧ (0 ≤ good ∧ good ≤ lot) ∧ 0 ≤ bad ∧ bad ≤ lot by omega) h

set_option maxRecDepth 100000 in
set_option maxHeartbeats 4000000 in
theorem needs_order (w : World) (lot good bad : Int) (a b : ByteArray) (h1 : 1 ≤ lot) (h2 : lot ≤ 64) (h3 : 0 ≤ good) (h4 : good ≤ lot) (h5 : 0 ≤ bad) (h6 : bad ≤ lot) (h7 : bad ≤ good) :
    Calls Tryz.prog 50 #[.int .i64 lot, .int .i64 good, .int .i64 bad, .string a, .string b] w fun e w' => e = .returned (.int .i64 (9)) ∧ Below w.heap.size w w' := by
  have n1 : ¬ lot < 1 := by omega
  have n2 : ¬ 64 < lot := by omega
  have HI_good := hide (fun W (h : Blk W w.heap.size 3 #[.int .i64 lot]) => inside_any W good lot w.heap.size h)
  rw [ins_yes h3 h4] at HI_good
  have HI_bad := hide (fun W (h : Blk W w.heap.size 3 #[.int .i64 lot]) => inside_any W bad lot w.heap.size h)
  rw [ins_yes h5 h6] at HI_bad
  clear h1 h2 h3 h4 h5 h6
  have HB := allocs_below w [.cells #[.int .i64 lot] 3]
  have K_t : Blk (allocs w [.cells #[.int .i64 lot] 3]) (w.heap.size + 0) 3 #[.int .i64 lot] := allocs_at w [.cells #[.int .i64 lot] 3] 0 rfl
  unfold allocs at HB K_t
  simp only [List.foldl_cons, List.foldl_nil] at HB K_t
  rw [Nat.add_zero] at K_t
  go_enter Tryz.func50, Tryz.ntmps50
  go_upto_region 1 with (fail)
  generalize (w.alloc (.cells #[.int .i64 lot] 3)) = w0 at *
  replace K_t := hide K_t
  replace HB := hide HB
  have t0 := (Blk.cell K_t.out 0).trans (rfl : _ = some (Value.int .i64 lot))
  go_wp2_with fail
  refine (HI_good.out _ K_t.out).mono ?_
  rintro e w1 ⟨rfl, hb⟩
  clear t0
  replace K_t := hide (Blk.below K_t.out hb (Blk.lt K_t.out))
  replace HB := hide (HB.out.trans (hb.mono HB.out.size))
  clear hb
  have t0 := (Blk.cell K_t.out 0).trans (rfl : _ = some (Value.int .i64 lot))
  go_wp2_with fail
  refine (HI_bad.out _ K_t.out).mono ?_
  rintro e w2 ⟨rfl, hb⟩
  clear t0
  replace K_t := hide (Blk.below K_t.out hb (Blk.lt K_t.out))
  replace HB := hide (HB.out.trans (hb.mono HB.out.size))
  clear hb
  go_wp2_with fail
  go_ret
  exact ⟨rfl, HB.out⟩

set_option maxRecDepth 100000 in
set_option maxHeartbeats 8000000 in
theorem needs_ok (w : World) (lot good bad : Int) (a b : ByteArray) (h1 : 1 ≤ lot) (h2 : lot ≤ 64) (h3 : 0 ≤ good) (h4 : good ≤ lot) (h5 : 0 ≤ bad) (h6 : bad ≤ lot) (h7 : good < bad) (p q : Rat) (ha : a.data.toList = RT p) (hb : b.data.toList = RT q) (hp : Fit p) (hq : Fit q) (hup : unitQ p = 0) (huq : unitQ q = 0) (hs : Std w) :
    Calls Tryz.prog 50 #[.int .i64 lot, .int .i64 good, .int .i64 bad, .string a, .string b] w fun e w' => e = .returned (.int .i64 (0)) ∧ Below w.heap.size w w' := by
  have HS := hide hs
  have h7n : ¬ bad ≤ good := by omega
  have HK0 := hide (fun W (hS : Std W) => rcheck_any W a _ ha (by rw [Lib.size_eq, ha]; have := RT_len hp; omega) hS)
  have HK1 := hide (fun W (hS : Std W) => rcheck_any W b _ hb (by rw [Lib.size_eq, hb]; have := RT_len hq; omega) hS)
  rw [chkR_RT hp] at HK0
  rw [chkR_RT hq] at HK1
  have HU0 := hide (fun W (hS : Std W) => unit_any W a p ha hp hS)
  have HU1 := hide (fun W (hS : Std W) => unit_any W b q hb hq hS)
  rw [hup] at HU0
  rw [huq] at HU1
  clear ha hb hp hq hup huq hs h7
  have n1 : ¬ lot < 1 := by omega
  have n2 : ¬ 64 < lot := by omega
  have HI_good := hide (fun W (h : Blk W w.heap.size 3 #[.int .i64 lot]) => inside_any W good lot w.heap.size h)
  rw [ins_yes h3 h4] at HI_good
  have HI_bad := hide (fun W (h : Blk W w.heap.size 3 #[.int .i64 lot]) => inside_any W bad lot w.heap.size h)
  rw [ins_yes h5 h6] at HI_bad
  clear h1 h2 h3 h4 h5 h6
  have HB := allocs_below w [.cells #[.int .i64 lot] 3]
  have K_t : Blk (allocs w [.cells #[.int .i64 lot] 3]) (w.heap.size + 0) 3 #[.int .i64 lot] := allocs_at w [.cells #[.int .i64 lot] 3] 0 rfl
  unfold allocs at HB K_t
  simp only [List.foldl_cons, List.foldl_nil] at HB K_t
  rw [Nat.add_zero] at K_t
  go_enter Tryz.func50, Tryz.ntmps50
  go_upto_region 1 with (fail)
  generalize (w.alloc (.cells #[.int .i64 lot] 3)) = w0 at *
  replace K_t := hide K_t
  replace HB := hide HB
  have t0 := (Blk.cell K_t.out 0).trans (rfl : _ = some (Value.int .i64 lot))
  go_wp2_with fail
  refine (HI_good.out _ K_t.out).mono ?_
  rintro e w1 ⟨rfl, hb⟩
  clear t0
  replace K_t := hide (Blk.below K_t.out hb (Blk.lt K_t.out))
  replace HB := hide (HB.out.trans (hb.mono HB.out.size))
  clear hb
  have t0 := (Blk.cell K_t.out 0).trans (rfl : _ = some (Value.int .i64 lot))
  go_wp2_with fail
  refine (HI_bad.out _ K_t.out).mono ?_
  rintro e w2 ⟨rfl, hb⟩
  clear t0
  replace K_t := hide (Blk.below K_t.out hb (Blk.lt K_t.out))
  replace HB := hide (HB.out.trans (hb.mono HB.out.size))
  clear hb
  go_upto_region 9 with (fail)
  have lt_s_t : w.heap.size < w2.heap.size := Blk.lt K_t.out
  replace K_t := K_t.out.alloc (.cells #[.string a, .string b] 26)
  replace HB := HB.out.alloc HB.out.size (.cells #[.string a, .string b] 26)
  have K_s := Blk.new w2 26 #[.string a, .string b]
  generalize w2.alloc (.cells #[.string a, .string b] 26) = wm at *
  replace K_t := hide K_t
  replace K_s := hide K_s
  replace HB := hide HB
  go_loopg [42] 2 (fun q iv wr => ∃ j : Nat, iv = .int .i64 (j : Int) ∧ q + j = 2 ∧ Below wm.heap.size wm wr)
  case atStart => exact ⟨0, rfl, rfl, Below.refl _ _⟩
  case round =>
    obtain ⟨j, rfl, hq, hb⟩ := hrel
    have hj : j = 0 ∨ j = 1 ∨ j = 2 := by omega
    replace K_t := hide (Blk.below K_t.out hb (Blk.lt K_t.out))
    replace K_s := hide (Blk.below K_s.out hb (Blk.lt K_s.out))
    replace HB := hide (HB.out.trans (hb.mono HB.out.size))
    have HL := hide hb
    clear hb
    rcases hj with rfl | rfl | rfl
    · skip
      have s0 := (Blk.cell K_s.out 0).trans (rfl : _ = some (Value.string a))
      have s1 := (Blk.cell K_s.out 1).trans (rfl : _ = some (Value.string b))
      go_wp2_with fail
      refine (HK0.out _ (HS.out.below HB.out (Nat.le_refl _))).mono ?_
      rintro e wy ⟨rfl, hb⟩
      replace HL := hide (HL.out.trans (hb.mono HL.out.size))
      clear s0 s1
      replace K_t := hide (Blk.below K_t.out hb (Blk.lt K_t.out))
      replace K_s := hide (Blk.below K_s.out hb (Blk.lt K_s.out))
      replace HB := hide (HB.out.trans (hb.mono HB.out.size))
      clear hb
      go_wp2_with fail
      go_roundg 1
      case measure => omega
      case rel => exact ⟨1, rfl, rfl, HL.out⟩
    · skip
      have s0 := (Blk.cell K_s.out 0).trans (rfl : _ = some (Value.string a))
      have s1 := (Blk.cell K_s.out 1).trans (rfl : _ = some (Value.string b))
      go_wp2_with fail
      refine (HK1.out _ (HS.out.below HB.out (Nat.le_refl _))).mono ?_
      rintro e wy ⟨rfl, hb⟩
      replace HL := hide (HL.out.trans (hb.mono HL.out.size))
      clear s0 s1
      replace K_t := hide (Blk.below K_t.out hb (Blk.lt K_t.out))
      replace K_s := hide (Blk.below K_s.out hb (Blk.lt K_s.out))
      replace HB := hide (HB.out.trans (hb.mono HB.out.size))
      clear hb
      go_wp2_with fail
      go_roundg 0
      case measure => omega
      case rel => exact ⟨2, rfl, rfl, HL.out⟩
    · skip
      go_upto_region 16 with (fail)
      have lt_s_t : w.heap.size < wr.heap.size := Blk.lt K_t.out
      have lt_s_s : w2.heap.size < wr.heap.size := Blk.lt K_s.out
      replace K_t := K_t.out.alloc (.cells #[.string a, .string b] 26)
      replace K_s := K_s.out.alloc (.cells #[.string a, .string b] 26)
      replace HB := HB.out.alloc HB.out.size (.cells #[.string a, .string b] 26)
      have K_s := Blk.new wr 26 #[.string a, .string b]
      generalize wr.alloc (.cells #[.string a, .string b] 26) = wn at *
      replace K_t := hide K_t
      replace K_s := hide K_s
      replace HB := hide HB
      go_loopg [56] 2 (fun q iv wr => ∃ j : Nat, iv = .int .i64 (j : Int) ∧ q + j = 2 ∧ Below wn.heap.size wn wr)
      case atStart => exact ⟨0, rfl, rfl, Below.refl _ _⟩
      case round =>
        obtain ⟨j, rfl, hq, hb⟩ := hrel
        have hj : j = 0 ∨ j = 1 ∨ j = 2 := by omega
        replace K_t := hide (Blk.below K_t.out hb (Blk.lt K_t.out))
        replace K_s := hide (Blk.below K_s.out hb (Blk.lt K_s.out))
        replace HB := hide (HB.out.trans (hb.mono HB.out.size))
        have HL := hide hb
        clear hb
        rcases hj with rfl | rfl | rfl
        · skip
          have s0 := (Blk.cell K_s.out 0).trans (rfl : _ = some (Value.string a))
          have s1 := (Blk.cell K_s.out 1).trans (rfl : _ = some (Value.string b))
          go_wp2_with fail
          refine (HU0.out _ (HS.out.below HB.out (Nat.le_refl _))).mono ?_
          rintro e wy ⟨rfl, hb⟩
          replace HL := hide (HL.out.trans (hb.mono HL.out.size))
          clear s0 s1
          replace K_t := hide (Blk.below K_t.out hb (Blk.lt K_t.out))
          replace K_s := hide (Blk.below K_s.out hb (Blk.lt K_s.out))
          replace HB := hide (HB.out.trans (hb.mono HB.out.size))
          clear hb
          go_wp2_with fail
          go_roundg 1
          case measure => omega
          case rel => exact ⟨1, rfl, rfl, HL.out⟩
        · skip
          have s0 := (Blk.cell K_s.out 0).trans (rfl : _ = some (Value.string a))
          have s1 := (Blk.cell K_s.out 1).trans (rfl : _ = some (Value.string b))
          go_wp2_with fail
          refine (HU1.out _ (HS.out.below HB.out (Nat.le_refl _))).mono ?_
          rintro e wy ⟨rfl, hb⟩
          replace HL := hide (HL.out.trans (hb.mono HL.out.size))
          clear s0 s1
          replace K_t := hide (Blk.below K_t.out hb (Blk.lt K_t.out))
          replace K_s := hide (Blk.below K_s.out hb (Blk.lt K_s.out))
          replace HB := hide (HB.out.trans (hb.mono HB.out.size))
          clear hb
          go_wp2_with fail
          go_roundg 0
          case measure => omega
          case rel => exact ⟨2, rfl, rfl, HL.out⟩
        · skip
          go_wp2_with fail
          go_ret
          exact ⟨rfl, HB.out⟩

end Go.Proofs.YtaccdkbofhlbkaaGreatDoor
