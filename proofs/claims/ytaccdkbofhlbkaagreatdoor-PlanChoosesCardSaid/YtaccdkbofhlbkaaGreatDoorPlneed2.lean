/- plan.needs: the errors of the risks. -/
import Derived.Test.YtaccdkbofhlbkaaGreatDoorPlneed
namespace Go.Proofs.YtaccdkbofhlbkaaGreatDoor
open Go.RowKit Go.Shelf MLab

set_option maxRecDepth 100000 in
set_option maxHeartbeats 8000000 in
theorem needs_chk1 (w : World) (lot good bad : Int) (a b : ByteArray) (h1 : 1 ≤ lot) (h2 : lot ≤ 64) (h3 : 0 ≤ good) (h4 : good ≤ lot) (h5 : 0 ≤ bad) (h6 : bad ≤ lot) (h7 : good < bad) (l : List UInt8) (ha : a.data.toList = l) (hla : l.length < 4000000000) (hc : chkR l ≠ 0) (hs : Std w) :
    Calls Tryz.prog 50 #[.int .i64 lot, .int .i64 good, .int .i64 bad, .string a, .string b] w fun e w' => e = .returned (.int .i64 (chkR l)) ∧ Below w.heap.size w w' := by
  have HS := hide hs
  have h7n : ¬ bad ≤ good := by omega
  have HK0 := hide (fun W (hS : Std W) => rcheck_any W a l ha (by rw [Lib.size_eq, ha]; exact hla) hS)
  obtain ⟨z, hz, hz0⟩ := chkR_ne hc
  rw [hz] at HK0 ⊢
  clear ha hla hs h7 hc hz
  have n1 : ¬ lot < 1 := by omega
  have n2 : ¬ 64 < lot := by omega
  have HI_good := hide (fun W (h : Blk W w.heap.size 3 #[.int .i64 lot]) => inside_any W good lot w.heap.size h)
  rw [ins_yes h3 h4] at HI_good
  have HI_bad := hide (fun W (h : Blk W w.heap.size 3 #[.int .i64 lot]) => inside_any W bad lot w.heap.size h)
  rw [ins_yes h5 h6] at HI_bad
  clear h1 h2 h3 h4 h5 h6
  have HB := allocs_below w [.cells #[.int .i64 lot] 3]
  have K_t : Blk (allocs w [.cells #[.int .i64 lot] 3]) (w.heap.size + 0) 3 #[.int .i64 lot] := allocs_at w [.cells #[.int .i64 lot] 3] 0 rfl
  unfold allocs at HB K_t
  simp only [List.foldl_cons, List.foldl_nil] at HB K_t
  rw [Nat.add_zero] at K_t
  go_enter Tryz.func50, Tryz.ntmps50
  go_upto_region 1 with (fail)
  generalize (w.alloc (.cells #[.int .i64 lot] 3)) = w0 at *
  replace K_t := hide K_t
  replace HB := hide HB
  have t0 := (Blk.cell K_t.out 0).trans (rfl : _ = some (Value.int .i64 lot))
  go_wp2_with fail
  refine (HI_good.out _ K_t.out).mono ?_
  rintro e w1 ⟨rfl, hb⟩
  clear t0
  replace K_t := hide (Blk.below K_t.out hb (Blk.lt K_t.out))
  replace HB := hide (HB.out.trans (hb.mono HB.out.size))
  clear hb
  have t0 := (Blk.cell K_t.out 0).trans (rfl : _ = some (Value.int .i64 lot))
  go_wp2_with fail
  refine (HI_bad.out _ K_t.out).mono ?_
  rintro e w2 ⟨rfl, hb⟩
  clear t0
  replace K_t := hide (Blk.below K_t.out hb (Blk.lt K_t.out))
  replace HB := hide (HB.out.trans (hb.mono HB.out.size))
  clear hb
  go_upto_region 9 with (fail)
  have lt_s_t : w.heap.size < w2.heap.size := Blk.lt K_t.out
  replace K_t := K_t.out.alloc (.cells #[.string a, .string b] 26)
  replace HB := HB.out.alloc HB.out.size (.cells #[.string a, .string b] 26)
  have K_s := Blk.new w2 26 #[.string a, .string b]
  generalize w2.alloc (.cells #[.string a, .string b] 26) = wm at *
  replace K_t := hide K_t
  replace K_s := hide K_s
  replace HB := hide HB
  go_loopg [42] 2 (fun q iv wr => ∃ j : Nat, iv = .int .i64 (j : Int) ∧ q + j = 2 ∧ j ≤ 0 ∧ Below wm.heap.size wm wr)
  case atStart => exact ⟨0, rfl, rfl, by omega, Below.refl _ _⟩
  case round =>
    obtain ⟨j, rfl, hq, hjs, hb⟩ := hrel
    have hj : j = 0 := by omega
    clear hjs
    replace K_t := hide (Blk.below K_t.out hb (Blk.lt K_t.out))
    replace K_s := hide (Blk.below K_s.out hb (Blk.lt K_s.out))
    replace HB := hide (HB.out.trans (hb.mono HB.out.size))
    have HL := hide hb
    clear hb
    obtain rfl := hj
    have s0 := (Blk.cell K_s.out 0).trans (rfl : _ = some (Value.string a))
    have s1 := (Blk.cell K_s.out 1).trans (rfl : _ = some (Value.string b))
    go_wp2_with fail
    refine (HK0.out _ (HS.out.below HB.out (Nat.le_refl _))).mono ?_
    rintro e wy ⟨rfl, hb⟩
    replace HL := hide (HL.out.trans (hb.mono HL.out.size))
    clear s0 s1
    replace K_t := hide (Blk.below K_t.out hb (Blk.lt K_t.out))
    replace K_s := hide (Blk.below K_s.out hb (Blk.lt K_s.out))
    replace HB := hide (HB.out.trans (hb.mono HB.out.size))
    clear hb
    go_wp2_with fail
    go_ret
    exact ⟨rfl, HB.out⟩

set_option maxRecDepth 100000 in
set_option maxHeartbeats 8000000 in
theorem needs_chk2 (w : World) (lot good bad : Int) (a b : ByteArray) (h1 : 1 ≤ lot) (h2 : lot ≤ 64) (h3 : 0 ≤ good) (h4 : good ≤ lot) (h5 : 0 ≤ bad) (h6 : bad ≤ lot) (h7 : good < bad) (l m : List UInt8) (ha : a.data.toList = l) (hb : b.data.toList = m) (hla : l.length < 4000000000) (hlb : m.length < 4000000000) (hc0 : chkR l = 0) (hc : chkR m ≠ 0) (hs : Std w) :
    Calls Tryz.prog 50 #[.int .i64 lot, .int .i64 good, .int .i64 bad, .string a, .string b] w fun e w' => e = .returned (.int .i64 (chkR m)) ∧ Below w.heap.size w w' := by
  have HS := hide hs
  have h7n : ¬ bad ≤ good := by omega
  have HK0 := hide (fun W (hS : Std W) => rcheck_any W a l ha (by rw [Lib.size_eq, ha]; exact hla) hS)
  have HK1 := hide (fun W (hS : Std W) => rcheck_any W b m hb (by rw [Lib.size_eq, hb]; exact hlb) hS)
  rw [hc0] at HK0
  obtain ⟨z, hz, hz0⟩ := chkR_ne hc
  rw [hz] at HK1 ⊢
  clear ha hb hla hlb hs h7 hc hc0 hz
  have n1 : ¬ lot < 1 := by omega
  have n2 : ¬ 64 < lot := by omega
  have HI_good := hide (fun W (h : Blk W w.heap.size 3 #[.int .i64 lot]) => inside_any W good lot w.heap.size h)
  rw [ins_yes h3 h4] at HI_good
  have HI_bad := hide (fun W (h : Blk W w.heap.size 3 #[.int .i64 lot]) => inside_any W bad lot w.heap.size h)
  rw [ins_yes h5 h6] at HI_bad
  clear h1 h2 h3 h4 h5 h6
  have HB := allocs_below w [.cells #[.int .i64 lot] 3]
  have K_t : Blk (allocs w [.cells #[.int .i64 lot] 3]) (w.heap.size + 0) 3 #[.int .i64 lot] := allocs_at w [.cells #[.int .i64 lot] 3] 0 rfl
  unfold allocs at HB K_t
  simp only [List.foldl_cons, List.foldl_nil] at HB K_t
  rw [Nat.add_zero] at K_t
  go_enter Tryz.func50, Tryz.ntmps50
  go_upto_region 1 with (fail)
  generalize (w.alloc (.cells #[.int .i64 lot] 3)) = w0 at *
  replace K_t := hide K_t
  replace HB := hide HB
  have t0 := (Blk.cell K_t.out 0).trans (rfl : _ = some (Value.int .i64 lot))
  go_wp2_with fail
  refine (HI_good.out _ K_t.out).mono ?_
  rintro e w1 ⟨rfl, hb⟩
  clear t0
  replace K_t := hide (Blk.below K_t.out hb (Blk.lt K_t.out))
  replace HB := hide (HB.out.trans (hb.mono HB.out.size))
  clear hb
  have t0 := (Blk.cell K_t.out 0).trans (rfl : _ = some (Value.int .i64 lot))
  go_wp2_with fail
  refine (HI_bad.out _ K_t.out).mono ?_
  rintro e w2 ⟨rfl, hb⟩
  clear t0
  replace K_t := hide (Blk.below K_t.out hb (Blk.lt K_t.out))
  replace HB := hide (HB.out.trans (hb.mono HB.out.size))
  clear hb
  go_upto_region 9 with (fail)
  have lt_s_t : w.heap.size < w2.heap.size := Blk.lt K_t.out
  replace K_t := K_t.out.alloc (.cells #[.string a, .string b] 26)
  replace HB := HB.out.alloc HB.out.size (.cells #[.string a, .string b] 26)
  have K_s := Blk.new w2 26 #[.string a, .string b]
  generalize w2.alloc (.cells #[.string a, .string b] 26) = wm at *
  replace K_t := hide K_t
  replace K_s := hide K_s
  replace HB := hide HB
  go_loopg [42] 2 (fun q iv wr => ∃ j : Nat, iv = .int .i64 (j : Int) ∧ q + j = 2 ∧ j ≤ 1 ∧ Below wm.heap.size wm wr)
  case atStart => exact ⟨0, rfl, rfl, by omega, Below.refl _ _⟩
  case round =>
    obtain ⟨j, rfl, hq, hjs, hb⟩ := hrel
    have hj : j = 0 ∨ j = 1 := by omega
    clear hjs
    replace K_t := hide (Blk.below K_t.out hb (Blk.lt K_t.out))
    replace K_s := hide (Blk.below K_s.out hb (Blk.lt K_s.out))
    replace HB := hide (HB.out.trans (hb.mono HB.out.size))
    have HL := hide hb
    clear hb
    rcases hj with rfl | rfl
    · skip
      have s0 := (Blk.cell K_s.out 0).trans (rfl : _ = some (Value.string a))
      have s1 := (Blk.cell K_s.out 1).trans (rfl : _ = some (Value.string b))
      go_wp2_with fail
      refine (HK0.out _ (HS.out.below HB.out (Nat.le_refl _))).mono ?_
      rintro e wy ⟨rfl, hb⟩
      replace HL := hide (HL.out.trans (hb.mono HL.out.size))
      clear s0 s1
      replace K_t := hide (Blk.below K_t.out hb (Blk.lt K_t.out))
      replace K_s := hide (Blk.below K_s.out hb (Blk.lt K_s.out))
      replace HB := hide (HB.out.trans (hb.mono HB.out.size))
      clear hb
      go_wp2_with fail
      go_roundg 1
      case measure => omega
      case rel => exact ⟨1, rfl, rfl, by omega, HL.out⟩
    · skip
      have s0 := (Blk.cell K_s.out 0).trans (rfl : _ = some (Value.string a))
      have s1 := (Blk.cell K_s.out 1).trans (rfl : _ = some (Value.string b))
      go_wp2_with fail
      refine (HK1.out _ (HS.out.below HB.out (Nat.le_refl _))).mono ?_
      rintro e wy ⟨rfl, hb⟩
      replace HL := hide (HL.out.trans (hb.mono HL.out.size))
      clear s0 s1
      replace K_t := hide (Blk.below K_t.out hb (Blk.lt K_t.out))
      replace K_s := hide (Blk.below K_s.out hb (Blk.lt K_s.out))
      replace HB := hide (HB.out.trans (hb.mono HB.out.size))
      clear hb
      go_wp2_with fail
      go_ret
      exact ⟨rfl, HB.out⟩

set_option maxRecDepth 100000 in
set_option maxHeartbeats 8000000 in
theorem needs_unit1 (w : World) (lot good bad : Int) (a b : ByteArray) (h1 : 1 ≤ lot) (h2 : lot ≤ 64) (h3 : 0 ≤ good) (h4 : good ≤ lot) (h5 : 0 ≤ bad) (h6 : bad ≤ lot) (h7 : good < bad) (p q : Rat) (ha : a.data.toList = RT p) (hb : b.data.toList = RT q) (hp : Fit p) (hq : Fit q) (hup : unitQ p = 2) (hs : Std w) :
    Calls Tryz.prog 50 #[.int .i64 lot, .int .i64 good, .int .i64 bad, .string a, .string b] w fun e w' => e = .returned (.int .i64 (2)) ∧ Below w.heap.size w w' := by
  have HS := hide hs
  have h7n : ¬ bad ≤ good := by omega
  have HK0 := hide (fun W (hS : Std W) => rcheck_any W a _ ha (by rw [Lib.size_eq, ha]; have := RT_len hp; omega) hS)
  have HK1 := hide (fun W (hS : Std W) => rcheck_any W b _ hb (by rw [Lib.size_eq, hb]; have := RT_len hq; omega) hS)
  rw [chkR_RT hp] at HK0
  rw [chkR_RT hq] at HK1
  have HU0 := hide (fun W (hS : Std W) => unit_any W a p ha hp hS)
  have HU1 := hide (fun W (hS : Std W) => unit_any W b q hb hq hS)
  rw [hup] at HU0
  clear ha hb hp hq hup hs h7
  have n1 : ¬ lot < 1 := by omega
  have n2 : ¬ 64 < lot := by omega
  have HI_good := hide (fun W (h : Blk W w.heap.size 3 #[.int .i64 lot]) => inside_any W good lot w.heap.size h)
  rw [ins_yes h3 h4] at HI_good
  have HI_bad := hide (fun W (h : Blk W w.heap.size 3 #[.int .i64 lot]) => inside_any W bad lot w.heap.size h)
  rw [ins_yes h5 h6] at HI_bad
  clear h1 h2 h3 h4 h5 h6
  have HB := allocs_below w [.cells #[.int .i64 lot] 3]
  have K_t : Blk (allocs w [.cells #[.int .i64 lot] 3]) (w.heap.size + 0) 3 #[.int .i64 lot] := allocs_at w [.cells #[.int .i64 lot] 3] 0 rfl
  unfold allocs at HB K_t
  simp only [List.foldl_cons, List.foldl_nil] at HB K_t
  rw [Nat.add_zero] at K_t
  go_enter Tryz.func50, Tryz.ntmps50
  go_upto_region 1 with (fail)
  generalize (w.alloc (.cells #[.int .i64 lot] 3)) = w0 at *
  replace K_t := hide K_t
  replace HB := hide HB
  have t0 := (Blk.cell K_t.out 0).trans (rfl : _ = some (Value.int .i64 lot))
  go_wp2_with fail
  refine (HI_good.out _ K_t.out).mono ?_
  rintro e w1 ⟨rfl, hb⟩
  clear t0
  replace K_t := hide (Blk.below K_t.out hb (Blk.lt K_t.out))
  replace HB := hide (HB.out.trans (hb.mono HB.out.size))
  clear hb
  have t0 := (Blk.cell K_t.out 0).trans (rfl : _ = some (Value.int .i64 lot))
  go_wp2_with fail
  refine (HI_bad.out _ K_t.out).mono ?_
  rintro e w2 ⟨rfl, hb⟩
  clear t0
  replace K_t := hide (Blk.below K_t.out hb (Blk.lt K_t.out))
  replace HB := hide (HB.out.trans (hb.mono HB.out.size))
  clear hb
  go_upto_region 9 with (fail)
  have lt_s_t : w.heap.size < w2.heap.size := Blk.lt K_t.out
  replace K_t := K_t.out.alloc (.cells #[.string a, .string b] 26)
  replace HB := HB.out.alloc HB.out.size (.cells #[.string a, .string b] 26)
  have K_s := Blk.new w2 26 #[.string a, .string b]
  generalize w2.alloc (.cells #[.string a, .string b] 26) = wm at *
  replace K_t := hide K_t
  replace K_s := hide K_s
  replace HB := hide HB
  go_loopg [42] 2 (fun q iv wr => ∃ j : Nat, iv = .int .i64 (j : Int) ∧ q + j = 2 ∧ Below wm.heap.size wm wr)
  case atStart => exact ⟨0, rfl, rfl, Below.refl _ _⟩
  case round =>
    obtain ⟨j, rfl, hq, hb⟩ := hrel
    have hj : j = 0 ∨ j = 1 ∨ j = 2 := by omega
    replace K_t := hide (Blk.below K_t.out hb (Blk.lt K_t.out))
    replace K_s := hide (Blk.below K_s.out hb (Blk.lt K_s.out))
    replace HB := hide (HB.out.trans (hb.mono HB.out.size))
    have HL := hide hb
    clear hb
    rcases hj with rfl | rfl | rfl
    · skip
      have s0 := (Blk.cell K_s.out 0).trans (rfl : _ = some (Value.string a))
      have s1 := (Blk.cell K_s.out 1).trans (rfl : _ = some (Value.string b))
      go_wp2_with fail
      refine (HK0.out _ (HS.out.below HB.out (Nat.le_refl _))).mono ?_
      rintro e wy ⟨rfl, hb⟩
      replace HL := hide (HL.out.trans (hb.mono HL.out.size))
      clear s0 s1
      replace K_t := hide (Blk.below K_t.out hb (Blk.lt K_t.out))
      replace K_s := hide (Blk.below K_s.out hb (Blk.lt K_s.out))
      replace HB := hide (HB.out.trans (hb.mono HB.out.size))
      clear hb
      go_wp2_with fail
      go_roundg 1
      case measure => omega
      case rel => exact ⟨1, rfl, rfl, HL.out⟩
    · skip
      have s0 := (Blk.cell K_s.out 0).trans (rfl : _ = some (Value.string a))
      have s1 := (Blk.cell K_s.out 1).trans (rfl : _ = some (Value.string b))
      go_wp2_with fail
      refine (HK1.out _ (HS.out.below HB.out (Nat.le_refl _))).mono ?_
      rintro e wy ⟨rfl, hb⟩
      replace HL := hide (HL.out.trans (hb.mono HL.out.size))
      clear s0 s1
      replace K_t := hide (Blk.below K_t.out hb (Blk.lt K_t.out))
      replace K_s := hide (Blk.below K_s.out hb (Blk.lt K_s.out))
      replace HB := hide (HB.out.trans (hb.mono HB.out.size))
      clear hb
      go_wp2_with fail
      go_roundg 0
      case measure => omega
      case rel => exact ⟨2, rfl, rfl, HL.out⟩
    · skip
      go_upto_region 16 with (fail)
      have lt_s_t : w.heap.size < wr.heap.size := Blk.lt K_t.out
      have lt_s_s : w2.heap.size < wr.heap.size := Blk.lt K_s.out
      replace K_t := K_t.out.alloc (.cells #[.string a, .string b] 26)
      replace K_s := K_s.out.alloc (.cells #[.string a, .string b] 26)
      replace HB := HB.out.alloc HB.out.size (.cells #[.string a, .string b] 26)
      have K_s := Blk.new wr 26 #[.string a, .string b]
      generalize wr.alloc (.cells #[.string a, .string b] 26) = wn at *
      replace K_t := hide K_t
      replace K_s := hide K_s
      replace HB := hide HB
      go_loopg [56] 2 (fun q iv wr => ∃ j : Nat, iv = .int .i64 (j : Int) ∧ q + j = 2 ∧ j ≤ 0 ∧ Below wn.heap.size wn wr)
      case atStart => exact ⟨0, rfl, rfl, by omega, Below.refl _ _⟩
      case round =>
        obtain ⟨j, rfl, hq, hjs, hb⟩ := hrel
        have hj : j = 0 := by omega
        clear hjs
        replace K_t := hide (Blk.below K_t.out hb (Blk.lt K_t.out))
        replace K_s := hide (Blk.below K_s.out hb (Blk.lt K_s.out))
        replace HB := hide (HB.out.trans (hb.mono HB.out.size))
        have HL := hide hb
        clear hb
        obtain rfl := hj
        have s0 := (Blk.cell K_s.out 0).trans (rfl : _ = some (Value.string a))
        have s1 := (Blk.cell K_s.out 1).trans (rfl : _ = some (Value.string b))
        go_wp2_with fail
        refine (HU0.out _ (HS.out.below HB.out (Nat.le_refl _))).mono ?_
        rintro e wy ⟨rfl, hb⟩
        replace HL := hide (HL.out.trans (hb.mono HL.out.size))
        clear s0 s1
        replace K_t := hide (Blk.below K_t.out hb (Blk.lt K_t.out))
        replace K_s := hide (Blk.below K_s.out hb (Blk.lt K_s.out))
        replace HB := hide (HB.out.trans (hb.mono HB.out.size))
        clear hb
        go_wp2_with fail
        go_ret
        exact ⟨rfl, HB.out⟩

set_option maxRecDepth 100000 in
set_option maxHeartbeats 8000000 in
theorem needs_unit2 (w : World) (lot good bad : Int) (a b : ByteArray) (h1 : 1 ≤ lot) (h2 : lot ≤ 64) (h3 : 0 ≤ good) (h4 : good ≤ lot) (h5 : 0 ≤ bad) (h6 : bad ≤ lot) (h7 : good < bad) (p q : Rat) (ha : a.data.toList = RT p) (hb : b.data.toList = RT q) (hp : Fit p) (hq : Fit q) (hup : unitQ p = 0) (huq : unitQ q = 2) (hs : Std w) :
    Calls Tryz.prog 50 #[.int .i64 lot, .int .i64 good, .int .i64 bad, .string a, .string b] w fun e w' => e = .returned (.int .i64 (2)) ∧ Below w.heap.size w w' := by
  have HS := hide hs
  have h7n : ¬ bad ≤ good := by omega
  have HK0 := hide (fun W (hS : Std W) => rcheck_any W a _ ha (by rw [Lib.size_eq, ha]; have := RT_len hp; omega) hS)
  have HK1 := hide (fun W (hS : Std W) => rcheck_any W b _ hb (by rw [Lib.size_eq, hb]; have := RT_len hq; omega) hS)
  rw [chkR_RT hp] at HK0
  rw [chkR_RT hq] at HK1
  have HU0 := hide (fun W (hS : Std W) => unit_any W a p ha hp hS)
  have HU1 := hide (fun W (hS : Std W) => unit_any W b q hb hq hS)
  rw [hup] at HU0
  rw [huq] at HU1
  clear ha hb hp hq hup huq hs h7
  have n1 : ¬ lot < 1 := by omega
  have n2 : ¬ 64 < lot := by omega
  have HI_good := hide (fun W (h : Blk W w.heap.size 3 #[.int .i64 lot]) => inside_any W good lot w.heap.size h)
  rw [ins_yes h3 h4] at HI_good
  have HI_bad := hide (fun W (h : Blk W w.heap.size 3 #[.int .i64 lot]) => inside_any W bad lot w.heap.size h)
  rw [ins_yes h5 h6] at HI_bad
  clear h1 h2 h3 h4 h5 h6
  have HB := allocs_below w [.cells #[.int .i64 lot] 3]
  have K_t : Blk (allocs w [.cells #[.int .i64 lot] 3]) (w.heap.size + 0) 3 #[.int .i64 lot] := allocs_at w [.cells #[.int .i64 lot] 3] 0 rfl
  unfold allocs at HB K_t
  simp only [List.foldl_cons, List.foldl_nil] at HB K_t
  rw [Nat.add_zero] at K_t
  go_enter Tryz.func50, Tryz.ntmps50
  go_upto_region 1 with (fail)
  generalize (w.alloc (.cells #[.int .i64 lot] 3)) = w0 at *
  replace K_t := hide K_t
  replace HB := hide HB
  have t0 := (Blk.cell K_t.out 0).trans (rfl : _ = some (Value.int .i64 lot))
  go_wp2_with fail
  refine (HI_good.out _ K_t.out).mono ?_
  rintro e w1 ⟨rfl, hb⟩
  clear t0
  replace K_t := hide (Blk.below K_t.out hb (Blk.lt K_t.out))
  replace HB := hide (HB.out.trans (hb.mono HB.out.size))
  clear hb
  have t0 := (Blk.cell K_t.out 0).trans (rfl : _ = some (Value.int .i64 lot))
  go_wp2_with fail
  refine (HI_bad.out _ K_t.out).mono ?_
  rintro e w2 ⟨rfl, hb⟩
  clear t0
  replace K_t := hide (Blk.below K_t.out hb (Blk.lt K_t.out))
  replace HB := hide (HB.out.trans (hb.mono HB.out.size))
  clear hb
  go_upto_region 9 with (fail)
  have lt_s_t : w.heap.size < w2.heap.size := Blk.lt K_t.out
  replace K_t := K_t.out.alloc (.cells #[.string a, .string b] 26)
  replace HB := HB.out.alloc HB.out.size (.cells #[.string a, .string b] 26)
  have K_s := Blk.new w2 26 #[.string a, .string b]
  generalize w2.alloc (.cells #[.string a, .string b] 26) = wm at *
  replace K_t := hide K_t
  replace K_s := hide K_s
  replace HB := hide HB
  go_loopg [42] 2 (fun q iv wr => ∃ j : Nat, iv = .int .i64 (j : Int) ∧ q + j = 2 ∧ Below wm.heap.size wm wr)
  case atStart => exact ⟨0, rfl, rfl, Below.refl _ _⟩
  case round =>
    obtain ⟨j, rfl, hq, hb⟩ := hrel
    have hj : j = 0 ∨ j = 1 ∨ j = 2 := by omega
    replace K_t := hide (Blk.below K_t.out hb (Blk.lt K_t.out))
    replace K_s := hide (Blk.below K_s.out hb (Blk.lt K_s.out))
    replace HB := hide (HB.out.trans (hb.mono HB.out.size))
    have HL := hide hb
    clear hb
    rcases hj with rfl | rfl | rfl
    · skip
      have s0 := (Blk.cell K_s.out 0).trans (rfl : _ = some (Value.string a))
      have s1 := (Blk.cell K_s.out 1).trans (rfl : _ = some (Value.string b))
      go_wp2_with fail
      refine (HK0.out _ (HS.out.below HB.out (Nat.le_refl _))).mono ?_
      rintro e wy ⟨rfl, hb⟩
      replace HL := hide (HL.out.trans (hb.mono HL.out.size))
      clear s0 s1
      replace K_t := hide (Blk.below K_t.out hb (Blk.lt K_t.out))
      replace K_s := hide (Blk.below K_s.out hb (Blk.lt K_s.out))
      replace HB := hide (HB.out.trans (hb.mono HB.out.size))
      clear hb
      go_wp2_with fail
      go_roundg 1
      case measure => omega
      case rel => exact ⟨1, rfl, rfl, HL.out⟩
    · skip
      have s0 := (Blk.cell K_s.out 0).trans (rfl : _ = some (Value.string a))
      have s1 := (Blk.cell K_s.out 1).trans (rfl : _ = some (Value.string b))
      go_wp2_with fail
      refine (HK1.out _ (HS.out.below HB.out (Nat.le_refl _))).mono ?_
      rintro e wy ⟨rfl, hb⟩
      replace HL := hide (HL.out.trans (hb.mono HL.out.size))
      clear s0 s1
      replace K_t := hide (Blk.below K_t.out hb (Blk.lt K_t.out))
      replace K_s := hide (Blk.below K_s.out hb (Blk.lt K_s.out))
      replace HB := hide (HB.out.trans (hb.mono HB.out.size))
      clear hb
      go_wp2_with fail
      go_roundg 0
      case measure => omega
      case rel => exact ⟨2, rfl, rfl, HL.out⟩
    · skip
      go_upto_region 16 with (fail)
      have lt_s_t : w.heap.size < wr.heap.size := Blk.lt K_t.out
      have lt_s_s : w2.heap.size < wr.heap.size := Blk.lt K_s.out
      replace K_t := K_t.out.alloc (.cells #[.string a, .string b] 26)
      replace K_s := K_s.out.alloc (.cells #[.string a, .string b] 26)
      replace HB := HB.out.alloc HB.out.size (.cells #[.string a, .string b] 26)
      have K_s := Blk.new wr 26 #[.string a, .string b]
      generalize wr.alloc (.cells #[.string a, .string b] 26) = wn at *
      replace K_t := hide K_t
      replace K_s := hide K_s
      replace HB := hide HB
      go_loopg [56] 2 (fun q iv wr => ∃ j : Nat, iv = .int .i64 (j : Int) ∧ q + j = 2 ∧ j ≤ 1 ∧ Below wn.heap.size wn wr)
      case atStart => exact ⟨0, rfl, rfl, by omega, Below.refl _ _⟩
      case round =>
        obtain ⟨j, rfl, hq, hjs, hb⟩ := hrel
        have hj : j = 0 ∨ j = 1 := by omega
        clear hjs
        replace K_t := hide (Blk.below K_t.out hb (Blk.lt K_t.out))
        replace K_s := hide (Blk.below K_s.out hb (Blk.lt K_s.out))
        replace HB := hide (HB.out.trans (hb.mono HB.out.size))
        have HL := hide hb
        clear hb
        rcases hj with rfl | rfl
        · skip
          have s0 := (Blk.cell K_s.out 0).trans (rfl : _ = some (Value.string a))
          have s1 := (Blk.cell K_s.out 1).trans (rfl : _ = some (Value.string b))
          go_wp2_with fail
          refine (HU0.out _ (HS.out.below HB.out (Nat.le_refl _))).mono ?_
          rintro e wy ⟨rfl, hb⟩
          replace HL := hide (HL.out.trans (hb.mono HL.out.size))
          clear s0 s1
          replace K_t := hide (Blk.below K_t.out hb (Blk.lt K_t.out))
          replace K_s := hide (Blk.below K_s.out hb (Blk.lt K_s.out))
          replace HB := hide (HB.out.trans (hb.mono HB.out.size))
          clear hb
          go_wp2_with fail
          go_roundg 1
          case measure => omega
          case rel => exact ⟨1, rfl, rfl, by omega, HL.out⟩
        · skip
          have s0 := (Blk.cell K_s.out 0).trans (rfl : _ = some (Value.string a))
          have s1 := (Blk.cell K_s.out 1).trans (rfl : _ = some (Value.string b))
          go_wp2_with fail
          refine (HU1.out _ (HS.out.below HB.out (Nat.le_refl _))).mono ?_
          rintro e wy ⟨rfl, hb⟩
          replace HL := hide (HL.out.trans (hb.mono HL.out.size))
          clear s0 s1
          replace K_t := hide (Blk.below K_t.out hb (Blk.lt K_t.out))
          replace K_s := hide (Blk.below K_s.out hb (Blk.lt K_s.out))
          replace HB := hide (HB.out.trans (hb.mono HB.out.size))
          clear hb
          go_wp2_with fail
          go_ret
          exact ⟨rfl, HB.out⟩

end Go.Proofs.YtaccdkbofhlbkaaGreatDoor
