/- The reference: Short, Right, Meets, Least; plan.Least at wrong needs. -/
import Derived.Test.YtaccdkbofhlbkaaGreatDoorPlneed2
import Derived.Test.YtaccdkbofhlbkaaGreatDoorPlleast
import Derived.Test.YtaccdkbofhlbkaaGreatDoorRbin
namespace Go.Proofs.YtaccdkbofhlbkaaGreatDoor
open Go.RowKit Go.Shelf MLab

set_option maxRecDepth 100000 in
set_option maxHeartbeats 1000000 in
theorem rslashL_any (w : World) (s : ByteArray) (l : List UInt8) (hl : s.data.toList = l) (hsz : s.size ≤ 9223372036854775807) :
    Calls Tryz.prog 80 #[.string s] w fun e w' => e = .returned (.int .i64 (slR l)) ∧ w = w' := by
  have hlen : s.size = l.length := by rw [Lib.size_eq, hl]
  have HL := hide hl
  have HLEN := hide hlen
  clear hl hlen
  go_enter Tryz.func80, Tryz.ntmps80
  go_wp2_with fail
  go_loopg [3] s.size (fun q iv wr => ∃ j : Nat, iv = .int .i64 (j : Int) ∧ q + j = s.size ∧ (∀ k, k < j → l[k]? ≠ some 47) ∧ wr = w)
  case atStart => exact ⟨0, rfl, rfl, fun k h => by omega, rfl⟩
  case round =>
    obtain ⟨j, rfl, hq, hok, rfl⟩ := hrel
    have hj : j ≤ s.size := by omega
    have HQ := hide hq
    have HOK := hide hok
    clear hq hok
    by_cases hlt : j < s.size
    · have hji : (j : Int) < (s.size : Int) := by omega
      have hg : l[j]? = some (s[j]'hlt) := by
        rw [← HL.out, Array.getElem?_toList]
        exact Array.getElem?_eq_getElem hlt
      have HGT := hide hg
      clear hg
      by_cases hz : ((s[j]'hlt).toNat : Int) = 47
      · have hz2 : (((s[j]'hlt).toNat : Int) == 47) = true := by rw [hz]; rfl
        have HZ := hide hz
        go_wp2_with fail
        go_ret
        refine ⟨?_, rfl⟩
        have hb : s[j]'hlt = 47 := by
          have := HZ.out
          apply UInt8.toNat_inj.1
          show (s[j]'hlt).toNat = 47
          omega
        have h1 : sl l = j := sl_eq (by rw [HGT.out, hb]) HOK.out
        rw [slR, h1, if_pos (by rw [← HLEN.out]; exact hlt)]; rfl
      · have hz2 : (((s[j]'hlt).toNat : Int) == 47) = false := by rw [beq_eq_false_iff_ne]; exact hz
        have HZ := hide hz
        go_wp2_with fail
        go_roundg (gk - 1)
        case measure => have := HQ.out; omega
        case rel =>
          refine ⟨j + 1, by go_num, by have := HQ.out; omega, fun k hk => ?_, rfl⟩
          by_cases e : k = j
          · rw [e, HGT.out]
            intro h
            injection h with h
            exact HZ.out (by rw [h]; rfl)
          · exact HOK.out k (by omega)
    · have hji : ¬ (j : Int) < (s.size : Int) := by omega
      go_wp2_with fail
      go_ret
      refine ⟨?_, rfl⟩
      have h1 : sl l = l.length := sl_none (fun k => by
        by_cases hk : k < l.length
        · exact HOK.out k (by have := HLEN.out; omega)
        · rw [List.getElem?_eq_none (by omega)]; simp)
      rw [slR, h1, if_neg (by omega)]; rfl

set_option maxRecDepth 100000 in
theorem rsplitL_any (w : World) (s : ByteArray) (l : List UInt8) (hl : s.data.toList = l) (hsz : s.size ≤ 9223372036854775807) :
    Calls Tryz.prog 49 #[.string s] w fun e w' => e = .returned (.tuple #[.string ⟨(numL l).toArray⟩, .string ⟨(denL l).toArray⟩]) ∧ Below w.heap.size w w' := by
  have hlen : s.size = l.length := by rw [Lib.size_eq, hl]
  have HS := hide (rslashL_any w s l hl hsz)
  by_cases hz : sl l < l.length
  · have hsl : slR l = (sl l : Int) := by rw [slR, if_pos hz]
    obtain ⟨k, hk⟩ : ∃ k, sl l = k := ⟨_, rfl⟩
    rw [hk] at hsl hz
    have e1 : s.extract 0 k = ⟨(numL l).toArray⟩ := by
      apply ByteArray.ext
      apply Array.ext'
      rw [Lib.extract_data, hl, numL, hk]; simp
    have e2 : s.extract (k + 1) s.size = ⟨(denL l).toArray⟩ := by
      apply ByteArray.ext
      apply Array.ext'
      rw [Lib.extract_data, hl, denL, hk, if_pos hz, List.take_of_length_le (by simp; omega)]
    have hk0 : ¬ (k : Int) < 0 := by omega
    have hk1 : (k : Int) ≤ (s.size : Int) := by omega
    have hk2 : (k : Int) + 1 ≤ (s.size : Int) := by omega
    have hkn : ((k : Int) + 1).toNat = k + 1 := by omega
    have hkz : (k : Int) < (s.size : Int) := by omega
    have HSL := hide hsl
    have E1 := hide e1
    have E2 := hide e2
    clear hsl e1 e2 hl hk hz hlen
    go_enter Tryz.func49, Tryz.ntmps49
    go_wp2_with fail
    refine HS.out.mono ?_
    rw [HSL.out]
    rintro e w1 ⟨rfl, rfl⟩
    go_upto_region 4 with (fail)
    go_quiet (fail)
    go_wp2_with fail
    go_ret2
    exact ⟨by rw [← E1.out, ← E2.out]; rfl, below_drewN (Below.refl _ _) _⟩
  · have hsl : slR l = -1 := by rw [slR, if_neg hz]
    have e1 : s = ⟨(numL l).toArray⟩ := by
      apply ByteArray.ext
      apply Array.ext'
      have := sl_le l
      rw [hl, numL, List.take_of_length_le (by omega)]
    have e2 : denL l = [49] := by rw [denL, if_neg hz]
    have HSL := hide hsl
    have E1 := hide e1
    have E2 := hide e2
    clear hsl e1 e2 hl hz hlen
    go_enter Tryz.func49, Tryz.ntmps49
    go_wp2_with fail
    refine HS.out.mono ?_
    rw [HSL.out]
    rintro e w1 ⟨rfl, rfl⟩
    go_wp2_with fail
    go_ret2
    exact ⟨by rw [← E1.out, E2.out]; rfl, Below.refl _ _⟩

/-- A text has a short numerator and a short denominator. -/
def shortR (l : List UInt8) : Bool := decide ((numL l).length ≤ 30) && decide ((denL l).length ≤ 30)

set_option maxRecDepth 100000 in
set_option maxHeartbeats 2000000 in
theorem rshortL_any (w : World) (a : ByteArray) (l : List UInt8) (hl : a.data.toList = l) (hsz : a.size ≤ 9223372036854775807) :
    Calls Tryz.prog 20 #[.string a] w fun e w' => e = .returned (.bool (shortR l)) ∧ Below w.heap.size w w' := by
  have HP := hide (rsplitL_any w a l hl hsz)
  obtain ⟨n, hn⟩ : ∃ n, (numL l).length = n := ⟨_, rfl⟩
  obtain ⟨m, hm⟩ : ∃ n, (denL l).length = n := ⟨_, rfl⟩
  have s1 : (⟨(numL l).toArray⟩ : ByteArray).size = n := by rw [Lib.size_eq]; exact hn
  have s2 : (⟨(denL l).toArray⟩ : ByteArray).size = m := by rw [Lib.size_eq]; exact hm
  obtain ⟨u, hu⟩ : ∃ u : ByteArray, (⟨(numL l).toArray⟩ : ByteArray) = u := ⟨_, rfl⟩
  obtain ⟨v, hv⟩ : ∃ u : ByteArray, (⟨(denL l).toArray⟩ : ByteArray) = u := ⟨_, rfl⟩
  rw [hu] at HP s1
  rw [hv] at HP s2
  clear hu hv hl hsz
  by_cases h0 : 30 < n
  · have hv : shortR l = false := by unfold shortR; simp; omega
    rw [hv]
    clear hv
    have h0p : ¬ (n : Int) ≤ 30 := by omega
    clear hn hm
    clear h0
    go_enter Tryz.func20, Tryz.ntmps20
    go_wp2_with fail
    refine HP.out.mono ?_
    rintro e w1 ⟨rfl, hb⟩
    have HB := hide hb
    clear hb HP
    go_wp2_with fail
    go_ret
    exact ⟨rfl, HB.out⟩
  · by_cases h1 : 30 < m
    · have hv : shortR l = false := by unfold shortR; simp; omega
      rw [hv]
      clear hv
      have h0p : (n : Int) ≤ 30 := by omega
      have h1p : ¬ (m : Int) ≤ 30 := by omega
      clear hn hm
      clear h0 h1
      go_enter Tryz.func20, Tryz.ntmps20
      go_wp2_with fail
      refine HP.out.mono ?_
      rintro e w1 ⟨rfl, hb⟩
      have HB := hide hb
      clear hb HP
      go_wp2_with fail
      go_ret
      exact ⟨by rw [show false = decide ((m : Int) ≤ 30) from (decide_eq_false (by omega)).symm]; rfl, HB.out⟩
    · have hv : shortR l = true := by unfold shortR; simp; omega
      rw [hv]
      clear hv
      have h0p : (n : Int) ≤ 30 := by omega
      have h1p : (m : Int) ≤ 30 := by omega
      clear hn hm
      clear h0 h1
      go_enter Tryz.func20, Tryz.ntmps20
      go_wp2_with fail
      refine HP.out.mono ?_
      rintro e w1 ⟨rfl, hb⟩
      have HB := hide hb
      clear hb HP
      go_wp2_with fail
      go_ret
      exact ⟨rfl, HB.out⟩

/-- The number of the error of needs. -/
def rtV (lot good bad c1 c2 u1 u2 : Int) : Int :=
  if ¬ (1 ≤ lot ∧ lot ≤ 64 ∧ (0 ≤ good ∧ good ≤ lot) ∧ 0 ≤ bad ∧ bad ≤ lot) then 2 else if bad ≤ good then 9 else if c1 ≠ 0 then c1 else if c2 ≠ 0 then c2 else if u1 ≠ 0 ∨ u2 ≠ 0 then 2 else 0

set_option maxRecDepth 100000 in
set_option maxHeartbeats 4000000 in
theorem right_any (w : World) (lot good bad c1 c2 u1 u2 : Int) (a b : ByteArray) (k1 : (∀ W, Calls Tryz.prog 33 #[.string a] W fun e w' => e = .returned (.int .i64 c1) ∧ Below W.heap.size W w')) (k2 : (∀ W, Calls Tryz.prog 33 #[.string b] W fun e w' => e = .returned (.int .i64 c2) ∧ Below W.heap.size W w')) (v1 : (∀ W, Calls Tryz.prog 68 #[.string a] W fun e w' => e = .returned (.int .i64 u1) ∧ Below W.heap.size W w')) (v2 : (∀ W, Calls Tryz.prog 68 #[.string b] W fun e w' => e = .returned (.int .i64 u2) ∧ Below W.heap.size W w')) :
    Calls Tryz.prog 52 #[.agg #[.int .i64 lot, .int .i64 good, .int .i64 bad, .string a, .string b]] w fun e w' => e = .returned (.int .i64 (rtV lot good bad c1 c2 u1 u2)) ∧ Below w.heap.size w w' := by
  have K1 := hide k1
  have K2 := hide k2
  have V1 := hide v1
  have V2 := hide v2
  clear k1 k2 v1 v2
  by_cases h1 : lot < 1
  · have hr : rtV lot good bad c1 c2 u1 u2 = 2 := by unfold rtV; rw [if_pos (by omega)]
    rw [hr]
    clear hr
    have HB := allocs_below w [.cells #[.int .i64 lot, .int .i64 good, .int .i64 bad, .string a, .string b] 38]
    have K_x : Blk (allocs w [.cells #[.int .i64 lot, .int .i64 good, .int .i64 bad, .string a, .string b] 38]) (w.heap.size + 0) 38 #[.int .i64 lot, .int .i64 good, .int .i64 bad, .string a, .string b] := allocs_at w [.cells #[.int .i64 lot, .int .i64 good, .int .i64 bad, .string a, .string b] 38] 0 rfl
    unfold allocs at HB K_x
    simp only [List.foldl_cons, List.foldl_nil] at HB K_x
    rw [Nat.add_zero] at K_x
    go_enter Tryz.func52, Tryz.ntmps52
    go_upto_region 1 with (fail)
    generalize (w.alloc (.cells #[.int .i64 lot, .int .i64 good, .int .i64 bad, .string a, .string b] 38)) = w0 at *
    replace K_x := hide K_x
    replace HB := hide HB
    have x0 := (Blk.cell K_x.out 0).trans (rfl : _ = some (Value.int .i64 lot))
    have x1 := (Blk.cell K_x.out 1).trans (rfl : _ = some (Value.int .i64 good))
    have x2 := (Blk.cell K_x.out 2).trans (rfl : _ = some (Value.int .i64 bad))
    have x3 := (Blk.cell K_x.out 3).trans (rfl : _ = some (Value.string a))
    have x4 := (Blk.cell K_x.out 4).trans (rfl : _ = some (Value.string b))
    go_wp2_with fail
    go_ret
    exact ⟨rfl, HB.out⟩
  · by_cases h2 : 64 < lot
    · have hr : rtV lot good bad c1 c2 u1 u2 = 2 := by unfold rtV; rw [if_pos (by omega)]
      rw [hr]
      clear hr
      have HB := allocs_below w [.cells #[.int .i64 lot, .int .i64 good, .int .i64 bad, .string a, .string b] 38]
      have K_x : Blk (allocs w [.cells #[.int .i64 lot, .int .i64 good, .int .i64 bad, .string a, .string b] 38]) (w.heap.size + 0) 38 #[.int .i64 lot, .int .i64 good, .int .i64 bad, .string a, .string b] := allocs_at w [.cells #[.int .i64 lot, .int .i64 good, .int .i64 bad, .string a, .string b] 38] 0 rfl
      unfold allocs at HB K_x
      simp only [List.foldl_cons, List.foldl_nil] at HB K_x
      rw [Nat.add_zero] at K_x
      go_enter Tryz.func52, Tryz.ntmps52
      go_upto_region 1 with (fail)
      generalize (w.alloc (.cells #[.int .i64 lot, .int .i64 good, .int .i64 bad, .string a, .string b] 38)) = w0 at *
      replace K_x := hide K_x
      replace HB := hide HB
      have x0 := (Blk.cell K_x.out 0).trans (rfl : _ = some (Value.int .i64 lot))
      have x1 := (Blk.cell K_x.out 1).trans (rfl : _ = some (Value.int .i64 good))
      have x2 := (Blk.cell K_x.out 2).trans (rfl : _ = some (Value.int .i64 bad))
      have x3 := (Blk.cell K_x.out 3).trans (rfl : _ = some (Value.string a))
      have x4 := (Blk.cell K_x.out 4).trans (rfl : _ = some (Value.string b))
      go_wp2_with fail
      go_ret
      exact ⟨rfl, HB.out⟩
    · by_cases h3 : good < 0
      · have hr : rtV lot good bad c1 c2 u1 u2 = 2 := by unfold rtV; rw [if_pos (by omega)]
        rw [hr]
        clear hr
        have HB := allocs_below w [.cells #[.int .i64 lot, .int .i64 good, .int .i64 bad, .string a, .string b] 38]
        have K_x : Blk (allocs w [.cells #[.int .i64 lot, .int .i64 good, .int .i64 bad, .string a, .string b] 38]) (w.heap.size + 0) 38 #[.int .i64 lot, .int .i64 good, .int .i64 bad, .string a, .string b] := allocs_at w [.cells #[.int .i64 lot, .int .i64 good, .int .i64 bad, .string a, .string b] 38] 0 rfl
        unfold allocs at HB K_x
        simp only [List.foldl_cons, List.foldl_nil] at HB K_x
        rw [Nat.add_zero] at K_x
        go_enter Tryz.func52, Tryz.ntmps52
        go_upto_region 1 with (fail)
        generalize (w.alloc (.cells #[.int .i64 lot, .int .i64 good, .int .i64 bad, .string a, .string b] 38)) = w0 at *
        replace K_x := hide K_x
        replace HB := hide HB
        have x0 := (Blk.cell K_x.out 0).trans (rfl : _ = some (Value.int .i64 lot))
        have x1 := (Blk.cell K_x.out 1).trans (rfl : _ = some (Value.int .i64 good))
        have x2 := (Blk.cell K_x.out 2).trans (rfl : _ = some (Value.int .i64 bad))
        have x3 := (Blk.cell K_x.out 3).trans (rfl : _ = some (Value.string a))
        have x4 := (Blk.cell K_x.out 4).trans (rfl : _ = some (Value.string b))
        go_wp2_with fail
        go_ret
        exact ⟨rfl, HB.out⟩
      · by_cases h4 : lot < good
        · have hr : rtV lot good bad c1 c2 u1 u2 = 2 := by unfold rtV; rw [if_pos (by omega)]
          rw [hr]
          clear hr
          have HB := allocs_below w [.cells #[.int .i64 lot, .int .i64 good, .int .i64 bad, .string a, .string b] 38]
          have K_x : Blk (allocs w [.cells #[.int .i64 lot, .int .i64 good, .int .i64 bad, .string a, .string b] 38]) (w.heap.size + 0) 38 #[.int .i64 lot, .int .i64 good, .int .i64 bad, .string a, .string b] := allocs_at w [.cells #[.int .i64 lot, .int .i64 good, .int .i64 bad, .string a, .string b] 38] 0 rfl
          unfold allocs at HB K_x
          simp only [List.foldl_cons, List.foldl_nil] at HB K_x
          rw [Nat.add_zero] at K_x
          go_enter Tryz.func52, Tryz.ntmps52
          go_upto_region 1 with (fail)
          generalize (w.alloc (.cells #[.int .i64 lot, .int .i64 good, .int .i64 bad, .string a, .string b] 38)) = w0 at *
          replace K_x := hide K_x
          replace HB := hide HB
          have x0 := (Blk.cell K_x.out 0).trans (rfl : _ = some (Value.int .i64 lot))
          have x1 := (Blk.cell K_x.out 1).trans (rfl : _ = some (Value.int .i64 good))
          have x2 := (Blk.cell K_x.out 2).trans (rfl : _ = some (Value.int .i64 bad))
          have x3 := (Blk.cell K_x.out 3).trans (rfl : _ = some (Value.string a))
          have x4 := (Blk.cell K_x.out 4).trans (rfl : _ = some (Value.string b))
          go_wp2_with fail
          go_ret
          exact ⟨rfl, HB.out⟩
        · by_cases h5 : bad < 0
          · have hr : rtV lot good bad c1 c2 u1 u2 = 2 := by unfold rtV; rw [if_pos (by omega)]
            rw [hr]
            clear hr
            have HB := allocs_below w [.cells #[.int .i64 lot, .int .i64 good, .int .i64 bad, .string a, .string b] 38]
            have K_x : Blk (allocs w [.cells #[.int .i64 lot, .int .i64 good, .int .i64 bad, .string a, .string b] 38]) (w.heap.size + 0) 38 #[.int .i64 lot, .int .i64 good, .int .i64 bad, .string a, .string b] := allocs_at w [.cells #[.int .i64 lot, .int .i64 good, .int .i64 bad, .string a, .string b] 38] 0 rfl
            unfold allocs at HB K_x
            simp only [List.foldl_cons, List.foldl_nil] at HB K_x
            rw [Nat.add_zero] at K_x
            go_enter Tryz.func52, Tryz.ntmps52
            go_upto_region 1 with (fail)
            generalize (w.alloc (.cells #[.int .i64 lot, .int .i64 good, .int .i64 bad, .string a, .string b] 38)) = w0 at *
            replace K_x := hide K_x
            replace HB := hide HB
            have x0 := (Blk.cell K_x.out 0).trans (rfl : _ = some (Value.int .i64 lot))
            have x1 := (Blk.cell K_x.out 1).trans (rfl : _ = some (Value.int .i64 good))
            have x2 := (Blk.cell K_x.out 2).trans (rfl : _ = some (Value.int .i64 bad))
            have x3 := (Blk.cell K_x.out 3).trans (rfl : _ = some (Value.string a))
            have x4 := (Blk.cell K_x.out 4).trans (rfl : _ = some (Value.string b))
            go_wp2_with fail
            go_ret
            exact ⟨rfl, HB.out⟩
          · by_cases h6 : lot < bad
            · have hr : rtV lot good bad c1 c2 u1 u2 = 2 := by unfold rtV; rw [if_pos (by omega)]
              rw [hr]
              clear hr
              have HB := allocs_below w [.cells #[.int .i64 lot, .int .i64 good, .int .i64 bad, .string a, .string b] 38]
              have K_x : Blk (allocs w [.cells #[.int .i64 lot, .int .i64 good, .int .i64 bad, .string a, .string b] 38]) (w.heap.size + 0) 38 #[.int .i64 lot, .int .i64 good, .int .i64 bad, .string a, .string b] := allocs_at w [.cells #[.int .i64 lot, .int .i64 good, .int .i64 bad, .string a, .string b] 38] 0 rfl
              unfold allocs at HB K_x
              simp only [List.foldl_cons, List.foldl_nil] at HB K_x
              rw [Nat.add_zero] at K_x
              go_enter Tryz.func52, Tryz.ntmps52
              go_upto_region 1 with (fail)
              generalize (w.alloc (.cells #[.int .i64 lot, .int .i64 good, .int .i64 bad, .string a, .string b] 38)) = w0 at *
              replace K_x := hide K_x
              replace HB := hide HB
              have x0 := (Blk.cell K_x.out 0).trans (rfl : _ = some (Value.int .i64 lot))
              have x1 := (Blk.cell K_x.out 1).trans (rfl : _ = some (Value.int .i64 good))
              have x2 := (Blk.cell K_x.out 2).trans (rfl : _ = some (Value.int .i64 bad))
              have x3 := (Blk.cell K_x.out 3).trans (rfl : _ = some (Value.string a))
              have x4 := (Blk.cell K_x.out 4).trans (rfl : _ = some (Value.string b))
              go_wp2_with fail
              go_ret
              exact ⟨rfl, HB.out⟩
            · by_cases h7 : bad ≤ good
              · have hr : rtV lot good bad c1 c2 u1 u2 = 9 := by unfold rtV; rw [if_neg (by omega)]; rw [if_pos (by omega)]
                rw [hr]
                clear hr
                have HB := allocs_below w [.cells #[.int .i64 lot, .int .i64 good, .int .i64 bad, .string a, .string b] 38]
                have K_x : Blk (allocs w [.cells #[.int .i64 lot, .int .i64 good, .int .i64 bad, .string a, .string b] 38]) (w.heap.size + 0) 38 #[.int .i64 lot, .int .i64 good, .int .i64 bad, .string a, .string b] := allocs_at w [.cells #[.int .i64 lot, .int .i64 good, .int .i64 bad, .string a, .string b] 38] 0 rfl
                unfold allocs at HB K_x
                simp only [List.foldl_cons, List.foldl_nil] at HB K_x
                rw [Nat.add_zero] at K_x
                go_enter Tryz.func52, Tryz.ntmps52
                go_upto_region 1 with (fail)
                generalize (w.alloc (.cells #[.int .i64 lot, .int .i64 good, .int .i64 bad, .string a, .string b] 38)) = w0 at *
                replace K_x := hide K_x
                replace HB := hide HB
                have x0 := (Blk.cell K_x.out 0).trans (rfl : _ = some (Value.int .i64 lot))
                have x1 := (Blk.cell K_x.out 1).trans (rfl : _ = some (Value.int .i64 good))
                have x2 := (Blk.cell K_x.out 2).trans (rfl : _ = some (Value.int .i64 bad))
                have x3 := (Blk.cell K_x.out 3).trans (rfl : _ = some (Value.string a))
                have x4 := (Blk.cell K_x.out 4).trans (rfl : _ = some (Value.string b))
                go_wp2_with fail
                go_ret
                exact ⟨rfl, HB.out⟩
              · by_cases h8 : ¬ c1 = 0
                · have hr : rtV lot good bad c1 c2 u1 u2 = c1 := by unfold rtV; rw [if_neg (by omega)]; rw [if_neg (by omega)]; rw [if_pos h8]
                  rw [hr]
                  clear hr
                  have hne0 : (c1 == 0) = false := by simpa using h8
                  have hnf0 : (c1 != 0) = true := by simpa using h8
                  have HB := allocs_below w [.cells #[.int .i64 lot, .int .i64 good, .int .i64 bad, .string a, .string b] 38]
                  have K_x : Blk (allocs w [.cells #[.int .i64 lot, .int .i64 good, .int .i64 bad, .string a, .string b] 38]) (w.heap.size + 0) 38 #[.int .i64 lot, .int .i64 good, .int .i64 bad, .string a, .string b] := allocs_at w [.cells #[.int .i64 lot, .int .i64 good, .int .i64 bad, .string a, .string b] 38] 0 rfl
                  unfold allocs at HB K_x
                  simp only [List.foldl_cons, List.foldl_nil] at HB K_x
                  rw [Nat.add_zero] at K_x
                  go_enter Tryz.func52, Tryz.ntmps52
                  go_upto_region 1 with (fail)
                  generalize (w.alloc (.cells #[.int .i64 lot, .int .i64 good, .int .i64 bad, .string a, .string b] 38)) = w0 at *
                  replace K_x := hide K_x
                  replace HB := hide HB
                  have x0 := (Blk.cell K_x.out 0).trans (rfl : _ = some (Value.int .i64 lot))
                  have x1 := (Blk.cell K_x.out 1).trans (rfl : _ = some (Value.int .i64 good))
                  have x2 := (Blk.cell K_x.out 2).trans (rfl : _ = some (Value.int .i64 bad))
                  have x3 := (Blk.cell K_x.out 3).trans (rfl : _ = some (Value.string a))
                  have x4 := (Blk.cell K_x.out 4).trans (rfl : _ = some (Value.string b))
                  go_wp2_with fail
                  refine (K1.out _).mono ?_
                  rintro e w1 ⟨rfl, hb⟩
                  clear x0 x1 x2 x3 x4
                  replace K_x := hide (Blk.below K_x.out hb (Blk.lt K_x.out))
                  replace HB := hide (HB.out.trans (hb.mono HB.out.size))
                  clear hb
                  go_wp2_with fail
                  go_ret
                  exact ⟨rfl, HB.out⟩
                · by_cases h9 : ¬ c2 = 0
                  · have h8q : c1 = 0 := Classical.not_not.1 h8
                    have hr : rtV lot good bad c1 c2 u1 u2 = c2 := by unfold rtV; rw [if_neg (by omega)]; rw [if_neg (by omega)]; rw [if_neg (fun h => h h8q)]; rw [if_pos h9]
                    rw [hr]
                    clear hr
                    rw [h8q] at K1
                    clear h8 h8q
                    have hne1 : (c2 == 0) = false := by simpa using h9
                    have hnf1 : (c2 != 0) = true := by simpa using h9
                    have HB := allocs_below w [.cells #[.int .i64 lot, .int .i64 good, .int .i64 bad, .string a, .string b] 38]
                    have K_x : Blk (allocs w [.cells #[.int .i64 lot, .int .i64 good, .int .i64 bad, .string a, .string b] 38]) (w.heap.size + 0) 38 #[.int .i64 lot, .int .i64 good, .int .i64 bad, .string a, .string b] := allocs_at w [.cells #[.int .i64 lot, .int .i64 good, .int .i64 bad, .string a, .string b] 38] 0 rfl
                    unfold allocs at HB K_x
                    simp only [List.foldl_cons, List.foldl_nil] at HB K_x
                    rw [Nat.add_zero] at K_x
                    go_enter Tryz.func52, Tryz.ntmps52
                    go_upto_region 1 with (fail)
                    generalize (w.alloc (.cells #[.int .i64 lot, .int .i64 good, .int .i64 bad, .string a, .string b] 38)) = w0 at *
                    replace K_x := hide K_x
                    replace HB := hide HB
                    have x0 := (Blk.cell K_x.out 0).trans (rfl : _ = some (Value.int .i64 lot))
                    have x1 := (Blk.cell K_x.out 1).trans (rfl : _ = some (Value.int .i64 good))
                    have x2 := (Blk.cell K_x.out 2).trans (rfl : _ = some (Value.int .i64 bad))
                    have x3 := (Blk.cell K_x.out 3).trans (rfl : _ = some (Value.string a))
                    have x4 := (Blk.cell K_x.out 4).trans (rfl : _ = some (Value.string b))
                    go_wp2_with fail
                    refine (K1.out _).mono ?_
                    rintro e w1 ⟨rfl, hb⟩
                    clear x0 x1 x2 x3 x4
                    replace K_x := hide (Blk.below K_x.out hb (Blk.lt K_x.out))
                    replace HB := hide (HB.out.trans (hb.mono HB.out.size))
                    clear hb
                    have x0 := (Blk.cell K_x.out 0).trans (rfl : _ = some (Value.int .i64 lot))
                    have x1 := (Blk.cell K_x.out 1).trans (rfl : _ = some (Value.int .i64 good))
                    have x2 := (Blk.cell K_x.out 2).trans (rfl : _ = some (Value.int .i64 bad))
                    have x3 := (Blk.cell K_x.out 3).trans (rfl : _ = some (Value.string a))
                    have x4 := (Blk.cell K_x.out 4).trans (rfl : _ = some (Value.string b))
                    go_wp2_with fail
                    refine (K2.out _).mono ?_
                    rintro e w2 ⟨rfl, hb⟩
                    clear x0 x1 x2 x3 x4
                    replace K_x := hide (Blk.below K_x.out hb (Blk.lt K_x.out))
                    replace HB := hide (HB.out.trans (hb.mono HB.out.size))
                    clear hb
                    go_wp2_with fail
                    go_ret
                    exact ⟨rfl, HB.out⟩
                  · by_cases h10 : ¬ u1 = 0
                    · have h8q : c1 = 0 := Classical.not_not.1 h8
                      have h9q : c2 = 0 := Classical.not_not.1 h9
                      have hr : rtV lot good bad c1 c2 u1 u2 = 2 := by unfold rtV; rw [if_neg (by omega)]; rw [if_neg (by omega)]; rw [if_neg (fun h => h h8q)]; rw [if_neg (fun h => h h9q)]; rw [if_pos (.inl h10)]
                      rw [hr]
                      clear hr
                      rw [h8q] at K1
                      clear h8 h8q
                      rw [h9q] at K2
                      clear h9 h9q
                      have hnf2 : (u1 != 0) = true := by simpa using h10
                      have HB := allocs_below w [.cells #[.int .i64 lot, .int .i64 good, .int .i64 bad, .string a, .string b] 38]
                      have K_x : Blk (allocs w [.cells #[.int .i64 lot, .int .i64 good, .int .i64 bad, .string a, .string b] 38]) (w.heap.size + 0) 38 #[.int .i64 lot, .int .i64 good, .int .i64 bad, .string a, .string b] := allocs_at w [.cells #[.int .i64 lot, .int .i64 good, .int .i64 bad, .string a, .string b] 38] 0 rfl
                      unfold allocs at HB K_x
                      simp only [List.foldl_cons, List.foldl_nil] at HB K_x
                      rw [Nat.add_zero] at K_x
                      go_enter Tryz.func52, Tryz.ntmps52
                      go_upto_region 1 with (fail)
                      generalize (w.alloc (.cells #[.int .i64 lot, .int .i64 good, .int .i64 bad, .string a, .string b] 38)) = w0 at *
                      replace K_x := hide K_x
                      replace HB := hide HB
                      have x0 := (Blk.cell K_x.out 0).trans (rfl : _ = some (Value.int .i64 lot))
                      have x1 := (Blk.cell K_x.out 1).trans (rfl : _ = some (Value.int .i64 good))
                      have x2 := (Blk.cell K_x.out 2).trans (rfl : _ = some (Value.int .i64 bad))
                      have x3 := (Blk.cell K_x.out 3).trans (rfl : _ = some (Value.string a))
                      have x4 := (Blk.cell K_x.out 4).trans (rfl : _ = some (Value.string b))
                      go_wp2_with fail
                      refine (K1.out _).mono ?_
                      rintro e w1 ⟨rfl, hb⟩
                      clear x0 x1 x2 x3 x4
                      replace K_x := hide (Blk.below K_x.out hb (Blk.lt K_x.out))
                      replace HB := hide (HB.out.trans (hb.mono HB.out.size))
                      clear hb
                      have x0 := (Blk.cell K_x.out 0).trans (rfl : _ = some (Value.int .i64 lot))
                      have x1 := (Blk.cell K_x.out 1).trans (rfl : _ = some (Value.int .i64 good))
                      have x2 := (Blk.cell K_x.out 2).trans (rfl : _ = some (Value.int .i64 bad))
                      have x3 := (Blk.cell K_x.out 3).trans (rfl : _ = some (Value.string a))
                      have x4 := (Blk.cell K_x.out 4).trans (rfl : _ = some (Value.string b))
                      go_wp2_with fail
                      refine (K2.out _).mono ?_
                      rintro e w2 ⟨rfl, hb⟩
                      clear x0 x1 x2 x3 x4
                      replace K_x := hide (Blk.below K_x.out hb (Blk.lt K_x.out))
                      replace HB := hide (HB.out.trans (hb.mono HB.out.size))
                      clear hb
                      have x0 := (Blk.cell K_x.out 0).trans (rfl : _ = some (Value.int .i64 lot))
                      have x1 := (Blk.cell K_x.out 1).trans (rfl : _ = some (Value.int .i64 good))
                      have x2 := (Blk.cell K_x.out 2).trans (rfl : _ = some (Value.int .i64 bad))
                      have x3 := (Blk.cell K_x.out 3).trans (rfl : _ = some (Value.string a))
                      have x4 := (Blk.cell K_x.out 4).trans (rfl : _ = some (Value.string b))
                      go_wp2_with fail
                      refine (V1.out _).mono ?_
                      rintro e w3 ⟨rfl, hb⟩
                      clear x0 x1 x2 x3 x4
                      replace K_x := hide (Blk.below K_x.out hb (Blk.lt K_x.out))
                      replace HB := hide (HB.out.trans (hb.mono HB.out.size))
                      clear hb
                      go_wp2_with fail
                      go_ret
                      exact ⟨rfl, HB.out⟩
                    · by_cases h11 : ¬ u2 = 0
                      · have h8q : c1 = 0 := Classical.not_not.1 h8
                        have h9q : c2 = 0 := Classical.not_not.1 h9
                        have h10q : u1 = 0 := Classical.not_not.1 h10
                        have hr : rtV lot good bad c1 c2 u1 u2 = 2 := by unfold rtV; rw [if_neg (by omega)]; rw [if_neg (by omega)]; rw [if_neg (fun h => h h8q)]; rw [if_neg (fun h => h h9q)]; rw [if_pos (.inr h11)]
                        rw [hr]
                        clear hr
                        rw [h8q] at K1
                        clear h8 h8q
                        rw [h9q] at K2
                        clear h9 h9q
                        rw [h10q] at V1
                        clear h10 h10q
                        have hnf3 : (u2 != 0) = true := by simpa using h11
                        have HB := allocs_below w [.cells #[.int .i64 lot, .int .i64 good, .int .i64 bad, .string a, .string b] 38]
                        have K_x : Blk (allocs w [.cells #[.int .i64 lot, .int .i64 good, .int .i64 bad, .string a, .string b] 38]) (w.heap.size + 0) 38 #[.int .i64 lot, .int .i64 good, .int .i64 bad, .string a, .string b] := allocs_at w [.cells #[.int .i64 lot, .int .i64 good, .int .i64 bad, .string a, .string b] 38] 0 rfl
                        unfold allocs at HB K_x
                        simp only [List.foldl_cons, List.foldl_nil] at HB K_x
                        rw [Nat.add_zero] at K_x
                        go_enter Tryz.func52, Tryz.ntmps52
                        go_upto_region 1 with (fail)
                        generalize (w.alloc (.cells #[.int .i64 lot, .int .i64 good, .int .i64 bad, .string a, .string b] 38)) = w0 at *
                        replace K_x := hide K_x
                        replace HB := hide HB
                        have x0 := (Blk.cell K_x.out 0).trans (rfl : _ = some (Value.int .i64 lot))
                        have x1 := (Blk.cell K_x.out 1).trans (rfl : _ = some (Value.int .i64 good))
                        have x2 := (Blk.cell K_x.out 2).trans (rfl : _ = some (Value.int .i64 bad))
                        have x3 := (Blk.cell K_x.out 3).trans (rfl : _ = some (Value.string a))
                        have x4 := (Blk.cell K_x.out 4).trans (rfl : _ = some (Value.string b))
                        go_wp2_with fail
                        refine (K1.out _).mono ?_
                        rintro e w1 ⟨rfl, hb⟩
                        clear x0 x1 x2 x3 x4
                        replace K_x := hide (Blk.below K_x.out hb (Blk.lt K_x.out))
                        replace HB := hide (HB.out.trans (hb.mono HB.out.size))
                        clear hb
                        have x0 := (Blk.cell K_x.out 0).trans (rfl : _ = some (Value.int .i64 lot))
                        have x1 := (Blk.cell K_x.out 1).trans (rfl : _ = some (Value.int .i64 good))
                        have x2 := (Blk.cell K_x.out 2).trans (rfl : _ = some (Value.int .i64 bad))
                        have x3 := (Blk.cell K_x.out 3).trans (rfl : _ = some (Value.string a))
                        have x4 := (Blk.cell K_x.out 4).trans (rfl : _ = some (Value.string b))
                        go_wp2_with fail
                        refine (K2.out _).mono ?_
                        rintro e w2 ⟨rfl, hb⟩
                        clear x0 x1 x2 x3 x4
                        replace K_x := hide (Blk.below K_x.out hb (Blk.lt K_x.out))
                        replace HB := hide (HB.out.trans (hb.mono HB.out.size))
                        clear hb
                        have x0 := (Blk.cell K_x.out 0).trans (rfl : _ = some (Value.int .i64 lot))
                        have x1 := (Blk.cell K_x.out 1).trans (rfl : _ = some (Value.int .i64 good))
                        have x2 := (Blk.cell K_x.out 2).trans (rfl : _ = some (Value.int .i64 bad))
                        have x3 := (Blk.cell K_x.out 3).trans (rfl : _ = some (Value.string a))
                        have x4 := (Blk.cell K_x.out 4).trans (rfl : _ = some (Value.string b))
                        go_wp2_with fail
                        refine (V1.out _).mono ?_
                        rintro e w3 ⟨rfl, hb⟩
                        clear x0 x1 x2 x3 x4
                        replace K_x := hide (Blk.below K_x.out hb (Blk.lt K_x.out))
                        replace HB := hide (HB.out.trans (hb.mono HB.out.size))
                        clear hb
                        have x0 := (Blk.cell K_x.out 0).trans (rfl : _ = some (Value.int .i64 lot))
                        have x1 := (Blk.cell K_x.out 1).trans (rfl : _ = some (Value.int .i64 good))
                        have x2 := (Blk.cell K_x.out 2).trans (rfl : _ = some (Value.int .i64 bad))
                        have x3 := (Blk.cell K_x.out 3).trans (rfl : _ = some (Value.string a))
                        have x4 := (Blk.cell K_x.out 4).trans (rfl : _ = some (Value.string b))
                        go_wp2_with fail
                        refine (V2.out _).mono ?_
                        rintro e w4 ⟨rfl, hb⟩
                        clear x0 x1 x2 x3 x4
                        replace K_x := hide (Blk.below K_x.out hb (Blk.lt K_x.out))
                        replace HB := hide (HB.out.trans (hb.mono HB.out.size))
                        clear hb
                        go_wp2_with fail
                        go_ret
                        exact ⟨rfl, HB.out⟩
                      · have h8q : c1 = 0 := Classical.not_not.1 h8
                        have h9q : c2 = 0 := Classical.not_not.1 h9
                        have h10q : u1 = 0 := Classical.not_not.1 h10
                        have h11q : u2 = 0 := Classical.not_not.1 h11
                        have hr : rtV lot good bad c1 c2 u1 u2 = 0 := by unfold rtV; rw [if_neg (by omega)]; rw [if_neg (by omega)]; rw [if_neg (fun h => h h8q)]; rw [if_neg (fun h => h h9q)]; rw [if_neg (by omega)]
                        rw [hr]
                        clear hr
                        rw [h8q] at K1
                        clear h8 h8q
                        rw [h9q] at K2
                        clear h9 h9q
                        rw [h10q] at V1
                        clear h10 h10q
                        rw [h11q] at V2
                        clear h11 h11q
                        have HB := allocs_below w [.cells #[.int .i64 lot, .int .i64 good, .int .i64 bad, .string a, .string b] 38]
                        have K_x : Blk (allocs w [.cells #[.int .i64 lot, .int .i64 good, .int .i64 bad, .string a, .string b] 38]) (w.heap.size + 0) 38 #[.int .i64 lot, .int .i64 good, .int .i64 bad, .string a, .string b] := allocs_at w [.cells #[.int .i64 lot, .int .i64 good, .int .i64 bad, .string a, .string b] 38] 0 rfl
                        unfold allocs at HB K_x
                        simp only [List.foldl_cons, List.foldl_nil] at HB K_x
                        rw [Nat.add_zero] at K_x
                        go_enter Tryz.func52, Tryz.ntmps52
                        go_upto_region 1 with (fail)
                        generalize (w.alloc (.cells #[.int .i64 lot, .int .i64 good, .int .i64 bad, .string a, .string b] 38)) = w0 at *
                        replace K_x := hide K_x
                        replace HB := hide HB
                        have x0 := (Blk.cell K_x.out 0).trans (rfl : _ = some (Value.int .i64 lot))
                        have x1 := (Blk.cell K_x.out 1).trans (rfl : _ = some (Value.int .i64 good))
                        have x2 := (Blk.cell K_x.out 2).trans (rfl : _ = some (Value.int .i64 bad))
                        have x3 := (Blk.cell K_x.out 3).trans (rfl : _ = some (Value.string a))
                        have x4 := (Blk.cell K_x.out 4).trans (rfl : _ = some (Value.string b))
                        go_wp2_with fail
                        refine (K1.out _).mono ?_
                        rintro e w1 ⟨rfl, hb⟩
                        clear x0 x1 x2 x3 x4
                        replace K_x := hide (Blk.below K_x.out hb (Blk.lt K_x.out))
                        replace HB := hide (HB.out.trans (hb.mono HB.out.size))
                        clear hb
                        have x0 := (Blk.cell K_x.out 0).trans (rfl : _ = some (Value.int .i64 lot))
                        have x1 := (Blk.cell K_x.out 1).trans (rfl : _ = some (Value.int .i64 good))
                        have x2 := (Blk.cell K_x.out 2).trans (rfl : _ = some (Value.int .i64 bad))
                        have x3 := (Blk.cell K_x.out 3).trans (rfl : _ = some (Value.string a))
                        have x4 := (Blk.cell K_x.out 4).trans (rfl : _ = some (Value.string b))
                        go_wp2_with fail
                        refine (K2.out _).mono ?_
                        rintro e w2 ⟨rfl, hb⟩
                        clear x0 x1 x2 x3 x4
                        replace K_x := hide (Blk.below K_x.out hb (Blk.lt K_x.out))
                        replace HB := hide (HB.out.trans (hb.mono HB.out.size))
                        clear hb
                        have x0 := (Blk.cell K_x.out 0).trans (rfl : _ = some (Value.int .i64 lot))
                        have x1 := (Blk.cell K_x.out 1).trans (rfl : _ = some (Value.int .i64 good))
                        have x2 := (Blk.cell K_x.out 2).trans (rfl : _ = some (Value.int .i64 bad))
                        have x3 := (Blk.cell K_x.out 3).trans (rfl : _ = some (Value.string a))
                        have x4 := (Blk.cell K_x.out 4).trans (rfl : _ = some (Value.string b))
                        go_wp2_with fail
                        refine (V1.out _).mono ?_
                        rintro e w3 ⟨rfl, hb⟩
                        clear x0 x1 x2 x3 x4
                        replace K_x := hide (Blk.below K_x.out hb (Blk.lt K_x.out))
                        replace HB := hide (HB.out.trans (hb.mono HB.out.size))
                        clear hb
                        have x0 := (Blk.cell K_x.out 0).trans (rfl : _ = some (Value.int .i64 lot))
                        have x1 := (Blk.cell K_x.out 1).trans (rfl : _ = some (Value.int .i64 good))
                        have x2 := (Blk.cell K_x.out 2).trans (rfl : _ = some (Value.int .i64 bad))
                        have x3 := (Blk.cell K_x.out 3).trans (rfl : _ = some (Value.string a))
                        have x4 := (Blk.cell K_x.out 4).trans (rfl : _ = some (Value.string b))
                        go_wp2_with fail
                        refine (V2.out _).mono ?_
                        rintro e w4 ⟨rfl, hb⟩
                        clear x0 x1 x2 x3 x4
                        replace K_x := hide (Blk.below K_x.out hb (Blk.lt K_x.out))
                        replace HB := hide (HB.out.trans (hb.mono HB.out.size))
                        clear hb
                        go_wp2_with fail
                        go_ret
                        exact ⟨rfl, HB.out⟩

set_option maxRecDepth 100000 in
set_option maxHeartbeats 8000000 in
theorem meets_f (w : World) (n c lot good bad : Nat) (a b v1 v3 : ByteArray) (s1 : Int) (hx : ¬ 0 ≤ s1) (hc1 : ∀ W, Calls Tryz.prog 46 #[.agg #[.int .i64 (n : Int), .int .i64 (c : Int)], .int .i64 (lot : Int), .int .i64 (good : Int)] W fun e w' => e = .returned (.string v1) ∧ Below W.heap.size W w') (hm : ∀ W, Calls Tryz.prog 101 #[.string ⟨#[49]⟩, .string a] W fun e w' => e = .returned (.string v3) ∧ Below W.heap.size W w') (ho1 : ∀ W, Calls Tryz.prog 88 #[.string v1, .string v3] W fun e w' => e = .returned (.int .i64 s1) ∧ Below W.heap.size W w') :
    Calls Tryz.prog 53 #[.agg #[.int .i64 (n : Int), .int .i64 (c : Int)], .agg #[.int .i64 (lot : Int), .int .i64 (good : Int), .int .i64 (bad : Int), .string a, .string b]] w fun e w' => e = .returned (.bool false) ∧ Below w.heap.size w w' := by
  have HC1 := hide hc1
  have HM := hide hm
  have HO1 := hide ho1
  have hd1 : decide (0 ≤ s1) = false := decide_eq_false hx
  clear hx hc1 hm ho1
  have HB := allocs_below w [.cells #[.int .i64 (n : Int), .int .i64 (c : Int)] 23, .cells #[.int .i64 (lot : Int), .int .i64 (good : Int), .int .i64 (bad : Int), .string a, .string b] 38]
  have K_p : Blk (allocs w [.cells #[.int .i64 (n : Int), .int .i64 (c : Int)] 23, .cells #[.int .i64 (lot : Int), .int .i64 (good : Int), .int .i64 (bad : Int), .string a, .string b] 38]) (w.heap.size + 0) 23 #[.int .i64 (n : Int), .int .i64 (c : Int)] := allocs_at w [.cells #[.int .i64 (n : Int), .int .i64 (c : Int)] 23, .cells #[.int .i64 (lot : Int), .int .i64 (good : Int), .int .i64 (bad : Int), .string a, .string b] 38] 0 rfl
  have K_x : Blk (allocs w [.cells #[.int .i64 (n : Int), .int .i64 (c : Int)] 23, .cells #[.int .i64 (lot : Int), .int .i64 (good : Int), .int .i64 (bad : Int), .string a, .string b] 38]) (w.heap.size + 1) 38 #[.int .i64 (lot : Int), .int .i64 (good : Int), .int .i64 (bad : Int), .string a, .string b] := allocs_at w [.cells #[.int .i64 (n : Int), .int .i64 (c : Int)] 23, .cells #[.int .i64 (lot : Int), .int .i64 (good : Int), .int .i64 (bad : Int), .string a, .string b] 38] 1 rfl
  unfold allocs at HB K_p K_x
  simp only [List.foldl_cons, List.foldl_nil] at HB K_p K_x
  rw [Nat.add_zero] at K_p
  go_enter Tryz.func53, Tryz.ntmps53
  go_upto_region 1 with (fail)
  generalize ((w.alloc (.cells #[.int .i64 (n : Int), .int .i64 (c : Int)] 23)).alloc (.cells #[.int .i64 (lot : Int), .int .i64 (good : Int), .int .i64 (bad : Int), .string a, .string b] 38)) = w0 at *
  replace K_p := hide K_p
  replace K_x := hide K_x
  replace HB := hide HB
  go_upto_region 1 with (fail)
  have p0 := (Blk.cell K_p.out 0).trans (rfl : _ = some (Value.int .i64 (n : Int)))
  have p1 := (Blk.cell K_p.out 1).trans (rfl : _ = some (Value.int .i64 (c : Int)))
  have x0 := (Blk.cell K_x.out 0).trans (rfl : _ = some (Value.int .i64 (lot : Int)))
  have x1 := (Blk.cell K_x.out 1).trans (rfl : _ = some (Value.int .i64 (good : Int)))
  have x2 := (Blk.cell K_x.out 2).trans (rfl : _ = some (Value.int .i64 (bad : Int)))
  have x3 := (Blk.cell K_x.out 3).trans (rfl : _ = some (Value.string a))
  have x4 := (Blk.cell K_x.out 4).trans (rfl : _ = some (Value.string b))
  have SK : ∀ w', Below w0.heap.size w0 w' → Below w0.heap.size w0 w' ∧ w'.cell? ⟨w.heap.size, 0, none⟩ = some (.int .i64 (n : Int)) ∧ w'.cell? ⟨w.heap.size, 1, none⟩ = some (.int .i64 (c : Int)) ∧ w'.cell? ⟨(w.heap.size + 1), 0, none⟩ = some (.int .i64 (lot : Int)) ∧ w'.cell? ⟨(w.heap.size + 1), 1, none⟩ = some (.int .i64 (good : Int)) ∧ w'.cell? ⟨(w.heap.size + 1), 2, none⟩ = some (.int .i64 (bad : Int)) ∧ w'.cell? ⟨(w.heap.size + 1), 3, none⟩ = some (.string a) ∧ w'.cell? ⟨(w.heap.size + 1), 4, none⟩ = some (.string b) := fun w' h => ⟨h, (bcell h _ _ (block_lt_of_cell p0)).trans p0, (bcell h _ _ (block_lt_of_cell p1)).trans p1, (bcell h _ _ (block_lt_of_cell x0)).trans x0, (bcell h _ _ (block_lt_of_cell x1)).trans x1, (bcell h _ _ (block_lt_of_cell x2)).trans x2, (bcell h _ _ (block_lt_of_cell x3)).trans x3, (bcell h _ _ (block_lt_of_cell x4)).trans x4⟩
  refine wp_region_held_drew (S := fun w' => Below w0.heap.size w0 w' ∧ w'.cell? ⟨w.heap.size, 0, none⟩ = some (.int .i64 (n : Int)) ∧ w'.cell? ⟨w.heap.size, 1, none⟩ = some (.int .i64 (c : Int)) ∧ w'.cell? ⟨(w.heap.size + 1), 0, none⟩ = some (.int .i64 (lot : Int)) ∧ w'.cell? ⟨(w.heap.size + 1), 1, none⟩ = some (.int .i64 (good : Int)) ∧ w'.cell? ⟨(w.heap.size + 1), 2, none⟩ = some (.int .i64 (bad : Int)) ∧ w'.cell? ⟨(w.heap.size + 1), 3, none⟩ = some (.string a) ∧ w'.cell? ⟨(w.heap.size + 1), 4, none⟩ = some (.string b)) (by kernel_rfl) (SK _ (Below.refl _ _).drew) (fun hHeld => ?_)
  refine wpAnyH_take (i := 0) (v := ?tv1) rfl (by kernel_rfl) (by kernel_rfl) (by kernel_rfl) (fun _ _ _ h => h) (Or.inl ⟨by rfl, ?ty1⟩) (by assumption) ?tr1
  case ty1 => (intro w hSw; (try dsimp only at hSw); go_simp; try (with_reducible rfl))
  (try simp only [Act.put]); (try simp only [List.setIfInBounds_toArray]); (try simp only [List.set_cons_succ]); (try simp only [List.set_cons_zero])
  refine wpAnyH_take (i := 1) (v := ?tv2) rfl (by kernel_rfl) (by kernel_rfl) (by kernel_rfl) (fun _ _ _ h => h) (Or.inl ⟨by rfl, ?ty2⟩) (by assumption) ?tr2
  case ty2 => (intro w hSw; (try dsimp only at hSw); go_simp; try (with_reducible rfl))
  (try simp only [Act.put]); (try simp only [List.setIfInBounds_toArray]); (try simp only [List.set_cons_succ]); (try simp only [List.set_cons_zero])
  refine wpAnyH_take (i := 2) (v := ?tv3) rfl (by kernel_rfl) (by kernel_rfl) (by kernel_rfl) (fun _ _ _ h => h) (Or.inl ⟨by rfl, ?ty3⟩) (by assumption) ?tr3
  case ty3 => (intro w hSw; (try dsimp only at hSw); go_simp; try (with_reducible rfl))
  (try simp only [Act.put]); (try simp only [List.setIfInBounds_toArray]); (try simp only [List.set_cons_succ]); (try simp only [List.set_cons_zero])
  refine wpAnyH_take (i := 3) (v := ?tv4) rfl (by kernel_rfl) (by kernel_rfl) (by kernel_rfl) (fun _ _ _ h => h) (Or.inl ⟨by rfl, ?ty4⟩) (by assumption) ?tr4
  case ty4 => (intro w hSw; (try dsimp only at hSw); go_simp; try (with_reducible rfl))
  (try simp only [Act.put]); (try simp only [List.setIfInBounds_toArray]); (try simp only [List.set_cons_succ]); (try simp only [List.set_cons_zero])
  refine wpAnyH_take (i := 4) (v := ?tv5) rfl (by kernel_rfl) (by kernel_rfl) (by kernel_rfl) (fun _ _ _ h => h) (Or.inl ⟨by rfl, ?ty5⟩) (by assumption) ?tr5
  case ty5 => (intro w hSw; (try dsimp only at hSw); go_simp; try (with_reducible rfl))
  (try simp only [Act.put]); (try simp only [List.setIfInBounds_toArray]); (try simp only [List.set_cons_succ]); (try simp only [List.set_cons_zero])
  refine wpAnyH_take (i := 6) (v := ?tv6) rfl (by kernel_rfl) (by kernel_rfl) (by kernel_rfl) (fun _ _ _ h => h) (Or.inl ⟨by rfl, ?ty6⟩) (by assumption) ?tr6
  case ty6 => (intro w hSw; (try dsimp only at hSw); go_simp; try (with_reducible rfl))
  (try simp only [Act.put]); (try simp only [List.setIfInBounds_toArray]); (try simp only [List.set_cons_succ]); (try simp only [List.set_cons_zero])
  refine wpAnyH_take (i := 7) (v := ?tv7) rfl (by kernel_rfl) (by kernel_rfl) (by kernel_rfl) (fun _ _ _ h => h) (Or.inl ⟨by rfl, ?ty7⟩) (by assumption) ?tr7
  case ty7 => (intro w hSw; (try dsimp only at hSw); go_simp; try (with_reducible rfl))
  (try simp only [Act.put]); (try simp only [List.setIfInBounds_toArray]); (try simp only [List.set_cons_succ]); (try simp only [List.set_cons_zero])
  refine wpAnyH_ready (rs := [5]) (by kernel_rfl) (by simp) ?_
  refine AllReadyH.cons rfl (fun K hK => ?_) AllReadyH.nil
  go_simp
  refine (HC1.out _).mono ?_
  rintro e wx ⟨rfl, hbW⟩
  go_wp2_with fail
  refine hK.out _ _ ?_ (fun hHeld => ?_)
  · exact SK _ (bel_next hHeld hbW (Nat.le_refl _))
  clear hK K
  (try simp only [Act.put]); (try simp only [List.setIfInBounds_toArray]); (try simp only [List.set_cons_succ]); (try simp only [List.set_cons_zero])
  refine wpAnyH_ready (rs := [8]) (by kernel_rfl) (by simp) ?_
  refine AllReadyH.cons rfl (fun K hK => ?_) AllReadyH.nil
  go_simp
  refine (HM.out _).mono ?_
  rintro e wx ⟨rfl, hbW⟩
  go_wp2_with fail
  refine hK.out _ _ ?_ (fun hHeld => ?_)
  · exact SK _ (bel_next hHeld hbW (Nat.le_refl _))
  clear hK K
  (try simp only [Act.put]); (try simp only [List.setIfInBounds_toArray]); (try simp only [List.set_cons_succ]); (try simp only [List.set_cons_zero])
  refine wpAnyH_ready (rs := [9]) (by kernel_rfl) (by simp) ?_
  refine AllReadyH.cons rfl (fun K hK => ?_) AllReadyH.nil
  go_simp
  refine (HO1.out _).mono ?_
  rintro e wx ⟨rfl, hbW⟩
  go_wp2_with fail
  refine hK.out _ _ ?_ (fun hHeld => ?_)
  · exact SK _ (bel_next hHeld hbW (Nat.le_refl _))
  clear hK K
  (try simp only [Act.put]); (try simp only [List.setIfInBounds_toArray]); (try simp only [List.set_cons_succ]); (try simp only [List.set_cons_zero])
  refine wpAnyH_take (i := 10) (v := ?tv8) rfl (by kernel_rfl) (by kernel_rfl) (by kernel_rfl) (fun _ _ _ h => h) (Or.inl ⟨by rfl, ?ty8⟩) (by assumption) ?tr8
  case ty8 => (intro w hSw; (try dsimp only at hSw); go_simp; try (with_reducible rfl))
  (try simp only [Act.put]); (try simp only [List.setIfInBounds_toArray]); (try simp only [List.set_cons_succ]); (try simp only [List.set_cons_zero])
  refine wpAnyH_take (i := 11) (v := ?tv9) rfl (by kernel_rfl) (by kernel_rfl) (by kernel_rfl) (fun _ _ _ h => h) (Or.inl ⟨by rfl, ?ty9⟩) (by assumption) ?tr9
  case ty9 => (intro w hSw; (try dsimp only at hSw); go_simp; try (with_reducible rfl))
  (try simp only [Act.put]); (try simp only [List.setIfInBounds_toArray]); (try simp only [List.set_cons_succ]); (try simp only [List.set_cons_zero])
  refine wpAnyH_take (i := 12) (v := undef) rfl (by kernel_rfl) (by kernel_rfl) (by kernel_rfl) (fun _ _ _ h => h) (Or.inr ⟨by kernel_rfl, rfl⟩) (by assumption) ?_
  (try simp only [Act.put]); (try simp only [List.setIfInBounds_toArray]); (try simp only [List.set_cons_succ]); (try simp only [List.set_cons_zero])
  refine wpAnyH_take (i := 13) (v := undef) rfl (by kernel_rfl) (by kernel_rfl) (by kernel_rfl) (fun _ _ _ h => h) (Or.inr ⟨by kernel_rfl, rfl⟩) (by assumption) ?_
  (try simp only [Act.put]); (try simp only [List.setIfInBounds_toArray]); (try simp only [List.set_cons_succ]); (try simp only [List.set_cons_zero])
  refine wpAnyH_take (i := 14) (v := undef) rfl (by kernel_rfl) (by kernel_rfl) (by kernel_rfl) (fun _ _ _ h => h) (Or.inr ⟨by kernel_rfl, rfl⟩) (by assumption) ?_
  (try simp only [Act.put]); (try simp only [List.setIfInBounds_toArray]); (try simp only [List.set_cons_succ]); (try simp only [List.set_cons_zero])
  refine wpAnyH_take (i := 15) (v := undef) rfl (by kernel_rfl) (by kernel_rfl) (by kernel_rfl) (fun _ _ _ h => h) (Or.inr ⟨by kernel_rfl, rfl⟩) (by assumption) ?_
  (try simp only [Act.put]); (try simp only [List.setIfInBounds_toArray]); (try simp only [List.set_cons_succ]); (try simp only [List.set_cons_zero])
  refine wpAnyH_take (i := 16) (v := undef) rfl (by kernel_rfl) (by kernel_rfl) (by kernel_rfl) (fun _ _ _ h => h) (Or.inr ⟨by kernel_rfl, rfl⟩) (by assumption) ?_
  (try simp only [Act.put]); (try simp only [List.setIfInBounds_toArray]); (try simp only [List.set_cons_succ]); (try simp only [List.set_cons_zero])
  refine wpAnyH_take (i := 17) (v := undef) rfl (by kernel_rfl) (by kernel_rfl) (by kernel_rfl) (fun _ _ _ h => h) (Or.inr ⟨by kernel_rfl, rfl⟩) (by assumption) ?_
  (try simp only [Act.put]); (try simp only [List.setIfInBounds_toArray]); (try simp only [List.set_cons_succ]); (try simp only [List.set_cons_zero])
  refine wpAnyH_take (i := 18) (v := undef) rfl (by kernel_rfl) (by kernel_rfl) (by kernel_rfl) (fun _ _ _ h => h) (Or.inr ⟨by kernel_rfl, rfl⟩) (by assumption) ?_
  (try simp only [Act.put]); (try simp only [List.setIfInBounds_toArray]); (try simp only [List.set_cons_succ]); (try simp only [List.set_cons_zero])
  refine wpAnyH_take (i := 19) (v := undef) rfl (by kernel_rfl) (by kernel_rfl) (by kernel_rfl) (fun _ _ _ h => h) (Or.inr ⟨by kernel_rfl, rfl⟩) (by assumption) ?_
  (try simp only [Act.put]); (try simp only [List.setIfInBounds_toArray]); (try simp only [List.set_cons_succ]); (try simp only [List.set_cons_zero])
  refine wpAnyH_take (i := 20) (v := undef) rfl (by kernel_rfl) (by kernel_rfl) (by kernel_rfl) (fun _ _ _ h => h) (Or.inr ⟨by kernel_rfl, rfl⟩) (by assumption) ?_
  (try simp only [Act.put]); (try simp only [List.setIfInBounds_toArray]); (try simp only [List.set_cons_succ]); (try simp only [List.set_cons_zero])
  refine wpAnyH_take (i := 21) (v := undef) rfl (by kernel_rfl) (by kernel_rfl) (by kernel_rfl) (fun _ _ _ h => h) (Or.inr ⟨by kernel_rfl, rfl⟩) (by assumption) ?_
  (try simp only [Act.put]); (try simp only [List.setIfInBounds_toArray]); (try simp only [List.set_cons_succ]); (try simp only [List.set_cons_zero])
  refine wpAnyH_take (i := 22) (v := ?tv20) rfl (by kernel_rfl) (by kernel_rfl) (by kernel_rfl) (fun _ _ _ h => h) (Or.inl ⟨by rfl, ?ty20⟩) (by assumption) ?tr20
  case ty20 => (intro w hSw; (try dsimp only at hSw); go_simp; try (with_reducible rfl))
  (try simp only [Act.put]); (try simp only [List.setIfInBounds_toArray]); (try simp only [List.set_cons_succ]); (try simp only [List.set_cons_zero])
  refine wpAnyH_take (i := 23) (v := ?tv21) rfl (by kernel_rfl) (by kernel_rfl) (by kernel_rfl) (fun _ _ _ h => h) (Or.inl ⟨by rfl, ?ty21⟩) (by assumption) ?tr21
  case ty21 => (intro w hSw; (try dsimp only at hSw); go_simp; try (with_reducible rfl))
  (try simp only [Act.put]); (try simp only [List.setIfInBounds_toArray]); (try simp only [List.set_cons_succ]); (try simp only [List.set_cons_zero])
  refine wpAnyH_done (by kernel_rfl) ?_ _
  have HX := hide (HB.out.trans ((And.left hHeld).mono HB.out.size))
  go_wp2_with fail
  go_ret
  cases ‹_ = some _›
  cases ‹_ = some _›
  exact ⟨rfl, HX.out⟩

set_option maxRecDepth 100000 in
set_option maxHeartbeats 8000000 in
theorem meets_tt (w : World) (n c lot good bad : Nat) (a b v1 v2 v3 : ByteArray) (s1 s2 : Int) (hx : 0 ≤ s1) (hy : s2 ≤ 0) (hc1 : ∀ W, Calls Tryz.prog 46 #[.agg #[.int .i64 (n : Int), .int .i64 (c : Int)], .int .i64 (lot : Int), .int .i64 (good : Int)] W fun e w' => e = .returned (.string v1) ∧ Below W.heap.size W w') (hm : ∀ W, Calls Tryz.prog 101 #[.string ⟨#[49]⟩, .string a] W fun e w' => e = .returned (.string v3) ∧ Below W.heap.size W w') (ho1 : ∀ W, Calls Tryz.prog 88 #[.string v1, .string v3] W fun e w' => e = .returned (.int .i64 s1) ∧ Below W.heap.size W w') (hc2 : ∀ W, Calls Tryz.prog 46 #[.agg #[.int .i64 (n : Int), .int .i64 (c : Int)], .int .i64 (lot : Int), .int .i64 (bad : Int)] W fun e w' => e = .returned (.string v2) ∧ Below W.heap.size W w') (ho2 : ∀ W, Calls Tryz.prog 88 #[.string v2, .string b] W fun e w' => e = .returned (.int .i64 s2) ∧ Below W.heap.size W w') :
    Calls Tryz.prog 53 #[.agg #[.int .i64 (n : Int), .int .i64 (c : Int)], .agg #[.int .i64 (lot : Int), .int .i64 (good : Int), .int .i64 (bad : Int), .string a, .string b]] w fun e w' => e = .returned (.bool true) ∧ Below w.heap.size w w' := by
  have HC1 := hide hc1
  have HM := hide hm
  have HO1 := hide ho1
  have HC2 := hide hc2
  have HO2 := hide ho2
  clear hc1 hm ho1 hc2 ho2
  have HB := allocs_below w [.cells #[.int .i64 (n : Int), .int .i64 (c : Int)] 23, .cells #[.int .i64 (lot : Int), .int .i64 (good : Int), .int .i64 (bad : Int), .string a, .string b] 38]
  have K_p : Blk (allocs w [.cells #[.int .i64 (n : Int), .int .i64 (c : Int)] 23, .cells #[.int .i64 (lot : Int), .int .i64 (good : Int), .int .i64 (bad : Int), .string a, .string b] 38]) (w.heap.size + 0) 23 #[.int .i64 (n : Int), .int .i64 (c : Int)] := allocs_at w [.cells #[.int .i64 (n : Int), .int .i64 (c : Int)] 23, .cells #[.int .i64 (lot : Int), .int .i64 (good : Int), .int .i64 (bad : Int), .string a, .string b] 38] 0 rfl
  have K_x : Blk (allocs w [.cells #[.int .i64 (n : Int), .int .i64 (c : Int)] 23, .cells #[.int .i64 (lot : Int), .int .i64 (good : Int), .int .i64 (bad : Int), .string a, .string b] 38]) (w.heap.size + 1) 38 #[.int .i64 (lot : Int), .int .i64 (good : Int), .int .i64 (bad : Int), .string a, .string b] := allocs_at w [.cells #[.int .i64 (n : Int), .int .i64 (c : Int)] 23, .cells #[.int .i64 (lot : Int), .int .i64 (good : Int), .int .i64 (bad : Int), .string a, .string b] 38] 1 rfl
  unfold allocs at HB K_p K_x
  simp only [List.foldl_cons, List.foldl_nil] at HB K_p K_x
  rw [Nat.add_zero] at K_p
  go_enter Tryz.func53, Tryz.ntmps53
  go_upto_region 1 with (fail)
  generalize ((w.alloc (.cells #[.int .i64 (n : Int), .int .i64 (c : Int)] 23)).alloc (.cells #[.int .i64 (lot : Int), .int .i64 (good : Int), .int .i64 (bad : Int), .string a, .string b] 38)) = w0 at *
  replace K_p := hide K_p
  replace K_x := hide K_x
  replace HB := hide HB
  go_upto_region 1 with (fail)
  have p0 := (Blk.cell K_p.out 0).trans (rfl : _ = some (Value.int .i64 (n : Int)))
  have p1 := (Blk.cell K_p.out 1).trans (rfl : _ = some (Value.int .i64 (c : Int)))
  have x0 := (Blk.cell K_x.out 0).trans (rfl : _ = some (Value.int .i64 (lot : Int)))
  have x1 := (Blk.cell K_x.out 1).trans (rfl : _ = some (Value.int .i64 (good : Int)))
  have x2 := (Blk.cell K_x.out 2).trans (rfl : _ = some (Value.int .i64 (bad : Int)))
  have x3 := (Blk.cell K_x.out 3).trans (rfl : _ = some (Value.string a))
  have x4 := (Blk.cell K_x.out 4).trans (rfl : _ = some (Value.string b))
  have SK : ∀ w', Below w0.heap.size w0 w' → Below w0.heap.size w0 w' ∧ w'.cell? ⟨w.heap.size, 0, none⟩ = some (.int .i64 (n : Int)) ∧ w'.cell? ⟨w.heap.size, 1, none⟩ = some (.int .i64 (c : Int)) ∧ w'.cell? ⟨(w.heap.size + 1), 0, none⟩ = some (.int .i64 (lot : Int)) ∧ w'.cell? ⟨(w.heap.size + 1), 1, none⟩ = some (.int .i64 (good : Int)) ∧ w'.cell? ⟨(w.heap.size + 1), 2, none⟩ = some (.int .i64 (bad : Int)) ∧ w'.cell? ⟨(w.heap.size + 1), 3, none⟩ = some (.string a) ∧ w'.cell? ⟨(w.heap.size + 1), 4, none⟩ = some (.string b) := fun w' h => ⟨h, (bcell h _ _ (block_lt_of_cell p0)).trans p0, (bcell h _ _ (block_lt_of_cell p1)).trans p1, (bcell h _ _ (block_lt_of_cell x0)).trans x0, (bcell h _ _ (block_lt_of_cell x1)).trans x1, (bcell h _ _ (block_lt_of_cell x2)).trans x2, (bcell h _ _ (block_lt_of_cell x3)).trans x3, (bcell h _ _ (block_lt_of_cell x4)).trans x4⟩
  go_region_held3 (fun w' => Below w0.heap.size w0 w' ∧ w'.cell? ⟨w.heap.size, 0, none⟩ = some (.int .i64 (n : Int)) ∧ w'.cell? ⟨w.heap.size, 1, none⟩ = some (.int .i64 (c : Int)) ∧ w'.cell? ⟨(w.heap.size + 1), 0, none⟩ = some (.int .i64 (lot : Int)) ∧ w'.cell? ⟨(w.heap.size + 1), 1, none⟩ = some (.int .i64 (good : Int)) ∧ w'.cell? ⟨(w.heap.size + 1), 2, none⟩ = some (.int .i64 (bad : Int)) ∧ w'.cell? ⟨(w.heap.size + 1), 3, none⟩ = some (.string a) ∧ w'.cell? ⟨(w.heap.size + 1), 4, none⟩ = some (.string b)) (first | exact SK _ (Below.refl _ _).drew | exact SK _ (Below.refl _ _) | exact SK _ (bel_next (by assumption) (by assumption) (Nat.le_refl _)))
    (first
      | (go_at_call 46; (first | (with_reducible refine (HC1.out _).mono ?_) | (with_reducible refine (HC2.out _).mono ?_)); rintro e wx ⟨rfl, hbW⟩)
      | (go_at_call 101; refine (HM.out _).mono ?_; rintro e wx ⟨rfl, hbW⟩)
      | (go_at_call 88; (first | (with_reducible refine (HO1.out _).mono ?_) | (with_reducible refine (HO2.out _).mono ?_)); rintro e wx ⟨rfl, hbW⟩))
  obtain ⟨hbx, _⟩ : Below w0.heap.size w0 _ ∧ _ := by assumption
  have HX := hide (HB.out.trans (hbx.mono HB.out.size))
  clear hbx
  go_wp2_with fail
  go_ret
  exact ⟨rfl, HX.out⟩

set_option maxRecDepth 100000 in
set_option maxHeartbeats 8000000 in
theorem meets_tf (w : World) (n c lot good bad : Nat) (a b v1 v2 v3 : ByteArray) (s1 s2 : Int) (hx : 0 ≤ s1) (hy : ¬ s2 ≤ 0) (hc1 : ∀ W, Calls Tryz.prog 46 #[.agg #[.int .i64 (n : Int), .int .i64 (c : Int)], .int .i64 (lot : Int), .int .i64 (good : Int)] W fun e w' => e = .returned (.string v1) ∧ Below W.heap.size W w') (hm : ∀ W, Calls Tryz.prog 101 #[.string ⟨#[49]⟩, .string a] W fun e w' => e = .returned (.string v3) ∧ Below W.heap.size W w') (ho1 : ∀ W, Calls Tryz.prog 88 #[.string v1, .string v3] W fun e w' => e = .returned (.int .i64 s1) ∧ Below W.heap.size W w') (hc2 : ∀ W, Calls Tryz.prog 46 #[.agg #[.int .i64 (n : Int), .int .i64 (c : Int)], .int .i64 (lot : Int), .int .i64 (bad : Int)] W fun e w' => e = .returned (.string v2) ∧ Below W.heap.size W w') (ho2 : ∀ W, Calls Tryz.prog 88 #[.string v2, .string b] W fun e w' => e = .returned (.int .i64 s2) ∧ Below W.heap.size W w') :
    Calls Tryz.prog 53 #[.agg #[.int .i64 (n : Int), .int .i64 (c : Int)], .agg #[.int .i64 (lot : Int), .int .i64 (good : Int), .int .i64 (bad : Int), .string a, .string b]] w fun e w' => e = .returned (.bool false) ∧ Below w.heap.size w w' := by
  have HC1 := hide hc1
  have HM := hide hm
  have HO1 := hide ho1
  have HC2 := hide hc2
  have HO2 := hide ho2
  clear hc1 hm ho1 hc2 ho2
  have hd2 : decide (s2 ≤ 0) = false := decide_eq_false hy
  clear hy
  have HB := allocs_below w [.cells #[.int .i64 (n : Int), .int .i64 (c : Int)] 23, .cells #[.int .i64 (lot : Int), .int .i64 (good : Int), .int .i64 (bad : Int), .string a, .string b] 38]
  have K_p : Blk (allocs w [.cells #[.int .i64 (n : Int), .int .i64 (c : Int)] 23, .cells #[.int .i64 (lot : Int), .int .i64 (good : Int), .int .i64 (bad : Int), .string a, .string b] 38]) (w.heap.size + 0) 23 #[.int .i64 (n : Int), .int .i64 (c : Int)] := allocs_at w [.cells #[.int .i64 (n : Int), .int .i64 (c : Int)] 23, .cells #[.int .i64 (lot : Int), .int .i64 (good : Int), .int .i64 (bad : Int), .string a, .string b] 38] 0 rfl
  have K_x : Blk (allocs w [.cells #[.int .i64 (n : Int), .int .i64 (c : Int)] 23, .cells #[.int .i64 (lot : Int), .int .i64 (good : Int), .int .i64 (bad : Int), .string a, .string b] 38]) (w.heap.size + 1) 38 #[.int .i64 (lot : Int), .int .i64 (good : Int), .int .i64 (bad : Int), .string a, .string b] := allocs_at w [.cells #[.int .i64 (n : Int), .int .i64 (c : Int)] 23, .cells #[.int .i64 (lot : Int), .int .i64 (good : Int), .int .i64 (bad : Int), .string a, .string b] 38] 1 rfl
  unfold allocs at HB K_p K_x
  simp only [List.foldl_cons, List.foldl_nil] at HB K_p K_x
  rw [Nat.add_zero] at K_p
  go_enter Tryz.func53, Tryz.ntmps53
  go_upto_region 1 with (fail)
  generalize ((w.alloc (.cells #[.int .i64 (n : Int), .int .i64 (c : Int)] 23)).alloc (.cells #[.int .i64 (lot : Int), .int .i64 (good : Int), .int .i64 (bad : Int), .string a, .string b] 38)) = w0 at *
  replace K_p := hide K_p
  replace K_x := hide K_x
  replace HB := hide HB
  go_upto_region 1 with (fail)
  have p0 := (Blk.cell K_p.out 0).trans (rfl : _ = some (Value.int .i64 (n : Int)))
  have p1 := (Blk.cell K_p.out 1).trans (rfl : _ = some (Value.int .i64 (c : Int)))
  have x0 := (Blk.cell K_x.out 0).trans (rfl : _ = some (Value.int .i64 (lot : Int)))
  have x1 := (Blk.cell K_x.out 1).trans (rfl : _ = some (Value.int .i64 (good : Int)))
  have x2 := (Blk.cell K_x.out 2).trans (rfl : _ = some (Value.int .i64 (bad : Int)))
  have x3 := (Blk.cell K_x.out 3).trans (rfl : _ = some (Value.string a))
  have x4 := (Blk.cell K_x.out 4).trans (rfl : _ = some (Value.string b))
  have SK : ∀ w', Below w0.heap.size w0 w' → Below w0.heap.size w0 w' ∧ w'.cell? ⟨w.heap.size, 0, none⟩ = some (.int .i64 (n : Int)) ∧ w'.cell? ⟨w.heap.size, 1, none⟩ = some (.int .i64 (c : Int)) ∧ w'.cell? ⟨(w.heap.size + 1), 0, none⟩ = some (.int .i64 (lot : Int)) ∧ w'.cell? ⟨(w.heap.size + 1), 1, none⟩ = some (.int .i64 (good : Int)) ∧ w'.cell? ⟨(w.heap.size + 1), 2, none⟩ = some (.int .i64 (bad : Int)) ∧ w'.cell? ⟨(w.heap.size + 1), 3, none⟩ = some (.string a) ∧ w'.cell? ⟨(w.heap.size + 1), 4, none⟩ = some (.string b) := fun w' h => ⟨h, (bcell h _ _ (block_lt_of_cell p0)).trans p0, (bcell h _ _ (block_lt_of_cell p1)).trans p1, (bcell h _ _ (block_lt_of_cell x0)).trans x0, (bcell h _ _ (block_lt_of_cell x1)).trans x1, (bcell h _ _ (block_lt_of_cell x2)).trans x2, (bcell h _ _ (block_lt_of_cell x3)).trans x3, (bcell h _ _ (block_lt_of_cell x4)).trans x4⟩
  go_region_held3 (fun w' => Below w0.heap.size w0 w' ∧ w'.cell? ⟨w.heap.size, 0, none⟩ = some (.int .i64 (n : Int)) ∧ w'.cell? ⟨w.heap.size, 1, none⟩ = some (.int .i64 (c : Int)) ∧ w'.cell? ⟨(w.heap.size + 1), 0, none⟩ = some (.int .i64 (lot : Int)) ∧ w'.cell? ⟨(w.heap.size + 1), 1, none⟩ = some (.int .i64 (good : Int)) ∧ w'.cell? ⟨(w.heap.size + 1), 2, none⟩ = some (.int .i64 (bad : Int)) ∧ w'.cell? ⟨(w.heap.size + 1), 3, none⟩ = some (.string a) ∧ w'.cell? ⟨(w.heap.size + 1), 4, none⟩ = some (.string b)) (first | exact SK _ (Below.refl _ _).drew | exact SK _ (Below.refl _ _) | exact SK _ (bel_next (by assumption) (by assumption) (Nat.le_refl _)))
    (first
      | (go_at_call 46; (first | (with_reducible refine (HC1.out _).mono ?_) | (with_reducible refine (HC2.out _).mono ?_)); rintro e wx ⟨rfl, hbW⟩)
      | (go_at_call 101; refine (HM.out _).mono ?_; rintro e wx ⟨rfl, hbW⟩)
      | (go_at_call 88; (first | (with_reducible refine (HO1.out _).mono ?_) | (with_reducible refine (HO2.out _).mono ?_)); rintro e wx ⟨rfl, hbW⟩))
  obtain ⟨hbx, _⟩ : Below w0.heap.size w0 _ ∧ _ := by assumption
  have HX := hide (HB.out.trans (hbx.mono HB.out.size))
  clear hbx
  go_wp2_with fail
  go_ret
  exact ⟨by rw [show false = decide (s2 ≤ 0) from hd2.symm]; rfl, HX.out⟩


theorem meets_any (w : World) (n c lot good bad : Nat) (a b : ByteArray) (h9 : lot ≤ 9) (hnl : n ≤ lot) (hcn : c ≤ n) (hg : good ≤ lot) (hbd : bad ≤ lot) (p q : Rat) (ha : a.data.toList = RT p) (hb : b.data.toList = RT q) (hp : Sz 30 30 p) (hq : Sz 30 30 q) :
    Calls Tryz.prog 53 #[.agg #[.int .i64 (n : Int), .int .i64 (c : Int)], .agg #[.int .i64 (lot : Int), .int .i64 (good : Int), .int .i64 (bad : Int), .string a, .string b]] w fun e w' => e = .returned (.bool (meetsP lot good bad p q n c)) ∧ Below w.heap.size w w' := by
  have hsz1 : Sz 61 61 (1 - p) := ((sz_one (m := 30) (by omega)).sub hp (Nat.le_refl (30 + 30)) (Nat.le_refl _)).mono (by omega) (by omega)
  have hsz2 : Sz 61 61 q := hq.mono (by omega) (by omega)
  have hc1 := fun W => chance_any W n c lot good h9 hnl hcn hg
  have hc2 := fun W => chance_any W n c lot bad h9 hnl hcn hbd
  have hm := fun W => rqminus_any W ⟨#[49]⟩ a 1 p RT_one.symm ha (m := 30) (by omega) (sz_one (by omega)) hp
  have ho1 := fun W => rqorder_any W ⟨(RT (accQ good (lot - good) n c)).toArray⟩ ⟨(RT (1 - p)).toArray⟩ _ _ rfl rfl (m := 61) (by omega) (accQ_sz hcn (by omega) (by omega) (by omega)) hsz1
  have ho2 := fun W => rqorder_any W ⟨(RT (accQ bad (lot - bad) n c)).toArray⟩ b _ q rfl hb (m := 61) (by omega) (accQ_sz hcn (by omega) (by omega) (by omega)) hsz2
  have hm1 := sgn_ge (p := accQ good (lot - good) n c) (q := 1 - p)
  have hm2 := sgn_le (p := accQ bad (lot - bad) n c) (q := q)
  have hme : meetsP lot good bad p q n c = (decide (0 ≤ sgn (accQ good (lot - good) n c) (1 - p)) && decide (sgn (accQ bad (lot - bad) n c) q ≤ 0)) := by unfold meetsP; rw [decide_eq_decide.2 hm1, decide_eq_decide.2 hm2]
  unfold sgn at hme
  by_cases hx : 0 ≤ ((accQ good (lot - good) n c).num * ((1 - p).den : Int) - (1 - p).num * ((accQ good (lot - good) n c).den : Int)).sign
  · by_cases hy : ((accQ bad (lot - bad) n c).num * (q.den : Int) - q.num * ((accQ bad (lot - bad) n c).den : Int)).sign ≤ 0
    · rw [hme, decide_eq_true hx, decide_eq_true hy]
      exact meets_tt w n c lot good bad a b _ _ _ _ _ hx hy hc1 hm ho1 hc2 ho2
    · rw [hme, decide_eq_true hx, decide_eq_false hy]
      exact meets_tf w n c lot good bad a b _ _ _ _ _ hx hy hc1 hm ho1 hc2 ho2
  · rw [hme, decide_eq_false hx]
    exact meets_f w n c lot good bad a b _ _ _ hx hc1 hm ho1

end Go.Proofs.YtaccdkbofhlbkaaGreatDoor
