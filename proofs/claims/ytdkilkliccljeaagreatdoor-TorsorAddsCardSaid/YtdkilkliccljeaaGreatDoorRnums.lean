/- metrolabref04: Numbers, Short; metrolabref40: Numbers, Check, Short. -/
import Derived.Test.YtdkilkliccljeaaGreatDoorRrck
import Derived.Test.YtdkilkliccljeaaGreatDoorTnum
namespace Go.Proofs.YtdkilkliccljeaaGreatDoor
open Go.RowKit MLab

set_option maxRecDepth 100000 in
set_option maxHeartbeats 1000000 in
theorem rnums_any (w : World) (v : Value) (L : List (List UInt8)) (hv : Strs w v L) (hL : L.length ≤ 1000000) (hsz : ∀ l ∈ L, l.length ≤ 200000) :
    Calls Tryz.prog 53 #[v] w fun e w' => e = .returned (.int .i64 (chkRs L)) ∧ Below w.heap.size w w' := by
  obtain ⟨A, c, rfl, hc⟩ := id hv
  have HV := hide hv
  have HC := hide hc
  have HSZ := hide hsz
  clear hv hc hsz
  go_enter Tryz.func53, Tryz.ntmps53
  go_wp2_with fail
  go_loopg [3] L.length (fun k i wr => ∃ j : Nat, i = .int .i64 (j : Int) ∧ k + j = L.length ∧ (∀ t l, t < j → L[t]? = some l → chkR l = 0) ∧ Below w.heap.size w wr)
  case atStart => exact ⟨0, rfl, rfl, fun t l h => by omega, Below.refl _ _⟩
  case round =>
    obtain ⟨j, rfl, hk, hok, hb⟩ := hrel
    have hj : j ≤ L.length := by omega
    have HK := hide hk
    have HOK := hide hok
    have HB := hide hb
    clear hk hok hb
    by_cases hlt : j < L.length
    · have hji : (j : Int) < (L.length : Int) := by omega
      obtain ⟨b, off, hA, hcell⟩ := HC.out (by omega)
      obtain ⟨s, h1, h2⟩ := hcell j _ (List.getElem?_eq_getElem hlt)
      have hsl : s.size ≤ 200000 := by rw [Lib.size_eq, h2]; exact HSZ.out _ (List.getElem_mem hlt)
      have hc1 : wr.cell? ⟨b, off + j, none⟩ = some (.string s) := (HB.out.cell (p := ⟨b, off + j, none⟩) (block_lt_of_cell h1)).trans h1
      have H2 := hide h2
      clear hcell h1 h2
      subst hA
      go_wp2_with fail
      refine (rrcheck_any _ s _ H2.out hsl).mono ?_
      rintro e w2 ⟨rfl, hb2⟩
      have HB2 := hide hb2
      clear hb2
      by_cases hz : chkR L[j] = 0
      · have hz1 : (chkR L[j] == 0) = true := by rw [hz]; rfl
        have hz2 : (chkR L[j] != 0) = false := by rw [hz]; rfl
        have HZ := hide hz
        clear hz
        go_wp2_with fail
        go_roundg (gk - 1)
        case measure => have := HK.out; omega
        case rel =>
          refine ⟨j + 1, by go_num, by have := HK.out; omega, fun t l ht hl => ?_, HB.out.trans (HB2.out.mono HB.out.size)⟩
          by_cases e : t = j
          · subst e; rw [List.getElem?_eq_getElem hlt] at hl; injection hl with hl; rw [← hl]; exact HZ.out
          · exact HOK.out t l (by omega) hl
      · have hz1 : (chkR L[j] == 0) = false := by rw [beq_eq_false_iff_ne]; exact hz
        have hz2 : (chkR L[j] != 0) = true := by rw [bne_iff_ne]; exact hz
        have HZ := hide hz
        clear hz
        go_wp2_with fail
        go_ret
        refine ⟨?_, HB.out.trans (HB2.out.mono HB.out.size)⟩
        rw [chkRs_skip L j HOK.out, List.drop_eq_getElem_cons hlt, chkRs, if_neg HZ.out]; rfl
    · have hji : ¬ (j : Int) < (L.length : Int) := by omega
      go_wp2_with fail
      go_ret
      refine ⟨?_, HB.out⟩
      rw [chkRs_skip L j HOK.out, List.drop_of_length_le (by omega)]; rfl


/-- All texts have at most 24 bytes. -/
def shortB (L : List (List UInt8)) : Bool := L.all fun l => decide (l.length ≤ 24)

set_option maxRecDepth 100000 in
set_option maxHeartbeats 1000000 in
theorem rshort_any (w : World) (v : Value) (L : List (List UInt8)) (hv : Strs w v L) (hL : L.length ≤ 40) :
    Calls Tryz.prog 42 #[v] w fun e w' => e = .returned (.bool (shortB L)) ∧ Below w.heap.size w w' := by
  obtain ⟨A, c, rfl, hc⟩ := id hv
  have HC := hide hc
  have h40 : (L.length : Int) ≤ 40 := by omega
  clear hv hc
  go_enter Tryz.func42, Tryz.ntmps42
  go_wp2_with fail
  go_loopg [3] L.length (fun k i wr => ∃ j : Nat, i = .int .i64 (j : Int) ∧ k + j = L.length ∧ (∀ t l, t < j → L[t]? = some l → l.length ≤ 24) ∧ Below w.heap.size w wr)
  case atStart => exact ⟨0, rfl, rfl, fun t l h => by omega, Below.refl _ _⟩
  case round =>
    obtain ⟨j, rfl, hk, hok, hb⟩ := hrel
    have hj : j ≤ L.length := by omega
    have HK := hide hk
    have HOK := hide hok
    have HB := hide hb
    clear hk hok hb
    by_cases hlt : j < L.length
    · have hji : (j : Int) < (L.length : Int) := by omega
      obtain ⟨b, off, hA, hcell⟩ := HC.out (by omega)
      obtain ⟨s, h1, h2⟩ := hcell j _ (List.getElem?_eq_getElem hlt)
      have hc1 : wr.cell? ⟨b, off + j, none⟩ = some (.string s) := (HB.out.cell (p := ⟨b, off + j, none⟩) (block_lt_of_cell h1)).trans h1
      have hlen : s.size = L[j].length := by rw [Lib.size_eq, h2]
      have HLEN := hide hlen
      clear hcell h1 h2 hlen
      subst hA
      by_cases hz : 24 < s.size
      · have hzi : (24 : Int) < (s.size : Int) := by omega
        go_wp2_with fail
        go_ret
        refine ⟨?_, HB.out⟩
        have hf : shortB L = false := by
          rw [← Bool.not_eq_true]
          intro h
          have := of_decide_eq_true (List.all_eq_true.1 h _ (List.getElem_mem hlt))
          have := HLEN.out
          omega
        rw [hf]; rfl
      · have hzi : ¬ (24 : Int) < (s.size : Int) := by omega
        go_wp2_with fail
        go_roundg (gk - 1)
        case measure => have := HK.out; omega
        case rel =>
          refine ⟨j + 1, by go_num, by have := HK.out; omega, fun t l ht hl => ?_, HB.out⟩
          by_cases e : t = j
          · subst e; rw [List.getElem?_eq_getElem hlt] at hl; injection hl with hl; rw [← hl]; have := HLEN.out; omega
          · exact HOK.out t l (by omega) hl
    · have hji : ¬ (j : Int) < (L.length : Int) := by omega
      go_wp2_with fail
      go_ret
      refine ⟨?_, HB.out⟩
      have hf : shortB L = true := by
        unfold shortB
        rw [List.all_eq_true]
        intro l hl
        obtain ⟨k, hk, rfl⟩ := List.mem_iff_getElem.1 hl
        exact decide_eq_true (HOK.out k _ (by omega) (List.getElem?_eq_getElem hk))
      rw [hf]; rfl

set_option maxRecDepth 100000 in
/-- The six numbers of a torsor as a slice. -/
theorem rtnums_eq (w : World) (s0 s1 s2 s3 s4 s5 : ByteArray) :
    Calls Tryz.prog 43 #[.agg #[.string s0, .string s1, .string s2, .string s3, .string s4, .string s5]] w fun e w' => ∃ W, Below w.heap.size w W ∧ e = .returned (.slice (some ⟨W.heap.size, 0, none⟩) 6 6) ∧ w' = W.alloc (.cells #[.string s0, .string s1, .string s2, .string s3, .string s4, .string s5] 22) := by
  have hb0 := allocs_below w [.cells #[.string s0, .string s1, .string s2, .string s3, .string s4, .string s5] 25]
  have HB := hide hb0
  clear hb0
  go_enter Tryz.func43, Tryz.ntmps43
  go_wp2_with fail
  go_ret
  exact ⟨w.alloc (.cells #[.string s0, .string s1, .string s2, .string s3, .string s4, .string s5] 25), HB.out, by simp, rfl⟩

set_option maxRecDepth 100000 in
theorem rtCheck_any (w : World) (s0 s1 s2 s3 s4 s5 : ByteArray) (hsz : ∀ l ∈ [s0.data.toList, s1.data.toList, s2.data.toList, s3.data.toList, s4.data.toList, s5.data.toList], l.length ≤ 200000) :
    Calls Tryz.prog 15 #[.agg #[.string s0, .string s1, .string s2, .string s3, .string s4, .string s5]] w fun e w' => e = .returned (.int .i64 (chkRs [s0.data.toList, s1.data.toList, s2.data.toList, s3.data.toList, s4.data.toList, s5.data.toList])) ∧ Below w.heap.size w w' := by
  have HZ := hide hsz
  clear hsz
  have hb0 := hide (allocs_below w [.cells #[.string s0, .string s1, .string s2, .string s3, .string s4, .string s5] 25])
  go_enter Tryz.func15, Tryz.ntmps15
  go_wp2_with fail
  refine (rtnums_eq _ s0 s1 s2 s3 s4 s5).mono ?_
  rintro e w1 ⟨W, hW, rfl, rfl⟩
  have h1 : Below w.heap.size w W := hb0.out.trans (hW.mono hb0.out.size)
  have HW := hide (h1.alloc h1.size (.cells #[.string s0, .string s1, .string s2, .string s3, .string s4, .string s5] 22))
  clear hW h1
  go_wp2_with fail
  refine (rnums_any _ _ _ (strs_six W s0 s1 s2 s3 s4 s5 _) (by simp) HZ.out).mono ?_
  rintro e w2 ⟨rfl, hb2⟩
  have HB2 := hide (HW.out.trans (hb2.mono HW.out.size))
  clear hb2
  go_wp2_with fail
  go_ret
  exact ⟨rfl, HB2.out⟩

set_option maxRecDepth 100000 in
theorem rtShort_any (w : World) (s0 s1 s2 s3 s4 s5 : ByteArray) :
    Calls Tryz.prog 10 #[.agg #[.string s0, .string s1, .string s2, .string s3, .string s4, .string s5]] w fun e w' => e = .returned (.bool (shortB [s0.data.toList, s1.data.toList, s2.data.toList, s3.data.toList, s4.data.toList, s5.data.toList])) ∧ Below w.heap.size w w' := by
  have hb0 := hide (allocs_below w [.cells #[.string s0, .string s1, .string s2, .string s3, .string s4, .string s5] 25])
  go_enter Tryz.func10, Tryz.ntmps10
  go_wp2_with fail
  refine (rtnums_eq _ s0 s1 s2 s3 s4 s5).mono ?_
  rintro e w1 ⟨W, hW, rfl, rfl⟩
  have h1 : Below w.heap.size w W := hb0.out.trans (hW.mono hb0.out.size)
  have HW := hide (h1.alloc h1.size (.cells #[.string s0, .string s1, .string s2, .string s3, .string s4, .string s5] 22))
  clear hW h1
  go_wp2_with fail
  refine (rshort_any _ _ _ (strs_six W s0 s1 s2 s3 s4 s5 _) (by simp)).mono ?_
  rintro e w2 ⟨rfl, hb2⟩
  have HB2 := hide (HW.out.trans (hb2.mono HW.out.size))
  clear hb2
  go_wp2_with fail
  go_ret
  exact ⟨rfl, HB2.out⟩
end Go.Proofs.YtdkilkliccljeaaGreatDoor
