/- torsor: numbers, made, canonical, Check. -/
import Derived.Test.YtdkilkliccljeaaGreatDoorRcheck
import Derived.Test.YtdkilkliccljeaaGreatDoorPts
namespace Go.Proofs.YtdkilkliccljeaaGreatDoor
open Go.RowKit MLab

set_option maxRecDepth 100000 in
set_option maxHeartbeats 1000000 in
theorem canonical_any (w : World) (v : Value) (L : List (List UInt8)) (hv : Strs w v L) (hL : L.length ≤ 1000000) (hsz : ∀ l ∈ L, l.length < 4000000000) (hs : Std w) :
    Calls Tryz.prog 52 #[v] w fun e w' => e = .returned (.int .i64 (chkRs L)) ∧ Below w.heap.size w w' := by
  obtain ⟨A, c, rfl, hc⟩ := id hv
  have HV := hide hv
  have HC := hide hc
  have HSZ := hide hsz
  have HS := hide hs
  clear hv hc hsz hs
  go_enter Tryz.func52, Tryz.ntmps52
  go_wp2_with fail
  go_loopg [8] L.length (fun k i wr => ∃ j : Nat, i = .int .i64 (j : Int) ∧ k + j = L.length ∧ (∀ t l, t < j → L[t]? = some l → chkR l = 0) ∧ Below w.heap.size w wr)
  case atStart => exact ⟨0, rfl, rfl, fun t l h => by omega, Below.refl _ _⟩
  case round =>
    obtain ⟨j, rfl, hk, hok, hb⟩ := hrel
    have hj : j ≤ L.length := by omega
    have HK := hide hk
    have HOK := hide hok
    have HB := hide hb
    clear hk hok hb
    by_cases hlt : j < L.length
    · have hji : (j : Int) < (L.length : Int) := by omega
      obtain ⟨b, off, hA, hcell⟩ := HC.out (by omega)
      obtain ⟨s, h1, h2⟩ := hcell j _ (List.getElem?_eq_getElem hlt)
      have hsl : s.size < 4000000000 := by rw [Lib.size_eq, h2]; exact HSZ.out _ (List.getElem_mem hlt)
      have hc1 : wr.cell? ⟨b, off + j, none⟩ = some (.string s) := (HB.out.cell (p := ⟨b, off + j, none⟩) (block_lt_of_cell h1)).trans h1
      have H2 := hide h2
      clear hcell h1 h2
      subst hA
      go_wp2_with fail
      refine (rcheck_any _ s _ H2.out hsl (std_next HS.out HB.out)).mono ?_
      rintro e w2 ⟨rfl, hb2⟩
      have HB2 := hide hb2
      clear hb2
      by_cases hz : chkR L[j] = 0
      · have hz1 : (chkR L[j] == 0) = true := by rw [hz]; rfl
        have hz2 : (chkR L[j] != 0) = false := by rw [hz]; rfl
        have HZ := hide hz
        clear hz
        go_wp2_with fail
        go_roundg (gk - 1)
        case measure => have := HK.out; omega
        case rel =>
          refine ⟨j + 1, by go_num, by have := HK.out; omega, fun t l ht hl => ?_, HB.out.trans (HB2.out.mono HB.out.size)⟩
          by_cases e : t = j
          · subst e; rw [List.getElem?_eq_getElem hlt] at hl; injection hl with hl; rw [← hl]; exact HZ.out
          · exact HOK.out t l (by omega) hl
      · have hz1 : (chkR L[j] == 0) = false := by rw [beq_eq_false_iff_ne]; exact hz
        have hz2 : (chkR L[j] != 0) = true := by rw [bne_iff_ne]; exact hz
        have HZ := hide hz
        clear hz
        go_wp2_with fail
        go_ret
        refine ⟨?_, HB.out.trans (HB2.out.mono HB.out.size)⟩
        rw [chkRs_skip L j HOK.out, List.drop_eq_getElem_cons hlt, chkRs, if_neg HZ.out]; rfl
    · have hji : ¬ (j : Int) < (L.length : Int) := by omega
      go_wp2_with fail
      go_ret
      refine ⟨?_, HB.out⟩
      rw [chkRs_skip L j HOK.out, List.drop_of_length_le (by omega)]; rfl


set_option maxRecDepth 100000 in
theorem tnumbers_eq (w : World) (s0 s1 s2 s3 s4 s5 : ByteArray) :
    Calls Tryz.prog 48 #[.agg #[.string s0, .string s1, .string s2, .string s3, .string s4, .string s5]] w fun e w' => e = .returned (.agg #[.string s0, .string s1, .string s2, .string s3, .string s4, .string s5]) ∧ w' = (w.alloc (.cells #[.string s0, .string s1, .string s2, .string s3, .string s4, .string s5] 25)).alloc (.cells #[.string s0, .string s1, .string s2, .string s3, .string s4, .string s5] 87) := by
  go_enter Tryz.func48, Tryz.ntmps48
  go_wp2_with fail
  exact bodyPost_ret (v := .agg #[.string s0, .string s1, .string s2, .string s3, .string s4, .string s5]) (by simp [results, Tryz.results48, go_sem]) rfl ⟨rfl, rfl⟩
theorem tnumbers_any (w : World) (s0 s1 s2 s3 s4 s5 : ByteArray) :
    Calls Tryz.prog 48 #[.agg #[.string s0, .string s1, .string s2, .string s3, .string s4, .string s5]] w fun e w' => e = .returned (.agg #[.string s0, .string s1, .string s2, .string s3, .string s4, .string s5]) ∧ Below w.heap.size w w' := by
  refine (tnumbers_eq w s0 s1 s2 s3 s4 s5).mono ?_
  rintro e w' ⟨rfl, rfl⟩
  exact ⟨rfl, allocs_below w [_, _]⟩

set_option maxRecDepth 100000 in
theorem tmade_any (w : World) (s0 s1 s2 s3 s4 s5 : ByteArray) :
    Calls Tryz.prog 54 #[.agg #[.string s0, .string s1, .string s2, .string s3, .string s4, .string s5]] w fun e w' => e = .returned (.agg #[.string s0, .string s1, .string s2, .string s3, .string s4, .string s5]) ∧ Below w.heap.size w w' := by
  go_enter Tryz.func54, Tryz.ntmps54
  go_wp2_with fail
  exact bodyPost_ret (v := .agg #[.string s0, .string s1, .string s2, .string s3, .string s4, .string s5]) (by simp [results, Tryz.results54, go_sem]) rfl ⟨rfl, allocs_below w [(.cells #[.string s0, .string s1, .string s2, .string s3, .string s4, .string s5] 87), (.cells #[.string s0, .string s1, .string s2, .string s3, .string s4, .string s5] 25)]⟩

theorem strs_six (w : World) (s0 s1 s2 s3 s4 s5 : ByteArray) (t : TypeId) : Strs (w.alloc (.cells #[.string s0, .string s1, .string s2, .string s3, .string s4, .string s5] t)) (.slice (some ⟨w.heap.size, 0, none⟩) 6 6) [s0.data.toList, s1.data.toList, s2.data.toList, s3.data.toList, s4.data.toList, s5.data.toList] := by
  refine ⟨_, 6, rfl, fun _ => ⟨w.heap.size, 0, rfl, fun i l hi => ?_⟩⟩
  have hb := Blk.new w t #[.string s0, .string s1, .string s2, .string s3, .string s4, .string s5]
  simp only [Nat.zero_add, hb.cell]
  match i, hi with
  | 0, hi => cases hi; exact ⟨s0, rfl, rfl⟩
  | 1, hi => cases hi; exact ⟨s1, rfl, rfl⟩
  | 2, hi => cases hi; exact ⟨s2, rfl, rfl⟩
  | 3, hi => cases hi; exact ⟨s3, rfl, rfl⟩
  | 4, hi => cases hi; exact ⟨s4, rfl, rfl⟩
  | 5, hi => cases hi; exact ⟨s5, rfl, rfl⟩
  | j + 6, hi => simp at hi

set_option maxRecDepth 100000 in
set_option maxHeartbeats 1000000 in
theorem tCheck_any (w : World) (s0 s1 s2 s3 s4 s5 : ByteArray) (hsz : ∀ l ∈ [s0.data.toList, s1.data.toList, s2.data.toList, s3.data.toList, s4.data.toList, s5.data.toList], l.length < 4000000000) (hs : Std w) :
    Calls Tryz.prog 14 #[.agg #[.string s0, .string s1, .string s2, .string s3, .string s4, .string s5]] w fun e w' => e = .returned (.int .i64 (chkRs [s0.data.toList, s1.data.toList, s2.data.toList, s3.data.toList, s4.data.toList, s5.data.toList])) ∧ Below w.heap.size w w' := by
  have HS := hide hs
  have HZ := hide hsz
  have hb0 := hide (allocs_below w [.cells #[.string s0, .string s1, .string s2, .string s3, .string s4, .string s5] 25])
  clear hs hsz
  go_enter Tryz.func14, Tryz.ntmps14
  go_wp2_with fail
  refine (tnumbers_any _ s0 s1 s2 s3 s4 s5).mono ?_
  rintro e w1 ⟨rfl, hb1⟩
  have HB1 := hide (hb0.out.trans (hb1.mono hb0.out.size))
  clear hb1
  go_wp2_with fail
  have hb2 : Below w.heap.size w (w1.alloc (.cells #[.string s0, .string s1, .string s2, .string s3, .string s4, .string s5] 87)) := HB1.out.alloc HB1.out.size _
  refine (canonical_any _ _ _ (strs_six w1 s0 s1 s2 s3 s4 s5 _) (by simp) HZ.out (std_next HS.out hb2)).mono ?_
  rintro e w2 ⟨rfl, hb3⟩
  have HB3 := hide (hb2.trans (hb3.mono hb2.size))
  clear hb2 hb3
  go_wp2_with fail
  go_ret
  exact ⟨rfl, HB3.out⟩
end Go.Proofs.YtdkilkliccljeaaGreatDoor
