/- law 40: TorsorForms. -/
import Derived.Test.YtdkilkliccljeaaGreatDoorTappl
namespace Go.Proofs.YtdkilkliccljeaaGreatDoor
open Go.RowKit MLab

/-- No slice, or one of six texts. -/
def Sx (r : Option (Nat → ByteArray)) (v : Value) (w : World) : Prop := match r with
  | none => v = .slice none 0 0
  | some r => Six r v w
theorem Sx.below {r : Option (Nat → ByteArray)} {v : Value} {w w' : World} (h : Sx r v w) (hb : Below w.heap.size w w') : Sx r v w' := by
  cases r with
  | none => exact h
  | some r => exact Six.below h hb
theorem equal_sx (w : World) (va vb : Value) (r : Option (Nat → ByteArray)) (ha : Sx r va w) (hb : Sx r vb w) :
    Calls Tryz.prog 22 #[va, vb] w fun e w' => e = .returned (.bool true) ∧ Below w.heap.size w w' := by
  cases r with
  | none =>
    rw [show va = .slice none 0 0 from ha, show vb = .slice none 0 0 from hb]
    exact equal_nil w
  | some r => exact equal_six w va vb r ha hb
def FormX (r : Option (Nat → ByteArray)) (c : Int) (e : Ending) (w : World) : Prop := ∃ v, e = .returned (.tuple #[v, .int .i64 c]) ∧ Sx r v w
theorem gvn_zero {k x y z : Int} (h : gvn k x y z = 0) : (k = 0 ∨ k = 1 ∨ k = 2) ∧ Co x ∧ Co y ∧ Co z := by
  unfold gvn at h
  split at h
  · cases h
  · rename_i hk
    split at h
    · rename_i hw; exact ⟨by omega, hw⟩
    · cases h

theorem form_both (k x y z : Int) : ∃ (r : Option (Nat → ByteArray)) (c : Int),
    (∀ w, Std w → Calls Tryz.prog 18 #[.int .i64 k, .agg #[.int .i64 x, .int .i64 y, .int .i64 z]] w fun e w' => FormX r c e w' ∧ Below w.heap.size w w') ∧
    (∀ w, Calls Tryz.prog 19 #[.int .i64 k, .agg #[.int .i64 x, .int .i64 y, .int .i64 z]] w fun e w' => FormX r c e w' ∧ Below w.heap.size w w') := by
  by_cases hg : gvn k x y z = 0
  · obtain ⟨hk, hw⟩ := gvn_zero hg
    have key : ∀ n : Nat, n < 3 → k = (n : Int) → _ := fun n hn hkn => (⟨some (frmT n x y z), 0, fun w hs => by
        subst hkn; exact (tForm_ok w n hn x y z hw hs).mono fun e w' ⟨⟨v, h1, h2⟩, h3⟩ => ⟨⟨v, h1, h2⟩, h3⟩, fun w => by
        subst hkn; exact (rtForm_ok w n hn x y z hw).mono fun e w' ⟨⟨v, h1, h2⟩, h3⟩ => ⟨⟨v, h1, h2⟩, h3⟩⟩ : ∃ (r : Option (Nat → ByteArray)) (c : Int),
    (∀ w, Std w → Calls Tryz.prog 18 #[.int .i64 k, .agg #[.int .i64 x, .int .i64 y, .int .i64 z]] w fun e w' => FormX r c e w' ∧ Below w.heap.size w w') ∧
    (∀ w, Calls Tryz.prog 19 #[.int .i64 k, .agg #[.int .i64 x, .int .i64 y, .int .i64 z]] w fun e w' => FormX r c e w' ∧ Below w.heap.size w w'))
    rcases hk with h | h | h
    · exact key 0 (by omega) h
    · exact key 1 (by omega) h
    · exact key 2 (by omega) h
  · exact ⟨none, _, fun w _ => (tForm_bad w k x y z _ rfl hg).mono fun e w' ⟨h1, h2⟩ => ⟨⟨_, h1, rfl⟩, h2⟩, fun w => (rtForm_bad w k x y z _ rfl hg).mono fun e w' ⟨h1, h2⟩ => ⟨⟨_, h1, rfl⟩, h2⟩⟩

def AboutB (k x y z : Int) (a : ByteArray) : Prop := ∃ (a0 a1 a2 a3 a4 a5 : ByteArray) (c : Int), (∀ s ∈ [a0, a1, a2, a3, a4, a5], s.size ≤ 1000) ∧
    (∀ w, Std w → Calls Tryz.prog 20 #[.int .i64 k, .agg #[.int .i64 x, .int .i64 y, .int .i64 z], .string a] w fun e w' => e = .returned (.tuple #[.agg #[.string a0, .string a1, .string a2, .string a3, .string a4, .string a5], .int .i64 c]) ∧ Below w.heap.size w w') ∧
    (∀ w, Calls Tryz.prog 21 #[.int .i64 k, .agg #[.int .i64 x, .int .i64 y, .int .i64 z], .string a] w fun e w' => e = .returned (.tuple #[.agg #[.string a0, .string a1, .string a2, .string a3, .string a4, .string a5], .int .i64 c]) ∧ Below w.heap.size w w')
theorem abt_small {k : Nat} {x y z : Int} {t : Rat} (hw : Co x ∧ Co y ∧ Co z) (h : Sz 24 24 t) (i : Nat) : (⟨(RT (abt k x y z t i)).toArray⟩ : ByteArray).size ≤ 1000 := by
  have := RT_len_sz (by omega) (abt_sz (k := k) hw.1.cb hw.2.1.cb hw.2.2.cb h i)
  rw [Lib.size_eq]; show (RT (abt k x y z t i)).length ≤ 1000; omega
theorem about_both (k x y z : Int) (a : ByteArray) (ha : a.size ≤ 24) : AboutB k x y z a := by
  have hal : a.data.toList.length ≤ 24 := by rw [← Lib.size_eq]; exact ha
  have hz : ∀ s ∈ [(⟨#[]⟩ : ByteArray), ⟨#[]⟩, ⟨#[]⟩, ⟨#[]⟩, ⟨#[]⟩, ⟨#[]⟩], s.size ≤ 1000 := by decide
  by_cases hg : gvn k x y z = 0
  · by_cases hc : chkR a.data.toList = 0
    · obtain ⟨t, ht, hq⟩ := short_sz (by omega) hc hal
      obtain rfl := ba_eq ht
      obtain ⟨hk, hw⟩ := gvn_zero hg
      have hsz : ∀ n, ∀ s ∈ [(⟨(RT (abt n x y z t 0)).toArray⟩ : ByteArray), ⟨(RT (abt n x y z t 1)).toArray⟩, ⟨(RT (abt n x y z t 2)).toArray⟩, ⟨(RT (abt n x y z t 3)).toArray⟩, ⟨(RT (abt n x y z t 4)).toArray⟩, ⟨(RT (abt n x y z t 5)).toArray⟩], s.size ≤ 1000 := by
        intro n s hm
        simp only [List.mem_cons, List.not_mem_nil, or_false] at hm
        rcases hm with rfl | rfl | rfl | rfl | rfl | rfl <;> exact abt_small hw hq _
      rcases hk with rfl | rfl | rfl
      · exact ⟨_, _, _, _, _, _, 0, hsz 0, fun w hs => tabout0 w x y z t (m := 24) (by omega) hq hw hs, fun w => rabout0 w x y z t (m := 24) (by omega) hq hw⟩
      · exact ⟨_, _, _, _, _, _, 0, hsz 1, fun w hs => tabout1 w x y z t (m := 24) (by omega) hq hw hs, fun w => rabout1 w x y z t (m := 24) (by omega) hq hw⟩
      · exact ⟨_, _, _, _, _, _, 0, hsz 2, fun w hs => tabout2 w x y z t (m := 24) (by omega) hq hw hs, fun w => rabout2 w x y z t (m := 24) (by omega) hq hw⟩
    · exact ⟨_, _, _, _, _, _, _, hz, fun w hs => tabout_bad w k x y z a _ hg rfl hc (by omega) hs, fun w => rabout_bad w k x y z a _ hg rfl hc (by omega)⟩
  · exact ⟨_, _, _, _, _, _, _, hz, fun w _ => tabout_given w k x y z a _ rfl hg, fun w => rabout_given w k x y z a _ rfl hg⟩

set_option maxRecDepth 100000 in
set_option maxHeartbeats 8000000 in
theorem forms_any (w : World) (k x y z : Int) (a : ByteArray) (ha : a.size ≤ maxLen) (hs : Std w) : Calls Tryz.prog 4 #[.int .i64 k, .agg #[.int .i64 x, .int .i64 y, .int .i64 z], .string a] w fun e w' => e = .returned (.bool true) ∧ Below w.heap.size w w' := by
  have hb0 := allocs_below w [.cells #[.int .i64 x, .int .i64 y, .int .i64 z] 27]
  have hk0 : Blk (allocs w [.cells #[.int .i64 x, .int .i64 y, .int .i64 z] 27]) (w.heap.size + 0) 27 #[.int .i64 x, .int .i64 y, .int .i64 z] := allocs_at w [.cells #[.int .i64 x, .int .i64 y, .int .i64 z] 27] 0 rfl
  unfold allocs at hb0 hk0
  simp only [List.foldl_cons, List.foldl_nil] at hb0 hk0
  rw [Nat.add_zero] at hk0
  have HS := hide hs
  have HB0 := hide hb0
  have K0 := hide hk0
  clear hs hb0 hk0
  unfold maxLen at ha
  by_cases hsh : a.size ≤ 24
  · obtain ⟨r, c, hA, hB⟩ := form_both k x y z
    obtain ⟨a0, a1, a2, a3, a4, a5, d, hz, hC, hD⟩ := about_both k x y z a (by omega)
    have HA := hide hA
    have HB := hide hB
    have HC := hide hC
    have HD := hide hD
    have m6 : ∀ s ∈ [a0, a1, a2, a3, a4, a5], s.size ≤ maxLen := fun s h => by have := hz s h; unfold maxLen; omega
    have e2 := fun w => self_tor a0 a1 a2 a3 a4 a5 (m6 _ (by simp)) (m6 _ (by simp)) (m6 _ (by simp)) (m6 _ (by simp)) (m6 _ (by simp)) (m6 _ (by simp)) w
    have hln : ¬ 24 < a.size := by omega
    clear hA hB hC hD hz m6 hsh
    go_enter Tryz.func4, Tryz.ntmps4
    go_wp2_with fail
    refine (HA.out _ (std_next HS.out HB0.out)).mono ?_
    rintro e w1 ⟨⟨v, rfl, hv⟩, hb1⟩
    have HV := hide hv
    have HB1 := hide (HB0.out.trans (hb1.mono HB0.out.size))
    have ph := Blk.below K0.out hb1 (Blk.lt K0.out)
    have p0 : w1.cell? ⟨w.heap.size, 0, none⟩ = some (.int .i64 x) := (Blk.cell ph 0).trans rfl
    have p1 : w1.cell? ⟨w.heap.size, 1, none⟩ = some (.int .i64 y) := (Blk.cell ph 1).trans rfl
    have p2 : w1.cell? ⟨w.heap.size, 2, none⟩ = some (.int .i64 z) := (Blk.cell ph 2).trans rfl
    have P1 := hide ph
    clear hv hb1 ph
    go_wp2_with fail
    refine (HB.out _).mono ?_
    rintro e w2 ⟨⟨vv, rfl, hvv⟩, hb2⟩
    have HV1 := hide (HV.out.below hb2)
    have HV2 := hide hvv
    have B2 := hide (HB1.out.trans (hb2.mono HB1.out.size))
    clear p0 p1 p2
    have ph := Blk.below P1.out hb2 (Blk.lt P1.out)
    have p0 : w2.cell? ⟨w.heap.size, 0, none⟩ = some (.int .i64 x) := (Blk.cell ph 0).trans rfl
    have p1 : w2.cell? ⟨w.heap.size, 1, none⟩ = some (.int .i64 y) := (Blk.cell ph 1).trans rfl
    have p2 : w2.cell? ⟨w.heap.size, 2, none⟩ = some (.int .i64 z) := (Blk.cell ph 2).trans rfl
    have P2 := hide ph
    clear hvv hb2 ph
    go_wp2_with fail
    refine (HC.out _ (std_next HS.out B2.out)).mono ?_
    rintro e w3 ⟨rfl, hb3⟩
    clear p0 p1 p2
    have hx1 := (HV1.out.below hb3).below (allocs_below w3 [.cells #[.string a0, .string a1, .string a2, .string a3, .string a4, .string a5] 25])
    have hx2 := (HV2.out.below hb3).below (allocs_below w3 [.cells #[.string a0, .string a1, .string a2, .string a3, .string a4, .string a5] 25])
    unfold allocs at hx1 hx2
    simp only [List.foldl_cons, List.foldl_nil] at hx1 hx2
    have ph := (Blk.below P2.out hb3 (Blk.lt P2.out)).alloc (.cells #[.string a0, .string a1, .string a2, .string a3, .string a4, .string a5] 25)
    have hn := Blk.new w3 25 #[.string a0, .string a1, .string a2, .string a3, .string a4, .string a5]
    have hb3w := B2.out.trans (hb3.mono B2.out.size)
    have hb4 := hb3w.alloc hb3w.size (.cells #[.string a0, .string a1, .string a2, .string a3, .string a4, .string a5] 25)
    clear hb3 hb3w
    go_upto_region 6 with (fail)
    generalize (w3.alloc (.cells #[.string a0, .string a1, .string a2, .string a3, .string a4, .string a5] 25)) = w4 at *
    have p0 : w4.cell? ⟨w.heap.size, 0, none⟩ = some (.int .i64 x) := (Blk.cell ph 0).trans rfl
    have p1 : w4.cell? ⟨w.heap.size, 1, none⟩ = some (.int .i64 y) := (Blk.cell ph 1).trans rfl
    have p2 : w4.cell? ⟨w.heap.size, 2, none⟩ = some (.int .i64 z) := (Blk.cell ph 2).trans rfl
    have X1 := hide hx1
    have X2 := hide hx2
    have N4 := hide hn
    have B4 := hide hb4
    clear hx1 hx2 hn hb4 ph
    go_wp2_with fail
    refine (HD.out _).mono ?_
    rintro e w5 ⟨rfl, hb5⟩
    clear p0 p1 p2
    have hx1 := (X1.out.below hb5).below (allocs_below w5 [.cells #[.string a0, .string a1, .string a2, .string a3, .string a4, .string a5] 25])
    have hx2 := (X2.out.below hb5).below (allocs_below w5 [.cells #[.string a0, .string a1, .string a2, .string a3, .string a4, .string a5] 25])
    unfold allocs at hx1 hx2
    simp only [List.foldl_cons, List.foldl_nil] at hx1 hx2
    have hn4 := (Blk.below N4.out hb5 (Blk.lt N4.out)).alloc (.cells #[.string a0, .string a1, .string a2, .string a3, .string a4, .string a5] 25)
    have hn := Blk.new w5 25 #[.string a0, .string a1, .string a2, .string a3, .string a4, .string a5]
    have hb5w := B4.out.trans (hb5.mono B4.out.size)
    have hb6 := hb5w.alloc hb5w.size (.cells #[.string a0, .string a1, .string a2, .string a3, .string a4, .string a5] 25)
    clear hb5 hb5w
    go_upto_region 7 with (fail)
    generalize (w5.alloc (.cells #[.string a0, .string a1, .string a2, .string a3, .string a4, .string a5] 25)) = w6 at *
    have X5 := hide hx1
    have X6 := hide hx2
    have N5 := hide hn4
    have N6 := hide hn
    have B6 := hide hb6
    clear hx1 hx2 hn hn4 hb6
    go_wp2_with fail
    refine (equal_sx _ _ _ r X5.out X6.out).mono ?_
    rintro e w7 ⟨rfl, hb7⟩
    have B7 := hide (B6.out.trans (hb7.mono B6.out.size))
    have uh := Blk.below N5.out hb7 (Blk.lt N5.out)
    have vh := Blk.below N6.out hb7 (Blk.lt N6.out)
    have u0 : w7.cell? ⟨w3.heap.size, 0, none⟩ = some (.string a0) := (Blk.cell uh 0).trans rfl
    have u1 : w7.cell? ⟨w3.heap.size, 1, none⟩ = some (.string a1) := (Blk.cell uh 1).trans rfl
    have u2 : w7.cell? ⟨w3.heap.size, 2, none⟩ = some (.string a2) := (Blk.cell uh 2).trans rfl
    have u3 : w7.cell? ⟨w3.heap.size, 3, none⟩ = some (.string a3) := (Blk.cell uh 3).trans rfl
    have u4 : w7.cell? ⟨w3.heap.size, 4, none⟩ = some (.string a4) := (Blk.cell uh 4).trans rfl
    have u5 : w7.cell? ⟨w3.heap.size, 5, none⟩ = some (.string a5) := (Blk.cell uh 5).trans rfl
    have v0 : w7.cell? ⟨w5.heap.size, 0, none⟩ = some (.string a0) := (Blk.cell vh 0).trans rfl
    have v1 : w7.cell? ⟨w5.heap.size, 1, none⟩ = some (.string a1) := (Blk.cell vh 1).trans rfl
    have v2 : w7.cell? ⟨w5.heap.size, 2, none⟩ = some (.string a2) := (Blk.cell vh 2).trans rfl
    have v3 : w7.cell? ⟨w5.heap.size, 3, none⟩ = some (.string a3) := (Blk.cell vh 3).trans rfl
    have v4 : w7.cell? ⟨w5.heap.size, 4, none⟩ = some (.string a4) := (Blk.cell vh 4).trans rfl
    have v5 : w7.cell? ⟨w5.heap.size, 5, none⟩ = some (.string a5) := (Blk.cell vh 5).trans rfl
    clear uh vh hb7
    go_wp2_with fail
    refine (awake40 _ (std_next HS.out B7.out)).mono ?_
    rintro e w8 ⟨rfl, hb8⟩
    have B8 := hide (B7.out.trans (hb8.mono B7.out.size))
    clear hb8
    go_wp2_with fail
    go_ret
    exact ⟨rfl, B8.out⟩
  · have hl : (24 : Int) < (a.size : Int) := by omega
    have hln : 24 < a.size := by omega
    go_enter Tryz.func4, Tryz.ntmps4
    go_wp2_with fail
    refine (awake40 _ (std_next HS.out HB0.out)).mono ?_
    rintro e w2 ⟨rfl, hb2⟩
    have HB2 := hide (HB0.out.trans (hb2.mono HB0.out.size))
    clear hb2
    go_wp2_with fail
    go_ret
    exact ⟨rfl, HB2.out⟩
end Go.Proofs.YtdkilkliccljeaaGreatDoor
