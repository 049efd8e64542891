/- metrolabref40: Summed, Add, Scale. -/
import Derived.Test.YtdkilkliccljeaaGreatDoorRtmoved
import Derived.Deep.AppendLies
namespace Go.Proofs.YtdkilkliccljeaaGreatDoor
open Go.RowKit MLab

set_option maxRecDepth 100000 in
set_option maxHeartbeats 8000000 in
theorem rtsummed_any (w : World) (p q : Nat → Rat) {m : Nat} (hm : m ≤ 1000) (hp : ∀ i, i < 6 → Sz m m (p i)) (hq : ∀ i, i < 6 → Sz m m (q i)) :
    Calls Tryz.prog 77 #[.agg (TV p), .agg (TV q)] w fun e w' => e = .returned (.agg (TV fun i => p i + q i)) ∧ Below w.heap.size w w' := by
  have HB := allocs_below w [.cells (TV p) 25, .cells (TV q) 25, .cells six0 25]
  have K_s : Blk (allocs w [.cells (TV p) 25, .cells (TV q) 25, .cells six0 25]) (w.heap.size + 0) 25 (TV p) := allocs_at w [.cells (TV p) 25, .cells (TV q) 25, .cells six0 25] 0 rfl
  have K_t : Blk (allocs w [.cells (TV p) 25, .cells (TV q) 25, .cells six0 25]) (w.heap.size + 1) 25 (TV q) := allocs_at w [.cells (TV p) 25, .cells (TV q) 25, .cells six0 25] 1 rfl
  have K_r : Blk (allocs w [.cells (TV p) 25, .cells (TV q) 25, .cells six0 25]) (w.heap.size + 2) 25 six0 := allocs_at w [.cells (TV p) 25, .cells (TV q) 25, .cells six0 25] 2 rfl
  unfold allocs at HB K_s K_t K_r
  simp only [List.foldl_cons, List.foldl_nil] at HB K_s K_t K_r
  rw [Nat.add_zero] at K_s
  have HP := hide hp
  have HQ := hide hq
  obtain ⟨i0, hi, hz0, hz1, hz2⟩ := info_parts info_rat
  clear hp hq
  go_enter Tryz.func77, Tryz.ntmps77
  go_upto_region 1 with (fail)
  generalize (((w.alloc (.cells (TV p) 25)).alloc (.cells (TV q) 25)).alloc (.cells six0 25)) = w0 at *
  replace K_s := hide K_s
  replace K_t := hide K_t
  replace K_r := hide K_r
  replace HB := hide HB
  have s0 := (Blk.cell K_s.out 0).trans (rfl : _ = some (Value.string ⟨(RT (p 0)).toArray⟩))
  have s1 := (Blk.cell K_s.out 1).trans (rfl : _ = some (Value.string ⟨(RT (p 1)).toArray⟩))
  have s2 := (Blk.cell K_s.out 2).trans (rfl : _ = some (Value.string ⟨(RT (p 2)).toArray⟩))
  have s3 := (Blk.cell K_s.out 3).trans (rfl : _ = some (Value.string ⟨(RT (p 3)).toArray⟩))
  have s4 := (Blk.cell K_s.out 4).trans (rfl : _ = some (Value.string ⟨(RT (p 4)).toArray⟩))
  have s5 := (Blk.cell K_s.out 5).trans (rfl : _ = some (Value.string ⟨(RT (p 5)).toArray⟩))
  have t0 := (Blk.cell K_t.out 0).trans (rfl : _ = some (Value.string ⟨(RT (q 0)).toArray⟩))
  have t1 := (Blk.cell K_t.out 1).trans (rfl : _ = some (Value.string ⟨(RT (q 1)).toArray⟩))
  have t2 := (Blk.cell K_t.out 2).trans (rfl : _ = some (Value.string ⟨(RT (q 2)).toArray⟩))
  have t3 := (Blk.cell K_t.out 3).trans (rfl : _ = some (Value.string ⟨(RT (q 3)).toArray⟩))
  have t4 := (Blk.cell K_t.out 4).trans (rfl : _ = some (Value.string ⟨(RT (q 4)).toArray⟩))
  have t5 := (Blk.cell K_t.out 5).trans (rfl : _ = some (Value.string ⟨(RT (q 5)).toArray⟩))
  have SK : ∀ w', Below w0.heap.size w0 w' → Below w0.heap.size w0 w' ∧ w'.cell? ⟨w.heap.size, 0, none⟩ = some (.string ⟨(RT (p 0)).toArray⟩) ∧ w'.cell? ⟨w.heap.size, 1, none⟩ = some (.string ⟨(RT (p 1)).toArray⟩) ∧ w'.cell? ⟨w.heap.size, 2, none⟩ = some (.string ⟨(RT (p 2)).toArray⟩) ∧ w'.cell? ⟨w.heap.size, 3, none⟩ = some (.string ⟨(RT (p 3)).toArray⟩) ∧ w'.cell? ⟨w.heap.size, 4, none⟩ = some (.string ⟨(RT (p 4)).toArray⟩) ∧ w'.cell? ⟨w.heap.size, 5, none⟩ = some (.string ⟨(RT (p 5)).toArray⟩) ∧ w'.cell? ⟨w.heap.size + 1, 0, none⟩ = some (.string ⟨(RT (q 0)).toArray⟩) ∧ w'.cell? ⟨w.heap.size + 1, 1, none⟩ = some (.string ⟨(RT (q 1)).toArray⟩) ∧ w'.cell? ⟨w.heap.size + 1, 2, none⟩ = some (.string ⟨(RT (q 2)).toArray⟩) ∧ w'.cell? ⟨w.heap.size + 1, 3, none⟩ = some (.string ⟨(RT (q 3)).toArray⟩) ∧ w'.cell? ⟨w.heap.size + 1, 4, none⟩ = some (.string ⟨(RT (q 4)).toArray⟩) ∧ w'.cell? ⟨w.heap.size + 1, 5, none⟩ = some (.string ⟨(RT (q 5)).toArray⟩) := fun w' h => ⟨h, (bcell h _ _ (block_lt_of_cell s0)).trans s0, (bcell h _ _ (block_lt_of_cell s1)).trans s1, (bcell h _ _ (block_lt_of_cell s2)).trans s2, (bcell h _ _ (block_lt_of_cell s3)).trans s3, (bcell h _ _ (block_lt_of_cell s4)).trans s4, (bcell h _ _ (block_lt_of_cell s5)).trans s5, (bcell h _ _ (block_lt_of_cell t0)).trans t0, (bcell h _ _ (block_lt_of_cell t1)).trans t1, (bcell h _ _ (block_lt_of_cell t2)).trans t2, (bcell h _ _ (block_lt_of_cell t3)).trans t3, (bcell h _ _ (block_lt_of_cell t4)).trans t4, (bcell h _ _ (block_lt_of_cell t5)).trans t5⟩
  go_region_held3 (fun w' => Below w0.heap.size w0 w' ∧ w'.cell? ⟨w.heap.size, 0, none⟩ = some (.string ⟨(RT (p 0)).toArray⟩) ∧ w'.cell? ⟨w.heap.size, 1, none⟩ = some (.string ⟨(RT (p 1)).toArray⟩) ∧ w'.cell? ⟨w.heap.size, 2, none⟩ = some (.string ⟨(RT (p 2)).toArray⟩) ∧ w'.cell? ⟨w.heap.size, 3, none⟩ = some (.string ⟨(RT (p 3)).toArray⟩) ∧ w'.cell? ⟨w.heap.size, 4, none⟩ = some (.string ⟨(RT (p 4)).toArray⟩) ∧ w'.cell? ⟨w.heap.size, 5, none⟩ = some (.string ⟨(RT (p 5)).toArray⟩) ∧ w'.cell? ⟨w.heap.size + 1, 0, none⟩ = some (.string ⟨(RT (q 0)).toArray⟩) ∧ w'.cell? ⟨w.heap.size + 1, 1, none⟩ = some (.string ⟨(RT (q 1)).toArray⟩) ∧ w'.cell? ⟨w.heap.size + 1, 2, none⟩ = some (.string ⟨(RT (q 2)).toArray⟩) ∧ w'.cell? ⟨w.heap.size + 1, 3, none⟩ = some (.string ⟨(RT (q 3)).toArray⟩) ∧ w'.cell? ⟨w.heap.size + 1, 4, none⟩ = some (.string ⟨(RT (q 4)).toArray⟩) ∧ w'.cell? ⟨w.heap.size + 1, 5, none⟩ = some (.string ⟨(RT (q 5)).toArray⟩)) (first | exact SK _ (Below.refl _ _).drew | exact SK _ (Below.refl _ _) | exact SK _ (bel_next (by assumption) (by assumption) (Nat.le_refl _)))
    (first
      | (go_at_call 43; ((with_reducible refine (rtnums_six _ p).mono ?_); rintro e wx ⟨⟨v1, rfl, hsix1⟩, hbW⟩))
      | (go_at_call 43; ((with_reducible refine (rtnums_six _ q).mono ?_); rintro e wy ⟨⟨v2, rfl, hsix2⟩, hbW⟩; replace hsix1 := Six.below hsix1 hbW)))
  obtain ⟨hbx, _⟩ : Below w0.heap.size w0 wy ∧ _ := by assumption
  have hbx1 := hbx
  clear SK
  clear s0 s1 s2 s3 s4 s5 t0 t1 t2 t3 t4 t5
  replace K_s := hide (Blk.below K_s.out hbx1 (Blk.lt K_s.out))
  replace K_t := hide (Blk.below K_t.out hbx1 (Blk.lt K_t.out))
  replace K_r := hide (Blk.below K_r.out hbx1 (Blk.lt K_r.out))
  replace HB := hide (HB.out.trans (hbx1.mono HB.out.size))
  clear hbx1
  obtain ⟨g1, c1, rfl, hc1⟩ := hsix1
  obtain ⟨g2, c2, rfl, hc2⟩ := hsix2
  have HC1 := hide hc1
  have HC2 := hide hc2
  clear hc1 hc2 hbx
  go_wp2_with fail
  go_loopg [7, 8] 6 (fun n ov iv wr => ∃ i : Nat, iv = .int .i64 (i : Int) ∧ n + i = 6 ∧ wr.ownsRow wy.heap.size 22 1 ov i (strsOf (fun i => ⟨(RT (p i + q i)).toArray⟩) i) ∧ Below wy.heap.size wy wr)
  case atStart => exact ⟨0, rfl, rfl, World.ownsRow_nil _ _ _ _, Below.refl _ _⟩
  case round =>
    obtain ⟨i, rfl, hn, hown, hb⟩ := hrel
    have HN := hide hn
    have HBr := hide hb
    have hile : i ≤ 6 := by omega
    clear hn hb
    by_cases hlt : i < 6
    · have hii : (i : Int) < 6 := by omega
      have hi00 : (0 : Int) ≤ (i : Int) := by omega
      have p0 : wr.cell? ⟨g1, i, none⟩ = some (.string ⟨(RT (p i)).toArray⟩) := (HBr.out.cell (p := ⟨g1, i, none⟩) (block_lt_of_cell (HC1.out i hlt))).trans (HC1.out i hlt)
      have p1 : wr.cell? ⟨g2, i, none⟩ = some (.string ⟨(RT (q i)).toArray⟩) := (HBr.out.cell (p := ⟨g2, i, none⟩) (block_lt_of_cell (HC2.out i hlt))).trans (HC2.out i hlt)
      have HOWN := hide hown
      clear hown
      have MP := hide (fun W => rqplus_any W ⟨(RT (p i)).toArray⟩ ⟨(RT (q i)).toArray⟩ (p i) (q i) rfl rfl hm (HP.out i hlt) (HQ.out i hlt))
      have hg1 : g1 < wy.heap.size := block_lt_of_cell (HC1.out i hlt)
      have hg2 : g2 < wy.heap.size := block_lt_of_cell (HC2.out i hlt)
      have hwy := HBr.out.size
      have SK : ∀ w', Below wy.heap.size wr w' → Below wy.heap.size wr w' ∧ w'.cell? ⟨g1, i, none⟩ = some (.string ⟨(RT (p i)).toArray⟩) ∧ w'.cell? ⟨g2, i, none⟩ = some (.string ⟨(RT (q i)).toArray⟩) := fun w' h => ⟨h, (bcell h _ _ hg1).trans p0, (bcell h _ _ hg2).trans p1⟩
      go_upto_region 6 with (fail)
      go_region_held3 (fun w' => Below wy.heap.size wr w' ∧ w'.cell? ⟨g1, i, none⟩ = some (.string ⟨(RT (p i)).toArray⟩) ∧ w'.cell? ⟨g2, i, none⟩ = some (.string ⟨(RT (q i)).toArray⟩)) (first | exact SK _ (Below.refl _ _).drew | exact SK _ (Below.refl _ _) | exact SK _ (by assumption) | exact SK _ ((by assumption : Below wy.heap.size wr wx).alloc hwx _))
        (first
          | (go_at_call 28; refine (MP.out _).mono ?_; rintro e wx ⟨rfl, hbW⟩; have hd0 : Below wr.heap.size wr wx := (Below.refl _ _).drew.trans hbW; have hd : Below wy.heap.size wr wx := hd0.mono hwy; have hwx : wy.heap.size ≤ wx.heap.size := Nat.le_trans hwy hd0.size; have hown1 := HOWN.out.kept (row := none) ⟨hd0.os, hd0.tape, hd0.output, hd0.size, fun k hk _ => hd0.block k hk⟩ (by cases h : Value.ownBlock _ <;> simp))
          | ((refine step_append_lies _ (by rfl) _ _ 39 (by rfl) wy.heap.size 22 i0 (.string ⟨#[]⟩) 1 16 Tryz.underlying39 hi hz0 hz1 hz2 rfl (by decide) _ i _ (by rfl) (hown1.alloc _) ⟨wx.heap.size, 0, none⟩ 1 1 [.string ⟨(RT (p i + q i)).toArray⟩] (by rfl) rfl (World.news_of_block (cs := #[.string ⟨(RT (p i + q i)).toArray⟩]) (heap_alloc_new wx _)) (by intro u hu; simp at hu; subst hu; rfl) (by omega) (by unfold maxLen; omega) (by omega) (by simp; omega) (wx.heap.size + 1) (by simp) ?_; intro g cap w9 hown9 hgrow9 hat9 hlt9; have hb9 : Below wy.heap.size wr w9 := (hd.alloc hwx _).grown hgrow9 (by simp; omega) (fun k e => (hown1.lt k e).1))))
      have hcl := strsOf_snoc (fun i => (⟨(RT (p i + q i)).toArray⟩ : ByteArray)) i
      rw [hcl] at hown9
      have HO2 := hide hown9
      have HX := hide (HBr.out.trans hb9)
      clear hown9 hgrow9 hat9 hlt9 hb9 hown1 SK hcl p0 p1
      go_wp2_with fail
      go_roundg (gk - 1)
      case measure => have := HN.out; omega
      case rel => exact ⟨i + 1, by go_num, by have := HN.out; omega, HO2.out, HX.out⟩
    · have hii : ¬ (i : Int) < 6 := by omega
      have hi6 : i = 5 + 1 := by omega
      subst hi6
      obtain ⟨g, cap, hv, hcell⟩ := own_strs hown
      subst hv
      have HC := hide hcell
      clear hown hcell
      go_wp2_with fail
      refine (rtmade_any _ g cap _ _ _ _ _ _ (HC.out 0 (by omega)) (HC.out 1 (by omega)) (HC.out 2 (by omega)) (HC.out 3 (by omega)) (HC.out 4 (by omega)) (HC.out 5 (by omega))).mono ?_
      rintro e v5 ⟨rfl, hb5⟩
      have hz5 := Blk.below (Blk.below K_r.out HBr.out (Blk.lt K_r.out)) hb5 (Blk.lt (Blk.below K_r.out HBr.out (Blk.lt K_r.out)))
      have rhz := hz5
      have rz0 : v5.cell? ⟨w.heap.size + 2, 0, none⟩ = some (.string ⟨#[]⟩) := (Blk.cell rhz 0).trans rfl
      have rf0 : v5.frozen? ⟨w.heap.size + 2, 0, none⟩ = false := Blk.frozen rhz 0
      have rz1 : v5.cell? ⟨w.heap.size + 2, 1, none⟩ = some (.string ⟨#[]⟩) := (Blk.cell rhz 1).trans rfl
      have rf1 : v5.frozen? ⟨w.heap.size + 2, 1, none⟩ = false := Blk.frozen rhz 1
      have rz2 : v5.cell? ⟨w.heap.size + 2, 2, none⟩ = some (.string ⟨#[]⟩) := (Blk.cell rhz 2).trans rfl
      have rf2 : v5.frozen? ⟨w.heap.size + 2, 2, none⟩ = false := Blk.frozen rhz 2
      have rz3 : v5.cell? ⟨w.heap.size + 2, 3, none⟩ = some (.string ⟨#[]⟩) := (Blk.cell rhz 3).trans rfl
      have rf3 : v5.frozen? ⟨w.heap.size + 2, 3, none⟩ = false := Blk.frozen rhz 3
      have rz4 : v5.cell? ⟨w.heap.size + 2, 4, none⟩ = some (.string ⟨#[]⟩) := (Blk.cell rhz 4).trans rfl
      have rf4 : v5.frozen? ⟨w.heap.size + 2, 4, none⟩ = false := Blk.frozen rhz 4
      have rz5 : v5.cell? ⟨w.heap.size + 2, 5, none⟩ = some (.string ⟨#[]⟩) := (Blk.cell rhz 5).trans rfl
      have rf5 : v5.frozen? ⟨w.heap.size + 2, 5, none⟩ = false := Blk.frozen rhz 5
      have HB5 := hide ((HB.out.trans (HBr.out.mono HB.out.size)).trans (hb5.mono (HB.out.trans (HBr.out.mono HB.out.size)).size))
      clear hz5 hb5 rhz
      go_wp2_with fail
      exact bodyPost_ret (v := .agg (TV fun i => p i + q i)) (by simp [results, Tryz.results77, go_sem, rz0, rz1, rz2, rz3, rz4, rz5]) rfl ⟨rfl, ((((((HB5.out.setCell (p := ⟨w.heap.size + 2, 0, none⟩) (Nat.le_add_right _ _) _).setCell (p := ⟨w.heap.size + 2, 1, none⟩) (Nat.le_add_right _ _) _).setCell (p := ⟨w.heap.size + 2, 2, none⟩) (Nat.le_add_right _ _) _).setCell (p := ⟨w.heap.size + 2, 3, none⟩) (Nat.le_add_right _ _) _).setCell (p := ⟨w.heap.size + 2, 4, none⟩) (Nat.le_add_right _ _) _).setCell (p := ⟨w.heap.size + 2, 5, none⟩) (Nat.le_add_right _ _) _)⟩

set_option maxRecDepth 100000 in
set_option maxHeartbeats 4000000 in
theorem rtadd_bad0 (w : World) (s0 s1 s2 s3 s4 s5 t0 t1 t2 t3 t4 t5 : ByteArray) (c : Int) (hc : chkRs [s0.data.toList, s1.data.toList, s2.data.toList, s3.data.toList, s4.data.toList, s5.data.toList] = c) (h0 : c ≠ 0) (zs : ∀ l ∈ [s0.data.toList, s1.data.toList, s2.data.toList, s3.data.toList, s4.data.toList, s5.data.toList], l.length ≤ 200000) (zt : ∀ l ∈ [t0.data.toList, t1.data.toList, t2.data.toList, t3.data.toList, t4.data.toList, t5.data.toList], l.length ≤ 200000) :
    Calls Tryz.prog 32 #[.agg #[.string s0, .string s1, .string s2, .string s3, .string s4, .string s5], .agg #[.string t0, .string t1, .string t2, .string t3, .string t4, .string t5]] w fun e w' => e = .returned (.tuple #[.agg six0, .int .i64 c]) ∧ Below w.heap.size w w' := by
  have HB := allocs_below w [.cells #[.string s0, .string s1, .string s2, .string s3, .string s4, .string s5] 25, .cells #[.string t0, .string t1, .string t2, .string t3, .string t4, .string t5] 25, .cells six0 25]
  have K_a : Blk (allocs w [.cells #[.string s0, .string s1, .string s2, .string s3, .string s4, .string s5] 25, .cells #[.string t0, .string t1, .string t2, .string t3, .string t4, .string t5] 25, .cells six0 25]) (w.heap.size + 0) 25 #[.string s0, .string s1, .string s2, .string s3, .string s4, .string s5] := allocs_at w [.cells #[.string s0, .string s1, .string s2, .string s3, .string s4, .string s5] 25, .cells #[.string t0, .string t1, .string t2, .string t3, .string t4, .string t5] 25, .cells six0 25] 0 rfl
  have K_b : Blk (allocs w [.cells #[.string s0, .string s1, .string s2, .string s3, .string s4, .string s5] 25, .cells #[.string t0, .string t1, .string t2, .string t3, .string t4, .string t5] 25, .cells six0 25]) (w.heap.size + 1) 25 #[.string t0, .string t1, .string t2, .string t3, .string t4, .string t5] := allocs_at w [.cells #[.string s0, .string s1, .string s2, .string s3, .string s4, .string s5] 25, .cells #[.string t0, .string t1, .string t2, .string t3, .string t4, .string t5] 25, .cells six0 25] 1 rfl
  have K_r : Blk (allocs w [.cells #[.string s0, .string s1, .string s2, .string s3, .string s4, .string s5] 25, .cells #[.string t0, .string t1, .string t2, .string t3, .string t4, .string t5] 25, .cells six0 25]) (w.heap.size + 2) 25 six0 := allocs_at w [.cells #[.string s0, .string s1, .string s2, .string s3, .string s4, .string s5] 25, .cells #[.string t0, .string t1, .string t2, .string t3, .string t4, .string t5] 25, .cells six0 25] 2 rfl
  unfold allocs at HB K_a K_b K_r
  simp only [List.foldl_cons, List.foldl_nil] at HB K_a K_b K_r
  rw [Nat.add_zero] at K_a
  have ZS := hide zs
  have ZT := hide zt
  have HC := hide hc
  clear zs zt hc
  go_enter Tryz.func32, Tryz.ntmps32
  go_upto_region 1 with (fail)
  generalize (((w.alloc (.cells #[.string s0, .string s1, .string s2, .string s3, .string s4, .string s5] 25)).alloc (.cells #[.string t0, .string t1, .string t2, .string t3, .string t4, .string t5] 25)).alloc (.cells six0 25)) = w0 at *
  replace K_a := hide K_a
  replace K_b := hide K_b
  replace K_r := hide K_r
  replace HB := hide HB
  have a0 := (Blk.cell K_a.out 0).trans (rfl : _ = some (Value.string s0))
  have a1 := (Blk.cell K_a.out 1).trans (rfl : _ = some (Value.string s1))
  have a2 := (Blk.cell K_a.out 2).trans (rfl : _ = some (Value.string s2))
  have a3 := (Blk.cell K_a.out 3).trans (rfl : _ = some (Value.string s3))
  have a4 := (Blk.cell K_a.out 4).trans (rfl : _ = some (Value.string s4))
  have a5 := (Blk.cell K_a.out 5).trans (rfl : _ = some (Value.string s5))
  go_wp2_with fail
  refine (rtCheck_any _ s0 s1 s2 s3 s4 s5 ZS.out).mono ?_
  rw [HC.out]
  rintro e w1 ⟨rfl, hb1⟩
  clear a0 a1 a2 a3 a4 a5
  replace K_a := hide (Blk.below K_a.out hb1 (Blk.lt K_a.out))
  replace K_b := hide (Blk.below K_b.out hb1 (Blk.lt K_b.out))
  replace K_r := hide (Blk.below K_r.out hb1 (Blk.lt K_r.out))
  replace HB := hide (HB.out.trans (hb1.mono HB.out.size))
  clear hb1
  have r0 := (Blk.cell K_r.out 0).trans (rfl : _ = some (Value.string ⟨#[]⟩))
  have rf0 := Blk.frozen K_r.out 0
  have r1 := (Blk.cell K_r.out 1).trans (rfl : _ = some (Value.string ⟨#[]⟩))
  have rf1 := Blk.frozen K_r.out 1
  have r2 := (Blk.cell K_r.out 2).trans (rfl : _ = some (Value.string ⟨#[]⟩))
  have rf2 := Blk.frozen K_r.out 2
  have r3 := (Blk.cell K_r.out 3).trans (rfl : _ = some (Value.string ⟨#[]⟩))
  have rf3 := Blk.frozen K_r.out 3
  have r4 := (Blk.cell K_r.out 4).trans (rfl : _ = some (Value.string ⟨#[]⟩))
  have rf4 := Blk.frozen K_r.out 4
  have r5 := (Blk.cell K_r.out 5).trans (rfl : _ = some (Value.string ⟨#[]⟩))
  have rf5 := Blk.frozen K_r.out 5
  go_wp2_with fail
  exact bodyPost_ret (v := .tuple #[.agg six0, .int .i64 c]) (by simp [results, Tryz.results32, go_sem, r0, r1, r2, r3, r4, r5]) rfl ⟨rfl, ((((((HB.out.setCell (p := ⟨w.heap.size + 2, 0, none⟩) (Nat.le_add_right _ _) _).setCell (p := ⟨w.heap.size + 2, 1, none⟩) (Nat.le_add_right _ _) _).setCell (p := ⟨w.heap.size + 2, 2, none⟩) (Nat.le_add_right _ _) _).setCell (p := ⟨w.heap.size + 2, 3, none⟩) (Nat.le_add_right _ _) _).setCell (p := ⟨w.heap.size + 2, 4, none⟩) (Nat.le_add_right _ _) _).setCell (p := ⟨w.heap.size + 2, 5, none⟩) (Nat.le_add_right _ _) _)⟩

set_option maxRecDepth 100000 in
set_option maxHeartbeats 4000000 in
theorem rtadd_bad1 (w : World) (s0 s1 s2 s3 s4 s5 t0 t1 t2 t3 t4 t5 : ByteArray) (hc0 : chkRs [s0.data.toList, s1.data.toList, s2.data.toList, s3.data.toList, s4.data.toList, s5.data.toList] = 0) (c : Int) (hc : chkRs [t0.data.toList, t1.data.toList, t2.data.toList, t3.data.toList, t4.data.toList, t5.data.toList] = c) (h0 : c ≠ 0) (zs : ∀ l ∈ [s0.data.toList, s1.data.toList, s2.data.toList, s3.data.toList, s4.data.toList, s5.data.toList], l.length ≤ 200000) (zt : ∀ l ∈ [t0.data.toList, t1.data.toList, t2.data.toList, t3.data.toList, t4.data.toList, t5.data.toList], l.length ≤ 200000) :
    Calls Tryz.prog 32 #[.agg #[.string s0, .string s1, .string s2, .string s3, .string s4, .string s5], .agg #[.string t0, .string t1, .string t2, .string t3, .string t4, .string t5]] w fun e w' => e = .returned (.tuple #[.agg six0, .int .i64 c]) ∧ Below w.heap.size w w' := by
  have HB := allocs_below w [.cells #[.string s0, .string s1, .string s2, .string s3, .string s4, .string s5] 25, .cells #[.string t0, .string t1, .string t2, .string t3, .string t4, .string t5] 25, .cells six0 25]
  have K_a : Blk (allocs w [.cells #[.string s0, .string s1, .string s2, .string s3, .string s4, .string s5] 25, .cells #[.string t0, .string t1, .string t2, .string t3, .string t4, .string t5] 25, .cells six0 25]) (w.heap.size + 0) 25 #[.string s0, .string s1, .string s2, .string s3, .string s4, .string s5] := allocs_at w [.cells #[.string s0, .string s1, .string s2, .string s3, .string s4, .string s5] 25, .cells #[.string t0, .string t1, .string t2, .string t3, .string t4, .string t5] 25, .cells six0 25] 0 rfl
  have K_b : Blk (allocs w [.cells #[.string s0, .string s1, .string s2, .string s3, .string s4, .string s5] 25, .cells #[.string t0, .string t1, .string t2, .string t3, .string t4, .string t5] 25, .cells six0 25]) (w.heap.size + 1) 25 #[.string t0, .string t1, .string t2, .string t3, .string t4, .string t5] := allocs_at w [.cells #[.string s0, .string s1, .string s2, .string s3, .string s4, .string s5] 25, .cells #[.string t0, .string t1, .string t2, .string t3, .string t4, .string t5] 25, .cells six0 25] 1 rfl
  have K_r : Blk (allocs w [.cells #[.string s0, .string s1, .string s2, .string s3, .string s4, .string s5] 25, .cells #[.string t0, .string t1, .string t2, .string t3, .string t4, .string t5] 25, .cells six0 25]) (w.heap.size + 2) 25 six0 := allocs_at w [.cells #[.string s0, .string s1, .string s2, .string s3, .string s4, .string s5] 25, .cells #[.string t0, .string t1, .string t2, .string t3, .string t4, .string t5] 25, .cells six0 25] 2 rfl
  unfold allocs at HB K_a K_b K_r
  simp only [List.foldl_cons, List.foldl_nil] at HB K_a K_b K_r
  rw [Nat.add_zero] at K_a
  have ZS := hide zs
  have ZT := hide zt
  have HC := hide hc
  have HC0 := hide hc0
  clear zs zt hc hc0
  go_enter Tryz.func32, Tryz.ntmps32
  go_upto_region 1 with (fail)
  generalize (((w.alloc (.cells #[.string s0, .string s1, .string s2, .string s3, .string s4, .string s5] 25)).alloc (.cells #[.string t0, .string t1, .string t2, .string t3, .string t4, .string t5] 25)).alloc (.cells six0 25)) = w0 at *
  replace K_a := hide K_a
  replace K_b := hide K_b
  replace K_r := hide K_r
  replace HB := hide HB
  have a0 := (Blk.cell K_a.out 0).trans (rfl : _ = some (Value.string s0))
  have a1 := (Blk.cell K_a.out 1).trans (rfl : _ = some (Value.string s1))
  have a2 := (Blk.cell K_a.out 2).trans (rfl : _ = some (Value.string s2))
  have a3 := (Blk.cell K_a.out 3).trans (rfl : _ = some (Value.string s3))
  have a4 := (Blk.cell K_a.out 4).trans (rfl : _ = some (Value.string s4))
  have a5 := (Blk.cell K_a.out 5).trans (rfl : _ = some (Value.string s5))
  go_wp2_with fail
  refine (rtCheck_any _ s0 s1 s2 s3 s4 s5 ZS.out).mono ?_
  rw [HC0.out]
  rintro e w1 ⟨rfl, hb1⟩
  clear a0 a1 a2 a3 a4 a5
  replace K_a := hide (Blk.below K_a.out hb1 (Blk.lt K_a.out))
  replace K_b := hide (Blk.below K_b.out hb1 (Blk.lt K_b.out))
  replace K_r := hide (Blk.below K_r.out hb1 (Blk.lt K_r.out))
  replace HB := hide (HB.out.trans (hb1.mono HB.out.size))
  clear hb1
  have b0 := (Blk.cell K_b.out 0).trans (rfl : _ = some (Value.string t0))
  have b1 := (Blk.cell K_b.out 1).trans (rfl : _ = some (Value.string t1))
  have b2 := (Blk.cell K_b.out 2).trans (rfl : _ = some (Value.string t2))
  have b3 := (Blk.cell K_b.out 3).trans (rfl : _ = some (Value.string t3))
  have b4 := (Blk.cell K_b.out 4).trans (rfl : _ = some (Value.string t4))
  have b5 := (Blk.cell K_b.out 5).trans (rfl : _ = some (Value.string t5))
  go_wp2_with fail
  refine (rtCheck_any _ t0 t1 t2 t3 t4 t5 ZT.out).mono ?_
  rw [HC.out]
  rintro e w2 ⟨rfl, hb2⟩
  clear b0 b1 b2 b3 b4 b5
  replace K_a := hide (Blk.below K_a.out hb2 (Blk.lt K_a.out))
  replace K_b := hide (Blk.below K_b.out hb2 (Blk.lt K_b.out))
  replace K_r := hide (Blk.below K_r.out hb2 (Blk.lt K_r.out))
  replace HB := hide (HB.out.trans (hb2.mono HB.out.size))
  clear hb2
  have r0 := (Blk.cell K_r.out 0).trans (rfl : _ = some (Value.string ⟨#[]⟩))
  have rf0 := Blk.frozen K_r.out 0
  have r1 := (Blk.cell K_r.out 1).trans (rfl : _ = some (Value.string ⟨#[]⟩))
  have rf1 := Blk.frozen K_r.out 1
  have r2 := (Blk.cell K_r.out 2).trans (rfl : _ = some (Value.string ⟨#[]⟩))
  have rf2 := Blk.frozen K_r.out 2
  have r3 := (Blk.cell K_r.out 3).trans (rfl : _ = some (Value.string ⟨#[]⟩))
  have rf3 := Blk.frozen K_r.out 3
  have r4 := (Blk.cell K_r.out 4).trans (rfl : _ = some (Value.string ⟨#[]⟩))
  have rf4 := Blk.frozen K_r.out 4
  have r5 := (Blk.cell K_r.out 5).trans (rfl : _ = some (Value.string ⟨#[]⟩))
  have rf5 := Blk.frozen K_r.out 5
  go_wp2_with fail
  exact bodyPost_ret (v := .tuple #[.agg six0, .int .i64 c]) (by simp [results, Tryz.results32, go_sem, r0, r1, r2, r3, r4, r5]) rfl ⟨rfl, ((((((HB.out.setCell (p := ⟨w.heap.size + 2, 0, none⟩) (Nat.le_add_right _ _) _).setCell (p := ⟨w.heap.size + 2, 1, none⟩) (Nat.le_add_right _ _) _).setCell (p := ⟨w.heap.size + 2, 2, none⟩) (Nat.le_add_right _ _) _).setCell (p := ⟨w.heap.size + 2, 3, none⟩) (Nat.le_add_right _ _) _).setCell (p := ⟨w.heap.size + 2, 4, none⟩) (Nat.le_add_right _ _) _).setCell (p := ⟨w.heap.size + 2, 5, none⟩) (Nat.le_add_right _ _) _)⟩

set_option maxRecDepth 100000 in
set_option maxHeartbeats 4000000 in
theorem rtadd_ok (w : World) (p q : Nat → Rat) {m : Nat} (hm : m ≤ 160) (hp : ∀ i, i < 6 → Sz m m (p i)) (hq : ∀ i, i < 6 → Sz m m (q i)) :
    Calls Tryz.prog 32 #[.agg (TV p), .agg (TV q)] w fun e w' => e = .returned (.tuple #[.agg (TV fun i => p i + q i), .int .i64 0]) ∧ Below w.heap.size w w' := by
  have HB := allocs_below w [.cells (TV p) 25, .cells (TV q) 25, .cells six0 25]
  have K_a : Blk (allocs w [.cells (TV p) 25, .cells (TV q) 25, .cells six0 25]) (w.heap.size + 0) 25 (TV p) := allocs_at w [.cells (TV p) 25, .cells (TV q) 25, .cells six0 25] 0 rfl
  have K_b : Blk (allocs w [.cells (TV p) 25, .cells (TV q) 25, .cells six0 25]) (w.heap.size + 1) 25 (TV q) := allocs_at w [.cells (TV p) 25, .cells (TV q) 25, .cells six0 25] 1 rfl
  have K_r : Blk (allocs w [.cells (TV p) 25, .cells (TV q) 25, .cells six0 25]) (w.heap.size + 2) 25 six0 := allocs_at w [.cells (TV p) 25, .cells (TV q) 25, .cells six0 25] 2 rfl
  unfold allocs at HB K_a K_b K_r
  simp only [List.foldl_cons, List.foldl_nil] at HB K_a K_b K_r
  rw [Nat.add_zero] at K_a
  have ZS := hide (tv_sizes hm hp).1
  have C1 := hide (tv_sizes hm hp).2
  have ZT := hide (tv_sizes hm hq).1
  have C2 := hide (tv_sizes hm hq).2
  have HG := hide (fun W => rtsummed_any W p q (m := m) (by omega) hp hq)
  clear hp hq
  go_enter Tryz.func32, Tryz.ntmps32
  go_upto_region 1 with (fail)
  generalize (((w.alloc (.cells (TV p) 25)).alloc (.cells (TV q) 25)).alloc (.cells six0 25)) = w0 at *
  replace K_a := hide K_a
  replace K_b := hide K_b
  replace K_r := hide K_r
  replace HB := hide HB
  have a0 := (Blk.cell K_a.out 0).trans (rfl : _ = some (Value.string ⟨(RT (p 0)).toArray⟩))
  have a1 := (Blk.cell K_a.out 1).trans (rfl : _ = some (Value.string ⟨(RT (p 1)).toArray⟩))
  have a2 := (Blk.cell K_a.out 2).trans (rfl : _ = some (Value.string ⟨(RT (p 2)).toArray⟩))
  have a3 := (Blk.cell K_a.out 3).trans (rfl : _ = some (Value.string ⟨(RT (p 3)).toArray⟩))
  have a4 := (Blk.cell K_a.out 4).trans (rfl : _ = some (Value.string ⟨(RT (p 4)).toArray⟩))
  have a5 := (Blk.cell K_a.out 5).trans (rfl : _ = some (Value.string ⟨(RT (p 5)).toArray⟩))
  go_wp2_with fail
  refine (rtCheck_any _ ⟨(RT (p 0)).toArray⟩ ⟨(RT (p 1)).toArray⟩ ⟨(RT (p 2)).toArray⟩ ⟨(RT (p 3)).toArray⟩ ⟨(RT (p 4)).toArray⟩ ⟨(RT (p 5)).toArray⟩ ZS.out).mono ?_
  rw [C1.out]
  rintro e w1 ⟨rfl, hb1⟩
  clear a0 a1 a2 a3 a4 a5
  replace K_a := hide (Blk.below K_a.out hb1 (Blk.lt K_a.out))
  replace K_b := hide (Blk.below K_b.out hb1 (Blk.lt K_b.out))
  replace K_r := hide (Blk.below K_r.out hb1 (Blk.lt K_r.out))
  replace HB := hide (HB.out.trans (hb1.mono HB.out.size))
  clear hb1
  have b0 := (Blk.cell K_b.out 0).trans (rfl : _ = some (Value.string ⟨(RT (q 0)).toArray⟩))
  have b1 := (Blk.cell K_b.out 1).trans (rfl : _ = some (Value.string ⟨(RT (q 1)).toArray⟩))
  have b2 := (Blk.cell K_b.out 2).trans (rfl : _ = some (Value.string ⟨(RT (q 2)).toArray⟩))
  have b3 := (Blk.cell K_b.out 3).trans (rfl : _ = some (Value.string ⟨(RT (q 3)).toArray⟩))
  have b4 := (Blk.cell K_b.out 4).trans (rfl : _ = some (Value.string ⟨(RT (q 4)).toArray⟩))
  have b5 := (Blk.cell K_b.out 5).trans (rfl : _ = some (Value.string ⟨(RT (q 5)).toArray⟩))
  go_wp2_with fail
  refine (rtCheck_any _ ⟨(RT (q 0)).toArray⟩ ⟨(RT (q 1)).toArray⟩ ⟨(RT (q 2)).toArray⟩ ⟨(RT (q 3)).toArray⟩ ⟨(RT (q 4)).toArray⟩ ⟨(RT (q 5)).toArray⟩ ZT.out).mono ?_
  rw [C2.out]
  rintro e w2 ⟨rfl, hb2⟩
  clear b0 b1 b2 b3 b4 b5
  replace K_a := hide (Blk.below K_a.out hb2 (Blk.lt K_a.out))
  replace K_b := hide (Blk.below K_b.out hb2 (Blk.lt K_b.out))
  replace K_r := hide (Blk.below K_r.out hb2 (Blk.lt K_r.out))
  replace HB := hide (HB.out.trans (hb2.mono HB.out.size))
  clear hb2
  have a0 := (Blk.cell K_a.out 0).trans (rfl : _ = some (Value.string ⟨(RT (p 0)).toArray⟩))
  have a1 := (Blk.cell K_a.out 1).trans (rfl : _ = some (Value.string ⟨(RT (p 1)).toArray⟩))
  have a2 := (Blk.cell K_a.out 2).trans (rfl : _ = some (Value.string ⟨(RT (p 2)).toArray⟩))
  have a3 := (Blk.cell K_a.out 3).trans (rfl : _ = some (Value.string ⟨(RT (p 3)).toArray⟩))
  have a4 := (Blk.cell K_a.out 4).trans (rfl : _ = some (Value.string ⟨(RT (p 4)).toArray⟩))
  have a5 := (Blk.cell K_a.out 5).trans (rfl : _ = some (Value.string ⟨(RT (p 5)).toArray⟩))
  have b0 := (Blk.cell K_b.out 0).trans (rfl : _ = some (Value.string ⟨(RT (q 0)).toArray⟩))
  have b1 := (Blk.cell K_b.out 1).trans (rfl : _ = some (Value.string ⟨(RT (q 1)).toArray⟩))
  have b2 := (Blk.cell K_b.out 2).trans (rfl : _ = some (Value.string ⟨(RT (q 2)).toArray⟩))
  have b3 := (Blk.cell K_b.out 3).trans (rfl : _ = some (Value.string ⟨(RT (q 3)).toArray⟩))
  have b4 := (Blk.cell K_b.out 4).trans (rfl : _ = some (Value.string ⟨(RT (q 4)).toArray⟩))
  have b5 := (Blk.cell K_b.out 5).trans (rfl : _ = some (Value.string ⟨(RT (q 5)).toArray⟩))
  go_wp2_with fail
  refine (HG.out _).mono ?_
  rintro e w3 ⟨rfl, hb3⟩
  clear a0 a1 a2 a3 a4 a5 b0 b1 b2 b3 b4 b5
  replace K_a := hide (Blk.below K_a.out hb3 (Blk.lt K_a.out))
  replace K_b := hide (Blk.below K_b.out hb3 (Blk.lt K_b.out))
  replace K_r := hide (Blk.below K_r.out hb3 (Blk.lt K_r.out))
  replace HB := hide (HB.out.trans (hb3.mono HB.out.size))
  clear hb3
  have r0 := (Blk.cell K_r.out 0).trans (rfl : _ = some (Value.string ⟨#[]⟩))
  have rf0 := Blk.frozen K_r.out 0
  have r1 := (Blk.cell K_r.out 1).trans (rfl : _ = some (Value.string ⟨#[]⟩))
  have rf1 := Blk.frozen K_r.out 1
  have r2 := (Blk.cell K_r.out 2).trans (rfl : _ = some (Value.string ⟨#[]⟩))
  have rf2 := Blk.frozen K_r.out 2
  have r3 := (Blk.cell K_r.out 3).trans (rfl : _ = some (Value.string ⟨#[]⟩))
  have rf3 := Blk.frozen K_r.out 3
  have r4 := (Blk.cell K_r.out 4).trans (rfl : _ = some (Value.string ⟨#[]⟩))
  have rf4 := Blk.frozen K_r.out 4
  have r5 := (Blk.cell K_r.out 5).trans (rfl : _ = some (Value.string ⟨#[]⟩))
  have rf5 := Blk.frozen K_r.out 5
  go_wp2_with fail
  exact bodyPost_ret (v := .tuple #[.agg (TV fun i => p i + q i), .int .i64 0]) (by simp [results, Tryz.results32, go_sem, r0, r1, r2, r3, r4, r5]) rfl ⟨rfl, ((((((HB.out.setCell (p := ⟨w.heap.size + 2, 0, none⟩) (Nat.le_add_right _ _) _).setCell (p := ⟨w.heap.size + 2, 1, none⟩) (Nat.le_add_right _ _) _).setCell (p := ⟨w.heap.size + 2, 2, none⟩) (Nat.le_add_right _ _) _).setCell (p := ⟨w.heap.size + 2, 3, none⟩) (Nat.le_add_right _ _) _).setCell (p := ⟨w.heap.size + 2, 4, none⟩) (Nat.le_add_right _ _) _).setCell (p := ⟨w.heap.size + 2, 5, none⟩) (Nat.le_add_right _ _) _)⟩

set_option maxRecDepth 100000 in
set_option maxHeartbeats 4000000 in
theorem rtscale_bad0 (w : World) (k t0 t1 t2 t3 t4 t5 : ByteArray) (c : Int) (hc : chkR k.data.toList = c) (h0 : c ≠ 0) (zk : k.size ≤ 200000) (zt : ∀ l ∈ [t0.data.toList, t1.data.toList, t2.data.toList, t3.data.toList, t4.data.toList, t5.data.toList], l.length ≤ 200000) :
    Calls Tryz.prog 34 #[.string k, .agg #[.string t0, .string t1, .string t2, .string t3, .string t4, .string t5]] w fun e w' => e = .returned (.tuple #[.agg six0, .int .i64 c]) ∧ Below w.heap.size w w' := by
  have HB := allocs_below w [.cells #[.string t0, .string t1, .string t2, .string t3, .string t4, .string t5] 25, .cells six0 25]
  have K_b : Blk (allocs w [.cells #[.string t0, .string t1, .string t2, .string t3, .string t4, .string t5] 25, .cells six0 25]) (w.heap.size + 0) 25 #[.string t0, .string t1, .string t2, .string t3, .string t4, .string t5] := allocs_at w [.cells #[.string t0, .string t1, .string t2, .string t3, .string t4, .string t5] 25, .cells six0 25] 0 rfl
  have K_r : Blk (allocs w [.cells #[.string t0, .string t1, .string t2, .string t3, .string t4, .string t5] 25, .cells six0 25]) (w.heap.size + 1) 25 six0 := allocs_at w [.cells #[.string t0, .string t1, .string t2, .string t3, .string t4, .string t5] 25, .cells six0 25] 1 rfl
  unfold allocs at HB K_b K_r
  simp only [List.foldl_cons, List.foldl_nil] at HB K_b K_r
  rw [Nat.add_zero] at K_b
  have ZK := hide zk
  have ZT := hide zt
  have CK := hide hc
  clear zk zt hc
  go_enter Tryz.func34, Tryz.ntmps34
  go_upto_region 1 with (fail)
  generalize ((w.alloc (.cells #[.string t0, .string t1, .string t2, .string t3, .string t4, .string t5] 25)).alloc (.cells six0 25)) = w0 at *
  replace K_b := hide K_b
  replace K_r := hide K_r
  replace HB := hide HB
  go_wp2_with fail
  refine (rrcheck_any _ _ _ rfl ZK.out).mono ?_
  rw [CK.out]
  rintro e w1 ⟨rfl, hb1⟩
  replace K_b := hide (Blk.below K_b.out hb1 (Blk.lt K_b.out))
  replace K_r := hide (Blk.below K_r.out hb1 (Blk.lt K_r.out))
  replace HB := hide (HB.out.trans (hb1.mono HB.out.size))
  clear hb1
  have r0 := (Blk.cell K_r.out 0).trans (rfl : _ = some (Value.string ⟨#[]⟩))
  have rf0 := Blk.frozen K_r.out 0
  have r1 := (Blk.cell K_r.out 1).trans (rfl : _ = some (Value.string ⟨#[]⟩))
  have rf1 := Blk.frozen K_r.out 1
  have r2 := (Blk.cell K_r.out 2).trans (rfl : _ = some (Value.string ⟨#[]⟩))
  have rf2 := Blk.frozen K_r.out 2
  have r3 := (Blk.cell K_r.out 3).trans (rfl : _ = some (Value.string ⟨#[]⟩))
  have rf3 := Blk.frozen K_r.out 3
  have r4 := (Blk.cell K_r.out 4).trans (rfl : _ = some (Value.string ⟨#[]⟩))
  have rf4 := Blk.frozen K_r.out 4
  have r5 := (Blk.cell K_r.out 5).trans (rfl : _ = some (Value.string ⟨#[]⟩))
  have rf5 := Blk.frozen K_r.out 5
  go_wp2_with fail
  exact bodyPost_ret (v := .tuple #[.agg six0, .int .i64 c]) (by simp [results, Tryz.results34, go_sem, r0, r1, r2, r3, r4, r5]) rfl ⟨rfl, ((((((HB.out.setCell (p := ⟨w.heap.size + 1, 0, none⟩) (Nat.le_add_right _ _) _).setCell (p := ⟨w.heap.size + 1, 1, none⟩) (Nat.le_add_right _ _) _).setCell (p := ⟨w.heap.size + 1, 2, none⟩) (Nat.le_add_right _ _) _).setCell (p := ⟨w.heap.size + 1, 3, none⟩) (Nat.le_add_right _ _) _).setCell (p := ⟨w.heap.size + 1, 4, none⟩) (Nat.le_add_right _ _) _).setCell (p := ⟨w.heap.size + 1, 5, none⟩) (Nat.le_add_right _ _) _)⟩

set_option maxRecDepth 100000 in
set_option maxHeartbeats 4000000 in
theorem rtscale_bad1 (w : World) (k t0 t1 t2 t3 t4 t5 : ByteArray) (hc0 : chkR k.data.toList = 0) (c : Int) (hc : chkRs [t0.data.toList, t1.data.toList, t2.data.toList, t3.data.toList, t4.data.toList, t5.data.toList] = c) (h0 : c ≠ 0) (zk : k.size ≤ 200000) (zt : ∀ l ∈ [t0.data.toList, t1.data.toList, t2.data.toList, t3.data.toList, t4.data.toList, t5.data.toList], l.length ≤ 200000) :
    Calls Tryz.prog 34 #[.string k, .agg #[.string t0, .string t1, .string t2, .string t3, .string t4, .string t5]] w fun e w' => e = .returned (.tuple #[.agg six0, .int .i64 c]) ∧ Below w.heap.size w w' := by
  have HB := allocs_below w [.cells #[.string t0, .string t1, .string t2, .string t3, .string t4, .string t5] 25, .cells six0 25]
  have K_b : Blk (allocs w [.cells #[.string t0, .string t1, .string t2, .string t3, .string t4, .string t5] 25, .cells six0 25]) (w.heap.size + 0) 25 #[.string t0, .string t1, .string t2, .string t3, .string t4, .string t5] := allocs_at w [.cells #[.string t0, .string t1, .string t2, .string t3, .string t4, .string t5] 25, .cells six0 25] 0 rfl
  have K_r : Blk (allocs w [.cells #[.string t0, .string t1, .string t2, .string t3, .string t4, .string t5] 25, .cells six0 25]) (w.heap.size + 1) 25 six0 := allocs_at w [.cells #[.string t0, .string t1, .string t2, .string t3, .string t4, .string t5] 25, .cells six0 25] 1 rfl
  unfold allocs at HB K_b K_r
  simp only [List.foldl_cons, List.foldl_nil] at HB K_b K_r
  rw [Nat.add_zero] at K_b
  have ZK := hide zk
  have ZT := hide zt
  have CK := hide hc0
  have HC := hide hc
  clear zk zt hc hc0
  go_enter Tryz.func34, Tryz.ntmps34
  go_upto_region 1 with (fail)
  generalize ((w.alloc (.cells #[.string t0, .string t1, .string t2, .string t3, .string t4, .string t5] 25)).alloc (.cells six0 25)) = w0 at *
  replace K_b := hide K_b
  replace K_r := hide K_r
  replace HB := hide HB
  go_wp2_with fail
  refine (rrcheck_any _ _ _ rfl ZK.out).mono ?_
  rw [CK.out]
  rintro e w1 ⟨rfl, hb1⟩
  replace K_b := hide (Blk.below K_b.out hb1 (Blk.lt K_b.out))
  replace K_r := hide (Blk.below K_r.out hb1 (Blk.lt K_r.out))
  replace HB := hide (HB.out.trans (hb1.mono HB.out.size))
  clear hb1
  have b0 := (Blk.cell K_b.out 0).trans (rfl : _ = some (Value.string t0))
  have b1 := (Blk.cell K_b.out 1).trans (rfl : _ = some (Value.string t1))
  have b2 := (Blk.cell K_b.out 2).trans (rfl : _ = some (Value.string t2))
  have b3 := (Blk.cell K_b.out 3).trans (rfl : _ = some (Value.string t3))
  have b4 := (Blk.cell K_b.out 4).trans (rfl : _ = some (Value.string t4))
  have b5 := (Blk.cell K_b.out 5).trans (rfl : _ = some (Value.string t5))
  go_wp2_with fail
  refine (rtCheck_any _ t0 t1 t2 t3 t4 t5 ZT.out).mono ?_
  rw [HC.out]
  rintro e w2 ⟨rfl, hb2⟩
  clear b0 b1 b2 b3 b4 b5
  replace K_b := hide (Blk.below K_b.out hb2 (Blk.lt K_b.out))
  replace K_r := hide (Blk.below K_r.out hb2 (Blk.lt K_r.out))
  replace HB := hide (HB.out.trans (hb2.mono HB.out.size))
  clear hb2
  have r0 := (Blk.cell K_r.out 0).trans (rfl : _ = some (Value.string ⟨#[]⟩))
  have rf0 := Blk.frozen K_r.out 0
  have r1 := (Blk.cell K_r.out 1).trans (rfl : _ = some (Value.string ⟨#[]⟩))
  have rf1 := Blk.frozen K_r.out 1
  have r2 := (Blk.cell K_r.out 2).trans (rfl : _ = some (Value.string ⟨#[]⟩))
  have rf2 := Blk.frozen K_r.out 2
  have r3 := (Blk.cell K_r.out 3).trans (rfl : _ = some (Value.string ⟨#[]⟩))
  have rf3 := Blk.frozen K_r.out 3
  have r4 := (Blk.cell K_r.out 4).trans (rfl : _ = some (Value.string ⟨#[]⟩))
  have rf4 := Blk.frozen K_r.out 4
  have r5 := (Blk.cell K_r.out 5).trans (rfl : _ = some (Value.string ⟨#[]⟩))
  have rf5 := Blk.frozen K_r.out 5
  go_wp2_with fail
  exact bodyPost_ret (v := .tuple #[.agg six0, .int .i64 c]) (by simp [results, Tryz.results34, go_sem, r0, r1, r2, r3, r4, r5]) rfl ⟨rfl, ((((((HB.out.setCell (p := ⟨w.heap.size + 1, 0, none⟩) (Nat.le_add_right _ _) _).setCell (p := ⟨w.heap.size + 1, 1, none⟩) (Nat.le_add_right _ _) _).setCell (p := ⟨w.heap.size + 1, 2, none⟩) (Nat.le_add_right _ _) _).setCell (p := ⟨w.heap.size + 1, 3, none⟩) (Nat.le_add_right _ _) _).setCell (p := ⟨w.heap.size + 1, 4, none⟩) (Nat.le_add_right _ _) _).setCell (p := ⟨w.heap.size + 1, 5, none⟩) (Nat.le_add_right _ _) _)⟩

set_option maxRecDepth 100000 in
set_option maxHeartbeats 4000000 in
theorem rtscale_ok (w : World) (p : Rat) (q : Nat → Rat) {m : Nat} (hm : m ≤ 160) (hp : Sz m m p) (hq : ∀ i, i < 6 → Sz m m (q i)) :
    Calls Tryz.prog 34 #[.string ⟨(RT p).toArray⟩, .agg (TV q)] w fun e w' => e = .returned (.tuple #[.agg (TV fun i => p * q i), .int .i64 0]) ∧ Below w.heap.size w w' := by
  have fit := hp.fit (by omega) (by omega)
  have ZK := hide (show (⟨(RT p).toArray⟩ : ByteArray).size ≤ 200000 by have := RT_len fit; rw [Lib.size_eq]; show (RT p).length ≤ 200000; omega)
  have CK := hide (show chkR (⟨(RT p).toArray⟩ : ByteArray).data.toList = 0 from chkR_RT fit)
  have HB := allocs_below w [.cells (TV q) 25, .cells six0 25]
  have K_b : Blk (allocs w [.cells (TV q) 25, .cells six0 25]) (w.heap.size + 0) 25 (TV q) := allocs_at w [.cells (TV q) 25, .cells six0 25] 0 rfl
  have K_r : Blk (allocs w [.cells (TV q) 25, .cells six0 25]) (w.heap.size + 1) 25 six0 := allocs_at w [.cells (TV q) 25, .cells six0 25] 1 rfl
  unfold allocs at HB K_b K_r
  simp only [List.foldl_cons, List.foldl_nil] at HB K_b K_r
  rw [Nat.add_zero] at K_b
  have ZT := hide (tv_sizes hm hq).1
  have C2 := hide (tv_sizes hm hq).2
  have HG := hide (fun W => rttimes_any W ⟨(RT p).toArray⟩ ⟨(RT (q 0)).toArray⟩ ⟨(RT (q 1)).toArray⟩ ⟨(RT (q 2)).toArray⟩ ⟨(RT (q 3)).toArray⟩ ⟨(RT (q 4)).toArray⟩ ⟨(RT (q 5)).toArray⟩ p q (m := m) (by omega) rfl hp hq ⟨rfl, rfl, rfl, rfl, rfl, rfl⟩)
  clear hp hq fit
  go_enter Tryz.func34, Tryz.ntmps34
  go_upto_region 1 with (fail)
  generalize ((w.alloc (.cells (TV q) 25)).alloc (.cells six0 25)) = w0 at *
  replace K_b := hide K_b
  replace K_r := hide K_r
  replace HB := hide HB
  go_wp2_with fail
  refine (rrcheck_any _ _ _ rfl ZK.out).mono ?_
  rw [CK.out]
  rintro e w1 ⟨rfl, hb1⟩
  replace K_b := hide (Blk.below K_b.out hb1 (Blk.lt K_b.out))
  replace K_r := hide (Blk.below K_r.out hb1 (Blk.lt K_r.out))
  replace HB := hide (HB.out.trans (hb1.mono HB.out.size))
  clear hb1
  have b0 := (Blk.cell K_b.out 0).trans (rfl : _ = some (Value.string ⟨(RT (q 0)).toArray⟩))
  have b1 := (Blk.cell K_b.out 1).trans (rfl : _ = some (Value.string ⟨(RT (q 1)).toArray⟩))
  have b2 := (Blk.cell K_b.out 2).trans (rfl : _ = some (Value.string ⟨(RT (q 2)).toArray⟩))
  have b3 := (Blk.cell K_b.out 3).trans (rfl : _ = some (Value.string ⟨(RT (q 3)).toArray⟩))
  have b4 := (Blk.cell K_b.out 4).trans (rfl : _ = some (Value.string ⟨(RT (q 4)).toArray⟩))
  have b5 := (Blk.cell K_b.out 5).trans (rfl : _ = some (Value.string ⟨(RT (q 5)).toArray⟩))
  go_wp2_with fail
  refine (rtCheck_any _ ⟨(RT (q 0)).toArray⟩ ⟨(RT (q 1)).toArray⟩ ⟨(RT (q 2)).toArray⟩ ⟨(RT (q 3)).toArray⟩ ⟨(RT (q 4)).toArray⟩ ⟨(RT (q 5)).toArray⟩ ZT.out).mono ?_
  rw [C2.out]
  rintro e w2 ⟨rfl, hb2⟩
  clear b0 b1 b2 b3 b4 b5
  replace K_b := hide (Blk.below K_b.out hb2 (Blk.lt K_b.out))
  replace K_r := hide (Blk.below K_r.out hb2 (Blk.lt K_r.out))
  replace HB := hide (HB.out.trans (hb2.mono HB.out.size))
  clear hb2
  have b0 := (Blk.cell K_b.out 0).trans (rfl : _ = some (Value.string ⟨(RT (q 0)).toArray⟩))
  have b1 := (Blk.cell K_b.out 1).trans (rfl : _ = some (Value.string ⟨(RT (q 1)).toArray⟩))
  have b2 := (Blk.cell K_b.out 2).trans (rfl : _ = some (Value.string ⟨(RT (q 2)).toArray⟩))
  have b3 := (Blk.cell K_b.out 3).trans (rfl : _ = some (Value.string ⟨(RT (q 3)).toArray⟩))
  have b4 := (Blk.cell K_b.out 4).trans (rfl : _ = some (Value.string ⟨(RT (q 4)).toArray⟩))
  have b5 := (Blk.cell K_b.out 5).trans (rfl : _ = some (Value.string ⟨(RT (q 5)).toArray⟩))
  go_wp2_with fail
  refine (HG.out _).mono ?_
  rintro e w3 ⟨rfl, hb3⟩
  clear b0 b1 b2 b3 b4 b5
  replace K_b := hide (Blk.below K_b.out hb3 (Blk.lt K_b.out))
  replace K_r := hide (Blk.below K_r.out hb3 (Blk.lt K_r.out))
  replace HB := hide (HB.out.trans (hb3.mono HB.out.size))
  clear hb3
  have r0 := (Blk.cell K_r.out 0).trans (rfl : _ = some (Value.string ⟨#[]⟩))
  have rf0 := Blk.frozen K_r.out 0
  have r1 := (Blk.cell K_r.out 1).trans (rfl : _ = some (Value.string ⟨#[]⟩))
  have rf1 := Blk.frozen K_r.out 1
  have r2 := (Blk.cell K_r.out 2).trans (rfl : _ = some (Value.string ⟨#[]⟩))
  have rf2 := Blk.frozen K_r.out 2
  have r3 := (Blk.cell K_r.out 3).trans (rfl : _ = some (Value.string ⟨#[]⟩))
  have rf3 := Blk.frozen K_r.out 3
  have r4 := (Blk.cell K_r.out 4).trans (rfl : _ = some (Value.string ⟨#[]⟩))
  have rf4 := Blk.frozen K_r.out 4
  have r5 := (Blk.cell K_r.out 5).trans (rfl : _ = some (Value.string ⟨#[]⟩))
  have rf5 := Blk.frozen K_r.out 5
  go_wp2_with fail
  exact bodyPost_ret (v := .tuple #[.agg (TV fun i => p * q i), .int .i64 0]) (by simp [results, Tryz.results34, go_sem, r0, r1, r2, r3, r4, r5]) rfl ⟨rfl, ((((((HB.out.setCell (p := ⟨w.heap.size + 1, 0, none⟩) (Nat.le_add_right _ _) _).setCell (p := ⟨w.heap.size + 1, 1, none⟩) (Nat.le_add_right _ _) _).setCell (p := ⟨w.heap.size + 1, 2, none⟩) (Nat.le_add_right _ _) _).setCell (p := ⟨w.heap.size + 1, 3, none⟩) (Nat.le_add_right _ _) _).setCell (p := ⟨w.heap.size + 1, 4, none⟩) (Nat.le_add_right _ _) _).setCell (p := ⟨w.heap.size + 1, 5, none⟩) (Nat.le_add_right _ _) _)⟩
end Go.Proofs.YtdkilkliccljeaaGreatDoor
