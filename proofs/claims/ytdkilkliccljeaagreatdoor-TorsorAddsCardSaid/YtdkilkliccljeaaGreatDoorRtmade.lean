/- metrolabref40.Made. metrolabref40.Times. -/
import Derived.Test.YtdkilkliccljeaaGreatDoorRarith
import Derived.Test.YtdkilkliccljeaaGreatDoorRnums
import Derived.RegionTactic
import Derived.BigRegion
namespace Go.Proofs.YtdkilkliccljeaaGreatDoor
open Go.RowKit MLab

set_option maxRecDepth 100000 in
set_option maxHeartbeats 2000000 in
theorem rtmade_any (w : World) (g c : Nat) (s0 s1 s2 s3 s4 s5 : ByteArray) (h0 : w.cell? ⟨g, 0, none⟩ = some (.string s0)) (h1 : w.cell? ⟨g, 1, none⟩ = some (.string s1)) (h2 : w.cell? ⟨g, 2, none⟩ = some (.string s2)) (h3 : w.cell? ⟨g, 3, none⟩ = some (.string s3)) (h4 : w.cell? ⟨g, 4, none⟩ = some (.string s4)) (h5 : w.cell? ⟨g, 5, none⟩ = some (.string s5)) :
    Calls Tryz.prog 55 #[.slice (some ⟨g, 0, none⟩) 6 c] w fun e w' => e = .returned (.agg #[.string s0, .string s1, .string s2, .string s3, .string s4, .string s5]) ∧ Below w.heap.size w w' := by
  have O : ∃ o : Obj, o = .cells #[.string ⟨#[]⟩, .string ⟨#[]⟩, .string ⟨#[]⟩, .string ⟨#[]⟩, .string ⟨#[]⟩, .string ⟨#[]⟩] 25 := ⟨_, rfl⟩
  obtain ⟨o, ho⟩ := O
  have hb := allocs_below w [o]
  have g0 := (bcell hb _ _ (block_lt_of_cell h0)).trans h0
  have g1 := (bcell hb _ _ (block_lt_of_cell h1)).trans h1
  have g2 := (bcell hb _ _ (block_lt_of_cell h2)).trans h2
  have g3 := (bcell hb _ _ (block_lt_of_cell h3)).trans h3
  have g4 := (bcell hb _ _ (block_lt_of_cell h4)).trans h4
  have g5 := (bcell hb _ _ (block_lt_of_cell h5)).trans h5
  have hk : Blk (w.alloc o) w.heap.size 25 #[.string ⟨#[]⟩, .string ⟨#[]⟩, .string ⟨#[]⟩, .string ⟨#[]⟩, .string ⟨#[]⟩, .string ⟨#[]⟩] := by rw [ho]; exact Blk.new w _ _
  clear h0 h1 h2 h3 h4 h5
  go_enter Tryz.func55, Tryz.ntmps55
  go_upto_region 1 with (fail)
  rw [← ho]
  have hb1 : Below w.heap.size w (w.alloc o) := hb
  change (w.alloc o).cell? _ = _ at g0
  change (w.alloc o).cell? _ = _ at g1
  change (w.alloc o).cell? _ = _ at g2
  change (w.alloc o).cell? _ = _ at g3
  change (w.alloc o).cell? _ = _ at g4
  change (w.alloc o).cell? _ = _ at g5
  clear hb
  generalize w.alloc o = w0 at *
  have HB := hide hb1
  have z0 : w0.cell? ⟨w.heap.size, 0, none⟩ = some (.string ⟨#[]⟩) := (Blk.cell hk 0).trans rfl
  have z1 : w0.cell? ⟨w.heap.size, 1, none⟩ = some (.string ⟨#[]⟩) := (Blk.cell hk 1).trans rfl
  have z2 : w0.cell? ⟨w.heap.size, 2, none⟩ = some (.string ⟨#[]⟩) := (Blk.cell hk 2).trans rfl
  have z3 : w0.cell? ⟨w.heap.size, 3, none⟩ = some (.string ⟨#[]⟩) := (Blk.cell hk 3).trans rfl
  have z4 : w0.cell? ⟨w.heap.size, 4, none⟩ = some (.string ⟨#[]⟩) := (Blk.cell hk 4).trans rfl
  have z5 : w0.cell? ⟨w.heap.size, 5, none⟩ = some (.string ⟨#[]⟩) := (Blk.cell hk 5).trans rfl
  have f0 := Blk.frozen hk 0
  have f1 := Blk.frozen hk 1
  have f2 := Blk.frozen hk 2
  have f3 := Blk.frozen hk 3
  have f4 := Blk.frozen hk 4
  have f5 := Blk.frozen hk 5
  clear hk hb1 ho
  go_region
  go_wp2_with fail
  exact bodyPost_ret (v := .agg #[.string s0, .string s1, .string s2, .string s3, .string s4, .string s5]) (by simp [results, Tryz.results55, go_sem, z0, z1, z2, z3, z4, z5]) rfl ⟨rfl, (((((((HB.out.setCell (p := ⟨w.heap.size, 0, none⟩) (Nat.le_refl _) _).setCell (p := ⟨w.heap.size, 1, none⟩) (Nat.le_refl _) _).setCell (p := ⟨w.heap.size, 2, none⟩) (Nat.le_refl _) _).setCell (p := ⟨w.heap.size, 3, none⟩) (Nat.le_refl _) _).setCell (p := ⟨w.heap.size, 4, none⟩) (Nat.le_refl _) _).setCell (p := ⟨w.heap.size, 5, none⟩) (Nat.le_refl _) _)).drew⟩
end Go.Proofs.YtdkilkliccljeaaGreatDoor

namespace Go.Proofs.YtdkilkliccljeaaGreatDoor
open Go.RowKit MLab

theorem info_rat : (Tryz.prog.info? 22).map (fun i => (i.zero, i.size, i.bytes)) = some (some (.string ⟨#[]⟩), 1, 16) := by kernel_rfl
def strsOf (r : Nat → ByteArray) (n : Nat) : List Value := (List.range n).map fun p => .string (r p)
theorem strsOf_snoc (r : Nat → ByteArray) (n : Nat) : strsOf r n ++ [.string (r n)] = strsOf r (n + 1) := by simp [strsOf, List.range_succ]
theorem own_strs {w : World} {base n : Nat} {v : Value} {t : TypeId} {r : Nat → ByteArray} (h : w.ownsRow base t 1 v (n + 1) (strsOf r (n + 1))) :
    ∃ g cap, v = .slice (some ⟨g, 0, none⟩) (n + 1) cap ∧ ∀ p, p < n + 1 → w.cell? ⟨g, p, none⟩ = some (.string (r p)) := by
  rcases h.2 with ⟨_, h0⟩ | ⟨g, cap, cur, rfl, hb, hgg, hn, hcap, hsz, htake⟩
  · omega
  · refine ⟨g, cap, rfl, fun p hp => ?_⟩
    have h1 : (strsOf r (n + 1))[p]? = some (.string (r p)) := by simp [strsOf, hp]
    rw [← htake, List.getElem?_take, if_pos (by omega)] at h1
    rw [cell_of_row w g p cur t (0, 0) hgg]
    simpa using h1

set_option maxRecDepth 100000 in
set_option maxHeartbeats 4000000 in
theorem rttimes_any (w : World) (k s0 s1 s2 s3 s4 s5 : ByteArray) (p : Rat) (q : Nat → Rat) {m : Nat} (hm : m ≤ 1000) (hk : k.data.toList = RT p) (hp : Sz m m p) (hq : ∀ i, i < 6 → Sz m m (q i))
    (hs : s0.data.toList = RT (q 0) ∧ s1.data.toList = RT (q 1) ∧ s2.data.toList = RT (q 2) ∧ s3.data.toList = RT (q 3) ∧ s4.data.toList = RT (q 4) ∧ s5.data.toList = RT (q 5)) :
    Calls Tryz.prog 80 #[.string k, .agg #[.string s0, .string s1, .string s2, .string s3, .string s4, .string s5]] w fun e w' => e = .returned (.agg #[.string ⟨(RT (p * q 0)).toArray⟩, .string ⟨(RT (p * q 1)).toArray⟩, .string ⟨(RT (p * q 2)).toArray⟩, .string ⟨(RT (p * q 3)).toArray⟩, .string ⟨(RT (p * q 4)).toArray⟩, .string ⟨(RT (p * q 5)).toArray⟩]) ∧ Below w.heap.size w w' := by
  obtain ⟨b0, b1, b2, b3, b4, b5⟩ := hs
  have HK := hide hk
  have HP := hide hp
  have HQ := hide hq
  have B0 := hide b0
  have B1 := hide b1
  have B2 := hide b2
  have B3 := hide b3
  have B4 := hide b4
  have B5 := hide b5
  obtain ⟨i0, hi, hz0, hz1, hz2⟩ := info_parts info_rat
  have hb0 := hide (allocs_below w [.cells #[.string s0, .string s1, .string s2, .string s3, .string s4, .string s5] 25, .cells #[.string ⟨#[]⟩, .string ⟨#[]⟩, .string ⟨#[]⟩, .string ⟨#[]⟩, .string ⟨#[]⟩, .string ⟨#[]⟩] 25])
  have hk0 := hide (allocs_at w [.cells #[.string s0, .string s1, .string s2, .string s3, .string s4, .string s5] 25, .cells #[.string ⟨#[]⟩, .string ⟨#[]⟩, .string ⟨#[]⟩, .string ⟨#[]⟩, .string ⟨#[]⟩, .string ⟨#[]⟩] 25] 1 rfl)
  clear hk hp hq b0 b1 b2 b3 b4 b5
  go_enter Tryz.func80, Tryz.ntmps80
  go_wp2_with fail
  refine (rtnums_eq _ s0 s1 s2 s3 s4 s5).mono ?_
  rintro e w1 ⟨W, hW, rfl, rfl⟩
  have h1 : Below w.heap.size w W := hb0.out.trans (hW.mono hb0.out.size)
  have hz1' : Blk W (w.heap.size + 1) 25 #[.string ⟨#[]⟩, .string ⟨#[]⟩, .string ⟨#[]⟩, .string ⟨#[]⟩, .string ⟨#[]⟩, .string ⟨#[]⟩] := Blk.below hk0.out hW (Blk.lt hk0.out)
  have hz2' := Blk.alloc hz1' (.cells #[.string s0, .string s1, .string s2, .string s3, .string s4, .string s5] 22)
  have hn1 := Blk.new W 22 #[.string s0, .string s1, .string s2, .string s3, .string s4, .string s5]
  have h2 := h1.alloc h1.size (.cells #[.string s0, .string s1, .string s2, .string s3, .string s4, .string s5] 22)
  generalize (W.alloc (.cells #[.string s0, .string s1, .string s2, .string s3, .string s4, .string s5] 22)) = w2 at *
  have HZ := hide hz2'
  have HN := hide hn1
  have H2 := hide h2
  clear hW h1 hz1' hz2' hn1 h2
  go_wp2_with fail
  go_loopg [6, 7] 6 (fun n ov iv wr => ∃ i : Nat, iv = .int .i64 (i : Int) ∧ n + i = 6 ∧ wr.ownsRow w2.heap.size 22 1 ov i (strsOf (fun i => ⟨(RT (p * q i)).toArray⟩) i) ∧ Below w2.heap.size w2 wr)
  case atStart => exact ⟨0, rfl, rfl, World.ownsRow_nil _ _ _ _, Below.refl _ _⟩
  case round =>
    obtain ⟨i, rfl, hq, hown, hb⟩ := hrel
    have HQ0 := hide hq
    have HB := hide hb
    have hile : i ≤ 6 := by omega
    clear hq hb
    by_cases hlt : i < 6
    · have hii : (i : Int) < 6 := by omega
      obtain ⟨s, hs1, hs2⟩ : ∃ s : ByteArray, #[(Value.string s0), .string s1, .string s2, .string s3, .string s4, .string s5][i]? = some (.string s) ∧ s.data.toList = RT (q i) := by
        match i, hlt with
        | 0, _ => exact ⟨s0, rfl, B0.out⟩
        | 1, _ => exact ⟨s1, rfl, B1.out⟩
        | 2, _ => exact ⟨s2, rfl, B2.out⟩
        | 3, _ => exact ⟨s3, rfl, B3.out⟩
        | 4, _ => exact ⟨s4, rfl, B4.out⟩
        | 5, _ => exact ⟨s5, rfl, B5.out⟩
      have hc : wr.cell? ⟨W.heap.size, i, none⟩ = some (.string s) := (Blk.cell (Blk.below HN.out HB.out (Blk.lt HN.out)) i).trans hs1
      have HS2 := hide hs2
      have HOWN := hide hown
      clear hs1 hs2 hown
      go_wp2_with fail
      refine (rqtimes_any _ k s p (q i) HK.out HS2.out hm HP.out (HQ.out i hlt)).mono ?_
      rintro e v1 ⟨rfl, hv1⟩
      have hown := HOWN.out.kept (row := none) ⟨hv1.os, hv1.tape, hv1.output, hv1.size, fun k hk _ => hv1.block k hk⟩ (by cases h : Value.ownBlock _ <;> simp)
      have HB1 := hide (HB.out.trans (hv1.mono HB.out.size))
      clear hv1 hc
      go_wp2_with (at_builtin; refine wpList_append_own _ rfl _ _ 39 rfl w2.heap.size 22 i0 (.string ⟨#[]⟩) 1 16 Tryz.underlying39 hi hz0 hz1 hz2 rfl (by decide) _ _ _ rfl (hown.alloc _) ⟨v1.heap.size, 0, none⟩ 1 1 [.string ⟨(RT (p * q i)).toArray⟩] rfl rfl ?d1 ?d2 ?d3 ?d4 ?d5 ?_)
      case d1 =>
        intro j u hj
        match j, hj with
        | 0, hj => simp at hj; subst hj; simp [Addr.add]
      case d2 => intro u hu; simp at hu; subst hu; rfl
      case d3 => unfold maxLen; omega
      case d4 => omega
      case d5 => have := HB1.out.size; simp; omega
      intro v' v2 hown' hgrow _
      have hcl := strsOf_snoc (fun i => (⟨(RT (p * q i)).toArray⟩ : ByteArray)) i
      rw [hcl] at hown'
      have hb1 : Below w2.heap.size w2 v2 := (HB1.out.alloc HB1.out.size _).grown hgrow (by have := HB1.out.size; simp; omega) (fun k e => (hown.lt k e).1)
      have HO2 := hide hown'
      have HB2 := hide hb1
      clear hown' hgrow hb1 hcl hown
      go_wp2_with fail
      go_roundg (gk - 1)
      case measure => have := HQ0.out; omega
      case rel => exact ⟨i + 1, by go_num, by have := HQ0.out; omega, HO2.out, HB2.out⟩
    · have hii : ¬ (i : Int) < 6 := by omega
      have hi6 : i = 5 + 1 := by omega
      subst hi6
      obtain ⟨g, cap, hv, hcell⟩ := own_strs hown
      subst hv
      have HC := hide hcell
      clear hown hcell
      go_wp2_with fail
      refine (rtmade_any _ g cap _ _ _ _ _ _ (HC.out 0 (by omega)) (HC.out 1 (by omega)) (HC.out 2 (by omega)) (HC.out 3 (by omega)) (HC.out 4 (by omega)) (HC.out 5 (by omega))).mono ?_
      rintro e v5 ⟨rfl, hb5⟩
      have hz5 := Blk.below (Blk.below HZ.out HB.out (Blk.lt HZ.out)) hb5 (Blk.lt (Blk.below HZ.out HB.out (Blk.lt HZ.out)))
      have z0 : v5.cell? ⟨w.heap.size + 1, 0, none⟩ = some (.string ⟨#[]⟩) := (Blk.cell hz5 0).trans rfl
      have z1 : v5.cell? ⟨w.heap.size + 1, 1, none⟩ = some (.string ⟨#[]⟩) := (Blk.cell hz5 1).trans rfl
      have z2 : v5.cell? ⟨w.heap.size + 1, 2, none⟩ = some (.string ⟨#[]⟩) := (Blk.cell hz5 2).trans rfl
      have z3 : v5.cell? ⟨w.heap.size + 1, 3, none⟩ = some (.string ⟨#[]⟩) := (Blk.cell hz5 3).trans rfl
      have z4 : v5.cell? ⟨w.heap.size + 1, 4, none⟩ = some (.string ⟨#[]⟩) := (Blk.cell hz5 4).trans rfl
      have z5 : v5.cell? ⟨w.heap.size + 1, 5, none⟩ = some (.string ⟨#[]⟩) := (Blk.cell hz5 5).trans rfl
      have f0 := Blk.frozen hz5 0
      have f1 := Blk.frozen hz5 1
      have f2 := Blk.frozen hz5 2
      have f3 := Blk.frozen hz5 3
      have f4 := Blk.frozen hz5 4
      have f5 := Blk.frozen hz5 5
      have HB5 := hide ((H2.out.trans (HB.out.mono H2.out.size)).trans (hb5.mono (H2.out.trans (HB.out.mono H2.out.size)).size))
      clear hz5 hb5
      go_wp2_with fail
      exact bodyPost_ret (v := .agg #[.string ⟨(RT (p * q 0)).toArray⟩, .string ⟨(RT (p * q 1)).toArray⟩, .string ⟨(RT (p * q 2)).toArray⟩, .string ⟨(RT (p * q 3)).toArray⟩, .string ⟨(RT (p * q 4)).toArray⟩, .string ⟨(RT (p * q 5)).toArray⟩]) (by simp [results, Tryz.results80, go_sem, z0, z1, z2, z3, z4, z5]) rfl ⟨rfl, (((((((HB5.out.setCell (p := ⟨w.heap.size + 1, 0, none⟩) (Nat.le_add_right _ _) _).setCell (p := ⟨w.heap.size + 1, 1, none⟩) (Nat.le_add_right _ _) _).setCell (p := ⟨w.heap.size + 1, 2, none⟩) (Nat.le_add_right _ _) _).setCell (p := ⟨w.heap.size + 1, 3, none⟩) (Nat.le_add_right _ _) _).setCell (p := ⟨w.heap.size + 1, 4, none⟩) (Nat.le_add_right _ _) _).setCell (p := ⟨w.heap.size + 1, 5, none⟩) (Nat.le_add_right _ _) _))⟩
end Go.Proofs.YtdkilkliccljeaaGreatDoor
