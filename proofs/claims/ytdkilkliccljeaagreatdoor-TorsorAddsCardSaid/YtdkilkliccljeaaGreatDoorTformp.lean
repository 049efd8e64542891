/- torsor.wholes, torsor.Form. -/
import Derived.Test.YtdkilkliccljeaaGreatDoorTapply
import Derived.Test.YtdkilkliccljeaaGreatDoorRtmade
namespace Go.Proofs.YtdkilkliccljeaaGreatDoor
open Go.RowKit MLab

/-- A slice of six texts. -/
def Six (r : Nat → ByteArray) (v : Value) (w : World) : Prop := ∃ g cap, v = .slice (some ⟨g, 0, none⟩) 6 cap ∧ ∀ p, p < 6 → w.cell? ⟨g, p, none⟩ = some (.string (r p))
theorem Six.below {r : Nat → ByteArray} {v : Value} {w w' : World} (h : Six r v w) (hb : Below w.heap.size w w') : Six r v w' := by
  obtain ⟨g, cap, hv, hc⟩ := h
  exact ⟨g, cap, hv, fun p hp => (hb.cell (p := ⟨g, p, none⟩) (block_lt_of_cell (hc p hp))).trans (hc p hp)⟩

set_option maxRecDepth 100000 in
set_option maxHeartbeats 4000000 in
theorem twholes_any (w : World) (g cap : Nat) (c : Nat → Int) (hc : ∀ i, i < 6 → Cb (c i)) (hcell : ∀ i, i < 6 → w.cell? ⟨g, i, none⟩ = some (.int .i64 (c i))) (hst : Std w) :
    Calls Tryz.prog 57 #[.slice (some ⟨g, 0, none⟩) 6 cap] w fun e w' => (∃ v, e = .returned v ∧ Six (fun i => ⟨(RT (c i : Rat)).toArray⟩) v w') ∧ Below w.heap.size w w' := by
  have HC := hide hc
  have HCELL := hide hcell
  have HST := hide hst
  obtain ⟨i0, hi, hz0, hz1, hz2⟩ := info_parts info_rat
  clear hc hcell hst
  go_enter Tryz.func57, Tryz.ntmps57
  go_wp2_with fail
  go_loopg [3, 8] 6 (fun n ov iv wr => ∃ i : Nat, iv = .int .i64 (i : Int) ∧ n + i = 6 ∧ wr.ownsRow w.heap.size 22 1 ov i (strsOf (fun i => ⟨(RT (c i : Rat)).toArray⟩) i) ∧ Below w.heap.size w wr)
  case atStart => exact ⟨0, rfl, rfl, World.ownsRow_nil _ _ _ _, Below.refl _ _⟩
  case round =>
    obtain ⟨i, rfl, hq, hown, hb⟩ := hrel
    have HQ0 := hide hq
    have HB := hide hb
    have hile : i ≤ 6 := by omega
    clear hq hb
    by_cases hlt : i < 6
    · have hii : (i : Int) < 6 := by omega
      have hi00 : (0 : Int) ≤ (i : Int) := by omega
      have hc : wr.cell? ⟨g, i, none⟩ = some (.int .i64 (c i)) := (HB.out.cell (p := ⟨g, i, none⟩) (block_lt_of_cell (HCELL.out i hlt))).trans (HCELL.out i hlt)
      have HOWN := hide hown
      clear hown
      go_wp2_with fail
      refine (rwholeR _ (HC.out i hlt) _ (std_next HST.out HB.out)).mono ?_
      rintro e v1 ⟨rfl, hv1⟩
      have hown := HOWN.out.kept (row := none) ⟨hv1.os, hv1.tape, hv1.output, hv1.size, fun k hk _ => hv1.block k hk⟩ (by cases h : Value.ownBlock _ <;> simp)
      have HB1 := hide (HB.out.trans (hv1.mono HB.out.size))
      clear hv1 hc
      go_wp2_with (at_builtin; refine wpList_append_own _ rfl _ _ 39 rfl w.heap.size 22 i0 (.string ⟨#[]⟩) 1 16 Tryz.underlying39 hi hz0 hz1 hz2 rfl (by decide) _ _ _ rfl (hown.alloc _) ⟨v1.heap.size, 0, none⟩ 1 1 [.string ⟨(RT (c i : Rat)).toArray⟩] rfl rfl ?d1 ?d2 ?d3 ?d4 ?d5 ?_)
      case d1 =>
        intro j u hj
        match j, hj with
        | 0, hj => simp at hj; subst hj; simp [Addr.add]
      case d2 => intro u hu; simp at hu; subst hu; rfl
      case d3 => unfold maxLen; omega
      case d4 => omega
      case d5 => have := HB1.out.size; simp; omega
      intro v' v2 hown' hgrow _
      have hcl := strsOf_snoc (fun i => (⟨(RT (c i : Rat)).toArray⟩ : ByteArray)) i
      rw [hcl] at hown'
      have hb1 : Below w.heap.size w v2 := (HB1.out.alloc HB1.out.size _).grown hgrow (by have := HB1.out.size; simp; omega) (fun k e => (hown.lt k e).1)
      have HO2 := hide hown'
      have HB2 := hide hb1
      clear hown' hgrow hb1 hcl hown
      go_wp2_with fail
      go_roundg (gk - 1)
      case measure => have := HQ0.out; omega
      case rel => exact ⟨i + 1, by go_num, by have := HQ0.out; omega, HO2.out, HB2.out⟩
    · have hii : ¬ (i : Int) < 6 := by omega
      have hi6 : i = 5 + 1 := by omega
      subst hi6
      obtain ⟨g1, cap1, hv, hcl1⟩ := own_strs hown
      subst hv
      have HC1 := hide hcl1
      clear hown hcl1
      go_wp2_with fail
      go_ret
      exact ⟨⟨_, rfl, g1, cap1, rfl, HC1.out⟩, HB.out⟩

def FormR (r : Nat → ByteArray) (c : Int) (e : Ending) (w : World) : Prop := ∃ v, e = .returned (.tuple #[v, .int .i64 c]) ∧ Six r v w
def frmT (k : Nat) (x y z : Int) : Nat → ByteArray := fun i => ⟨(RT (frm k x y z i : Rat)).toArray⟩

set_option maxRecDepth 100000 in
set_option maxHeartbeats 4000000 in
theorem tForm_bad (w : World) (k x y z : Int) (c : Int) (hc : gvn k x y z = c) (h0 : c ≠ 0) :
    Calls Tryz.prog 18 #[.int .i64 k, .agg #[.int .i64 x, .int .i64 y, .int .i64 z]] w fun e w' => e = .returned (.tuple #[.slice none 0 0, .int .i64 c]) ∧ Below w.heap.size w w' := by
  have hb0 := hide (allocs_below w [.cells #[.int .i64 x, .int .i64 y, .int .i64 z] 27])
  have HC := hide hc
  clear hc
  go_enter Tryz.func18, Tryz.ntmps18
  go_wp2_with fail
  refine (given_any _ k x y z).mono ?_
  rw [HC.out]
  rintro e w1 ⟨rfl, hb1⟩
  have HB1 := hide (hb0.out.trans (Below.mono hb1 hb0.out.size))
  clear hb1
  go_wp2_with fail
  go_ret2
  exact ⟨rfl, HB1.out⟩

set_option maxRecDepth 100000 in
set_option maxHeartbeats 4000000 in
theorem tForm_ok (w : World) (k : Nat) (hk : k < 3) (x y z : Int) (hw : Co x ∧ Co y ∧ Co z) (hst : Std w) :
    Calls Tryz.prog 18 #[.int .i64 (k : Int), .agg #[.int .i64 x, .int .i64 y, .int .i64 z]] w fun e w' => FormR (frmT k x y z) 0 e w' ∧ Below w.heap.size w w' := by
  have HG := hide (show gvn (k : Int) x y z = 0 by rw [gvn, if_neg (by omega), if_pos hw])
  have hb0 := hide (allocs_below w [.cells #[.int .i64 x, .int .i64 y, .int .i64 z] 27])
  have K0 := hide (show Blk (allocs w [.cells #[.int .i64 x, .int .i64 y, .int .i64 z] 27]) (w.heap.size + 0) 27 #[.int .i64 x, .int .i64 y, .int .i64 z] from allocs_at w [.cells #[.int .i64 x, .int .i64 y, .int .i64 z] 27] 0 rfl)
  have HCO := hide hw
  have HST := hide hst
  clear hw hst
  go_enter Tryz.func18, Tryz.ntmps18
  go_wp2_with fail
  refine (given_any _ k x y z).mono ?_
  rw [HG.out]
  rintro e w1 ⟨rfl, hb1⟩
  have HB1 := hide (hb0.out.trans (Below.mono hb1 hb0.out.size))
  have hz1 := Blk.below K0.out hb1 (Blk.lt K0.out)
  have p0 : w1.cell? ⟨w.heap.size + 0, 0, none⟩ = some (.int .i64 x) := (Blk.cell hz1 0).trans rfl
  have p1 : w1.cell? ⟨w.heap.size + 0, 1, none⟩ = some (.int .i64 y) := (Blk.cell hz1 1).trans rfl
  have p2 : w1.cell? ⟨w.heap.size + 0, 2, none⟩ = some (.int .i64 z) := (Blk.cell hz1 2).trans rfl
  rw [Nat.add_zero] at p0 p1 p2
  clear hb1 hz1 K0
  go_wp2_with fail
  refine (tform_any _ k hk x y z HCO.out.1.cb HCO.out.2.1.cb HCO.out.2.2.cb).mono ?_
  rw [frmV]
  rintro e w2 ⟨rfl, hb2⟩
  have HB2 := hide (HB1.out.trans (hb2.mono HB1.out.size))
  have hn2 := Blk.new w2 85 #[.int .i64 (frm k x y z 0), .int .i64 (frm k x y z 1), .int .i64 (frm k x y z 2), .int .i64 (frm k x y z 3), .int .i64 (frm k x y z 4), .int .i64 (frm k x y z 5)]
  have hcs : ∀ i, i < 6 → (w2.alloc (.cells #[.int .i64 (frm k x y z 0), .int .i64 (frm k x y z 1), .int .i64 (frm k x y z 2), .int .i64 (frm k x y z 3), .int .i64 (frm k x y z 4), .int .i64 (frm k x y z 5)] 85)).cell? ⟨w2.heap.size, i, none⟩ = some (.int .i64 (frm k x y z i)) := by
    intro i hi
    rw [Blk.cell hn2 i]
    match i, hi with
    | 0, _ => rfl
    | 1, _ => rfl
    | 2, _ => rfl
    | 3, _ => rfl
    | 4, _ => rfl
    | 5, _ => rfl
  have HCS := hide hcs
  have HB3 := hide (HB2.out.alloc HB2.out.size (.cells #[.int .i64 (frm k x y z 0), .int .i64 (frm k x y z 1), .int .i64 (frm k x y z 2), .int .i64 (frm k x y z 3), .int .i64 (frm k x y z 4), .int .i64 (frm k x y z 5)] 85))
  clear hb2 p0 p1 p2 hn2 hcs
  go_wp2_with fail
  refine (twholes_any _ _ _ (frm k x y z) (fun i _ => frm_cb k HCO.out.1.cb HCO.out.2.1.cb HCO.out.2.2.cb i) HCS.out (HST.out.below HB3.out (Nat.le_refl _))).mono ?_
  rintro e w4 ⟨⟨v, rfl, hsix⟩, hb4⟩
  have HSIX := hide hsix
  have HB4 := hide (HB3.out.trans (hb4.mono HB3.out.size))
  clear hsix hb4
  go_wp2_with fail
  go_ret2
  exact ⟨⟨v, rfl, HSIX.out⟩, HB4.out⟩
end Go.Proofs.YtdkilkliccljeaaGreatDoor
