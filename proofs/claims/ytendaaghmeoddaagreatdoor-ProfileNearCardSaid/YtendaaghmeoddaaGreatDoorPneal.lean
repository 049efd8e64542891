/- ProfileNear: the walk. -/
import Derived.Test.YtendaaghmeoddaaGreatDoorPsides
import Derived.Test.YtendaaghmeoddaaGreatDoorPwith
namespace Go.Proofs.YtendaaghmeoddaaGreatDoor
open Go.RowKit MLab

set_option maxRecDepth 100000 in
set_option maxHeartbeats 4000000 in
theorem near_any (w : World) (v : Value) (L : List S2) (c0 : Bool) (hv : Pts w v L) (px py tol : Int) (hs : Std w) :
    Calls Tryz.prog 4 #[.agg #[v, .bool c0], .agg #[.int .i64 px, .int .i64 py], .int .i64 tol] w fun e w' => e = .returned (.bool true) ∧ Below w.heap.size w w' := by
  have HV := hide hv
  have HS := hide hs
  obtain ⟨A, c, rfl, _⟩ := id hv
  clear hv hs
  have HB := allocs_below w [.cells #[.slice A L.length c, .bool c0] 34, .cells #[.int .i64 px, .int .i64 py] 24]
  have K_x : Blk (allocs w [.cells #[.slice A L.length c, .bool c0] 34, .cells #[.int .i64 px, .int .i64 py] 24]) (w.heap.size + 0) 34 #[.slice A L.length c, .bool c0] := allocs_at w [.cells #[.slice A L.length c, .bool c0] 34, .cells #[.int .i64 px, .int .i64 py] 24] 0 rfl
  have K_p : Blk (allocs w [.cells #[.slice A L.length c, .bool c0] 34, .cells #[.int .i64 px, .int .i64 py] 24]) (w.heap.size + 1) 24 #[.int .i64 px, .int .i64 py] := allocs_at w [.cells #[.slice A L.length c, .bool c0] 34, .cells #[.int .i64 px, .int .i64 py] 24] 1 rfl
  unfold allocs at HB K_x K_p
  simp only [List.foldl_cons, List.foldl_nil] at HB K_x K_p
  rw [Nat.add_zero] at K_x
  by_cases hf : L.length ≤ 8 ∨ 64 < L.length ∧ L.length < 128
  · skip
    have hL : L.length ≤ 1000000000000 := by omega
    have hd := hide (decide_eq_true hf)
    obtain ⟨s, ii, ee, hne⟩ := neV_shape L c0 px py
    have HE := hide hne
    clear hf hne
    go_enter Tryz.func4, Tryz.ntmps4
    go_upto_region 1 with (fail)
    generalize ((w.alloc (.cells #[.slice A L.length c, .bool c0] 34)).alloc (.cells #[.int .i64 px, .int .i64 py] 24)) = w0 at *
    replace K_x := hide K_x
    replace K_p := hide K_p
    replace HB := hide HB
    have x0 := (Blk.cell K_x.out 0).trans (rfl : _ = some (Value.slice A L.length c))
    have x1 := (Blk.cell K_x.out 1).trans (rfl : _ = some (Value.bool c0))
    go_wp2_with fail
    refine (few37_any _ _ L (HV.out.below HB.out)).mono ?_
    rw [hd.out]
    rintro e w1 ⟨rfl, hb⟩
    clear x0 x1
    replace K_x := hide (Blk.below K_x.out hb (Blk.lt K_x.out))
    replace K_p := hide (Blk.below K_p.out hb (Blk.lt K_p.out))
    replace HB := hide (HB.out.trans (hb.mono HB.out.size))
    clear hb
    have x0 := (Blk.cell K_x.out 0).trans (rfl : _ = some (Value.slice A L.length c))
    have x1 := (Blk.cell K_x.out 1).trans (rfl : _ = some (Value.bool c0))
    have p0 := (Blk.cell K_p.out 0).trans (rfl : _ = some (Value.int .i64 px))
    have p1 := (Blk.cell K_p.out 1).trans (rfl : _ = some (Value.int .i64 py))
    go_wp2_with fail
    refine (pne_any _ _ L c0 px py (HV.out.below HB.out) hL (HS.out.below HB.out (Nat.le_refl _))).mono ?_
    rw [HE.out]
    rintro e w2 ⟨rfl, hb⟩
    clear x0 x1 p0 p1
    replace K_x := hide (Blk.below K_x.out hb (Blk.lt K_x.out))
    replace K_p := hide (Blk.below K_p.out hb (Blk.lt K_p.out))
    replace HB := hide (HB.out.trans (hb.mono HB.out.size))
    clear hb
    have x0 := (Blk.cell K_x.out 0).trans (rfl : _ = some (Value.slice A L.length c))
    have x1 := (Blk.cell K_x.out 1).trans (rfl : _ = some (Value.bool c0))
    have p0 := (Blk.cell K_p.out 0).trans (rfl : _ = some (Value.int .i64 px))
    have p1 := (Blk.cell K_p.out 1).trans (rfl : _ = some (Value.int .i64 py))
    go_wp2_with fail
    refine (rpne_any _ _ L c0 px py (HV.out.below HB.out) hL).mono ?_
    rw [HE.out]
    rintro e w3 ⟨rfl, hb⟩
    clear x0 x1 p0 p1
    replace K_x := hide (Blk.below K_x.out hb (Blk.lt K_x.out))
    replace K_p := hide (Blk.below K_p.out hb (Blk.lt K_p.out))
    replace HB := hide (HB.out.trans (hb.mono HB.out.size))
    clear hb
    have x0 := (Blk.cell K_x.out 0).trans (rfl : _ = some (Value.slice A L.length c))
    have x1 := (Blk.cell K_x.out 1).trans (rfl : _ = some (Value.bool c0))
    have p0 := (Blk.cell K_p.out 0).trans (rfl : _ = some (Value.int .i64 px))
    have p1 := (Blk.cell K_p.out 1).trans (rfl : _ = some (Value.int .i64 py))
    go_wp2_with fail
    refine (pwit_any _ _ L c0 px py tol (HV.out.below HB.out) hL (HS.out.below HB.out (Nat.le_refl _))).mono ?_
    rintro e w4 ⟨rfl, hb⟩
    clear x0 x1 p0 p1
    replace K_x := hide (Blk.below K_x.out hb (Blk.lt K_x.out))
    replace K_p := hide (Blk.below K_p.out hb (Blk.lt K_p.out))
    replace HB := hide (HB.out.trans (hb.mono HB.out.size))
    clear hb
    have x0 := (Blk.cell K_x.out 0).trans (rfl : _ = some (Value.slice A L.length c))
    have x1 := (Blk.cell K_x.out 1).trans (rfl : _ = some (Value.bool c0))
    have p0 := (Blk.cell K_p.out 0).trans (rfl : _ = some (Value.int .i64 px))
    have p1 := (Blk.cell K_p.out 1).trans (rfl : _ = some (Value.int .i64 py))
    go_wp2_with fail
    refine (rpwit_any _ _ L c0 px py tol (HV.out.below HB.out) hL).mono ?_
    rintro e w5 ⟨rfl, hb⟩
    clear x0 x1 p0 p1
    replace K_x := hide (Blk.below K_x.out hb (Blk.lt K_x.out))
    replace K_p := hide (Blk.below K_p.out hb (Blk.lt K_p.out))
    replace HB := hide (HB.out.trans (hb.mono HB.out.size))
    clear hb
    have x0 := (Blk.cell K_x.out 0).trans (rfl : _ = some (Value.slice A L.length c))
    have x1 := (Blk.cell K_x.out 1).trans (rfl : _ = some (Value.bool c0))
    have SK : ∀ w', Below w5.heap.size w5 w' → Below w5.heap.size w5 w' ∧ w'.cell? ⟨w.heap.size, 0, none⟩ = some (.slice A L.length c) ∧ w'.cell? ⟨w.heap.size, 1, none⟩ = some (.bool c0) := fun w' h => ⟨h, (bcell h _ _ (block_lt_of_cell x0)).trans x0, (bcell h _ _ (block_lt_of_cell x1)).trans x1⟩
    obtain ⟨kp, hkp⟩ : ∃ k, chkP L c0 = k := ⟨_, rfl⟩
    have HC1 := hide (fun W hV => pcheck_any W (.slice A L.length c) L c0 hV hL)
    have HC2 := hide (fun W hV => rpcheck_any W (.slice A L.length c) L c0 hV hL)
    rw [hkp] at HC1 HC2
    have SV : ∀ {R : Prop} {W : World}, Below w5.heap.size w5 W ∧ R → Pts W (.slice A L.length c) L := fun h => (HV.out.below HB.out).below h.1
    have SS' : ∀ {R : Prop} {W : World}, Below w5.heap.size w5 W ∧ R → Std W := fun h => (HS.out.below HB.out (Nat.le_refl _)).below h.1 (Nat.le_refl _)
    clear hkp
    go_upto_region 7 with (fail)
    go_region_held3 (fun w' => Below w5.heap.size w5 w' ∧ w'.cell? ⟨w.heap.size, 0, none⟩ = some (.slice A L.length c) ∧ w'.cell? ⟨w.heap.size, 1, none⟩ = some (.bool c0)) (first | exact SK _ (Below.refl _ _).drew | exact SK _ (Below.refl _ _) | exact SK _ (bel_next (by assumption) (by assumption) (Nat.le_refl _)))
      (first
        | (go_at_call 12; refine (awake_any _ (SS' (by assumption))).mono ?_; rintro e wx ⟨rfl, hbW⟩)
        | (go_at_call 19; refine (HC1.out _ (SV (by assumption))).mono ?_; rintro e wx ⟨rfl, hbW⟩)
        | (go_at_call 20; refine (HC2.out _ (SV (by assumption))).mono ?_; rintro e wx ⟨rfl, hbW⟩))
    obtain ⟨hbx, _⟩ : Below w5.heap.size w5 _ ∧ _ := by assumption
    have HX := hide (HB.out.trans (hbx.mono HB.out.size))
    clear hbx
    go_wp2_with fail
    go_ret
    exact ⟨rfl, HX.out⟩
  · skip
    have hd := hide (decide_eq_false hf)
    clear hf
    go_enter Tryz.func4, Tryz.ntmps4
    go_upto_region 1 with (fail)
    generalize ((w.alloc (.cells #[.slice A L.length c, .bool c0] 34)).alloc (.cells #[.int .i64 px, .int .i64 py] 24)) = w0 at *
    replace K_x := hide K_x
    replace K_p := hide K_p
    replace HB := hide HB
    have x0 := (Blk.cell K_x.out 0).trans (rfl : _ = some (Value.slice A L.length c))
    have x1 := (Blk.cell K_x.out 1).trans (rfl : _ = some (Value.bool c0))
    go_wp2_with fail
    refine (few37_any _ _ L (HV.out.below HB.out)).mono ?_
    rw [hd.out]
    rintro e w1 ⟨rfl, hb⟩
    clear x0 x1
    replace K_x := hide (Blk.below K_x.out hb (Blk.lt K_x.out))
    replace K_p := hide (Blk.below K_p.out hb (Blk.lt K_p.out))
    replace HB := hide (HB.out.trans (hb.mono HB.out.size))
    clear hb
    go_wp2_with fail
    refine (awake_any _ (HS.out.below HB.out (Nat.le_refl _))).mono ?_
    rintro e w2 ⟨rfl, hb⟩
    replace K_x := hide (Blk.below K_x.out hb (Blk.lt K_x.out))
    replace K_p := hide (Blk.below K_p.out hb (Blk.lt K_p.out))
    replace HB := hide (HB.out.trans (hb.mono HB.out.size))
    clear hb
    go_wp2_with fail
    go_ret
    exact ⟨rfl, HB.out⟩
end Go.Proofs.YtendaaghmeoddaaGreatDoor
