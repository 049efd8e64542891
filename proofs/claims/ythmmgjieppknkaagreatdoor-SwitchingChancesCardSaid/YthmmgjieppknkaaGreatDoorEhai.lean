/- Contracts and plain laws that the statements of this seat share (part Ehai). -/
import Derived.Test.YthmmgjieppknkaaGreatDoorEhaa
import Derived.Test.YthmmgjieppknkaaGreatDoorEhab
import Derived.Test.YthmmgjieppknkaaGreatDoorEhac
import Derived.Test.YthmmgjieppknkaaGreatDoorEhad
import Derived.Test.YthmmgjieppknkaaGreatDoorEhae
import Derived.Test.YthmmgjieppknkaaGreatDoorEhaf
import Derived.Test.YthmmgjieppknkaaGreatDoorEhag
import Derived.Test.YthmmgjieppknkaaGreatDoorEhah
import Derived.Test.YthmmgjieppknkaaGreatDoorKaa
import Derived.Test.YthmmgjieppknkaaGreatDoorKab
import Derived.Test.YthmmgjieppknkaaGreatDoorKac
import Derived.Test.YthmmgjieppknkaaGreatDoorKad
import Derived.Test.YthmmgjieppknkaaGreatDoorKai
import Derived.Test.YthmmgjieppknkaaGreatDoorKak
import Derived.Test.YthmmgjieppknkaaGreatDoorKal
import Derived.Test.YthmmgjieppknkaaGreatDoorKam
import Derived.Test.YthmmgjieppknkaaGreatDoorKas
import Derived.Test.YthmmgjieppknkaaGreatDoorKat
import Derived.Test.YthmmgjieppknkaaGreatDoorKau
import Derived.Deep.RegionWith
namespace Go.Proofs.YthmmgjieppknkaaGreatDoor
open Go.RowKit Go.Maps MLab
theorem info_chance : (Tryz.prog.info? 127).map (fun i => (i.zero, i.size, i.bytes)) = some (some (.agg #[.int .i64 0, .int .i64 0, .slice none 0 0, .int .i64 0, .string ⟨#[]⟩]), 5, 64) := by kernel_rfl
theorem ChR.facts {w : World} {base : Nat} {v : Value} {L : List (Sw × Rat)} (h : ChR w base v L) : ∃ xs, w.ownsRow base 127 5 v L.length xs ∧ xs.length = L.length * 5 ∧ ∀ (i : Nat) (x : Sw) (p : Rat), L[i]? = some (x, p) →
  ∃ A n c, (xs[i * 5]? = some (.int .i64 (x.mode : Int)) ∧ xs[i * 5 + 1]? = some (.int .i64 (x.run : Int)) ∧ xs[i * 5 + 2]? = some (.slice A n c) ∧ xs[i * 5 + 3]? = some (.int .i64 (x.rej : Int)) ∧ xs[i * 5 + 4]? = some (tv p)) ∧ SlL w (.slice A n c) (bcl x.last) ∧ NR v (.slice A n c) := by
  obtain ⟨xs, ho, hx⟩ := h
  exact ⟨xs, ho, ho.1, hx⟩
def AddP (w : World) (base : Nat) (v : Value) (M : List (Sw × Rat)) (x : Sw) (p : Rat) (e : Ending) (w' : World) : Prop := ∃ v' M', e = .returned v' ∧ AddL M x p M' ∧ ChR w' base v' M' ∧ w.grownBy w' v.ownBlock ∧ (v'.ownBlock = v.ownBlock ∨ ∃ k, v'.ownBlock = some k ∧ w.heap.size ≤ k)
set_option maxRecDepth 100000 in
set_option maxHeartbeats 4000000 in
theorem radded_any (w : World) (base : Nat) (v : Value) (M : List (Sw × Rat)) (x : Sw) (A : Option Addr) (n c : Nat) (p : Rat) (hM : ChR w base v M) (hx : SlL w (.slice A n c) (bcl x.last)) (hn : NR v (.slice A n c)) (hb : base ≤ w.heap.size) (hl : M.length ≤ 100000) (hxl : x.last.length ≤ 1000000) (hml : ∀ y ∈ M, y.1.last.length ≤ 1000000) (hp : Sz 500 500 p) (hms : ∀ y ∈ M, Sz 500 500 y.2) :
    Calls Tryz.prog 68 #[v, .agg #[.int .i64 (x.mode : Int), .int .i64 (x.run : Int), .slice A n c, .int .i64 (x.rej : Int), .string ⟨(RT p).toArray⟩]] w (AddP w base v M x p) := by
  obtain ⟨i0, hi, hz0, hz1, hz2⟩ := info_parts info_chance
  obtain ⟨A0, cap0, rfl⟩ := hM.shape
  have HM := hide hM
  have HX := hide hx
  have HNR := hide hn
  have HXL := hide hxl
  have HML := hide hml
  have HPS := hide hp
  have HMS := hide hms
  have HBA := hide hb
  obtain ⟨N, hN⟩ : ∃ N, M.length = N := ⟨_, rfl⟩
  rw [hN] at hl HM HNR ⊢
  have HNN := hide hN
  clear hM hx hn hxl hml hp hms hb hN
  have HB := allocs_below w [.cells #[.int .i64 (x.mode : Int), .int .i64 (x.run : Int), .slice A n c, .int .i64 (x.rej : Int), .string ⟨(RT p).toArray⟩] 127]
  have K_x : Blk (allocs w [.cells #[.int .i64 (x.mode : Int), .int .i64 (x.run : Int), .slice A n c, .int .i64 (x.rej : Int), .string ⟨(RT p).toArray⟩] 127]) (w.heap.size + 0) 127 #[.int .i64 (x.mode : Int), .int .i64 (x.run : Int), .slice A n c, .int .i64 (x.rej : Int), .string ⟨(RT p).toArray⟩] := allocs_at w [.cells #[.int .i64 (x.mode : Int), .int .i64 (x.run : Int), .slice A n c, .int .i64 (x.rej : Int), .string ⟨(RT p).toArray⟩] 127] 0 rfl
  unfold allocs at HB K_x
  simp only [List.foldl_cons, List.foldl_nil] at HB K_x
  rw [Nat.add_zero] at K_x
  go_enter Tryz.func68, Tryz.ntmps68
  go_upto_region 1 with (fail)
  generalize (w.alloc (.cells #[.int .i64 (x.mode : Int), .int .i64 (x.run : Int), .slice A n c, .int .i64 (x.rej : Int), .string ⟨(RT p).toArray⟩] 127)) = w0 at *
  replace K_x := hide K_x
  replace HB := hide HB
  go_wp2_with fail
  go_loopg [5] N (fun z iv wr => ∃ j : Nat, iv = .int .i64 (j : Int) ∧ z + j = N ∧ Below w.heap.size w wr ∧ Blk wr w.heap.size 127 #[.int .i64 (x.mode : Int), .int .i64 (x.run : Int), .slice A n c, .int .i64 (x.rej : Int), .string ⟨(RT p).toArray⟩] ∧ ∀ (i : Nat) (y : Sw) (q : Rat), i < j → M[i]? = some (y, q) → y ≠ x)
  case atStart => exact ⟨0, rfl, rfl, HB.out, K_x.out, fun i y q hi => absurd hi (by omega)⟩
  case round =>
    clear K_x HB
    obtain ⟨j, rfl, hq, hb, hkx, hr⟩ := hrel
    obtain ⟨W1, rfl⟩ : ∃ W, W = wr := ⟨_, rfl⟩
    have HQ := hide hq
    have HB := hide hb
    have K_x := hide hkx
    have HR := hide hr
    have hj : j ≤ N := by omega
    have HM1 := hide (HM.out.below hb)
    have HX1 := hide (HX.out.below hb)
    clear hq hb hkx hr
    by_cases hlt : j < N
    · have hji : (j : Int) < (N : Int) := by omega
      have hj0 : (0 : Int) ≤ (j : Int) := by omega
      obtain ⟨⟨y, q⟩, hyq⟩ : ∃ y, M[j]? = some y := ⟨_, List.getElem?_eq_getElem (by rw [HNN.out]; exact hlt)⟩
      have HYQ := hide hyq
      obtain ⟨g, cap, hform, hbg, hgl⟩ := HM1.out.form (by rw [HNN.out]; omega)
      simp only [Value.slice.injEq] at hform
      obtain ⟨rfl, -, rfl⟩ := hform
      obtain ⟨A2, n2, c2, ⟨m0, m1, m2, m3, m4⟩, hsl, hnr, hfz⟩ := HM1.out.at hyq
      have HSL := hide hsl
      have HG := hide hgl
      have HBG := hide hbg
      have HFZ := hide hfz
      have HM4 := hide m4
      unfold tv at HM4
      clear hyq hsl hnr hgl hbg hfz m4
      have HSD := hide (fun (W : World) (a : SlL W (.slice A2 n2 c2) (bcl y.last)) (b : SlL W (.slice A n c) (bcl x.last)) => same55D_any W A2 A n2 n c2 c y x a b (HML.out _ (List.mem_of_getElem? HYQ.out)))
      by_cases hyx : y = x
      · have hd : decide (y = x) = true := decide_eq_true hyx
        rw [hd] at HSD
        have HYX := hide hyx
        clear hd hyx
        have x0 := (Blk.cell K_x.out 0).trans (rfl : _ = some (Value.int .i64 (x.mode : Int)))
        have x1 := (Blk.cell K_x.out 1).trans (rfl : _ = some (Value.int .i64 (x.run : Int)))
        have x2 := (Blk.cell K_x.out 2).trans (rfl : _ = some (Value.slice A n c))
        have x3 := (Blk.cell K_x.out 3).trans (rfl : _ = some (Value.int .i64 (x.rej : Int)))
        have x4 := (Blk.cell K_x.out 4).trans (rfl : _ = some (Value.string ⟨(RT p).toArray⟩))
        go_upto_region 4 with (fail)
        have SK : ∀ w', Below W1.heap.size W1 w' → Below W1.heap.size W1 w' ∧ w'.cell? ⟨w.heap.size, 0, none⟩ = some (.int .i64 (x.mode : Int)) ∧ w'.cell? ⟨w.heap.size, 1, none⟩ = some (.int .i64 (x.run : Int)) ∧ w'.cell? ⟨w.heap.size, 2, none⟩ = some (.slice A n c) ∧ w'.cell? ⟨w.heap.size, 3, none⟩ = some (.int .i64 (x.rej : Int)) ∧ w'.cell? ⟨w.heap.size, 4, none⟩ = some (.string ⟨(RT p).toArray⟩) ∧ w'.cell? ⟨g, j * 5, none⟩ = some (.int .i64 (y.mode : Int)) ∧ w'.cell? ⟨g, j * 5 + 1, none⟩ = some (.int .i64 (y.run : Int)) ∧ w'.cell? ⟨g, j * 5 + 2, none⟩ = some (.slice A2 n2 c2) ∧ w'.cell? ⟨g, j * 5 + 3, none⟩ = some (.int .i64 (y.rej : Int)) := fun w' h => ⟨h, (bcell h _ _ (block_lt_of_cell x0)).trans x0, (bcell h _ _ (block_lt_of_cell x1)).trans x1, (bcell h _ _ (block_lt_of_cell x2)).trans x2, (bcell h _ _ (block_lt_of_cell x3)).trans x3, (bcell h _ _ (block_lt_of_cell x4)).trans x4, (bcell h _ _ (block_lt_of_cell m0)).trans m0, (bcell h _ _ (block_lt_of_cell m1)).trans m1, (bcell h _ _ (block_lt_of_cell m2)).trans m2, (bcell h _ _ (block_lt_of_cell m3)).trans m3⟩
        go_region_held3 (fun w' => Below W1.heap.size W1 w' ∧ w'.cell? ⟨w.heap.size, 0, none⟩ = some (.int .i64 (x.mode : Int)) ∧ w'.cell? ⟨w.heap.size, 1, none⟩ = some (.int .i64 (x.run : Int)) ∧ w'.cell? ⟨w.heap.size, 2, none⟩ = some (.slice A n c) ∧ w'.cell? ⟨w.heap.size, 3, none⟩ = some (.int .i64 (x.rej : Int)) ∧ w'.cell? ⟨w.heap.size, 4, none⟩ = some (.string ⟨(RT p).toArray⟩) ∧ w'.cell? ⟨g, j * 5, none⟩ = some (.int .i64 (y.mode : Int)) ∧ w'.cell? ⟨g, j * 5 + 1, none⟩ = some (.int .i64 (y.run : Int)) ∧ w'.cell? ⟨g, j * 5 + 2, none⟩ = some (.slice A2 n2 c2) ∧ w'.cell? ⟨g, j * 5 + 3, none⟩ = some (.int .i64 (y.rej : Int))) (first | exact SK _ (Below.refl _ _).drew | exact SK _ (Below.refl _ _) | exact SK _ (bel_next (by assumption) (by assumption) (Nat.le_refl _)))
          (first
            | (go_at_call 24; refine (HSD.out _ (HSL.out.below ((Below.refl _ _).drew)) (HX1.out.below ((Below.refl _ _).drew))).mono ?_; rintro e wx ⟨rfl, hbW⟩))
        obtain ⟨hb9, _⟩ : Below W1.heap.size W1 wx ∧ _ := by assumption
        clear SK
        have HM9 := hide (HM1.out.below hb9)
        have m9 := (bcell hb9 _ _ (block_lt_of_cell HM4.out)).trans HM4.out
        have hf9 : wx.frozen? ⟨g, j * 5 + 4, none⟩ = false := (World.frozen?_of_block (hb9.block g HG.out)).trans HFZ.out
        have HG9 := hide (show g < wx.heap.size by have := HG.out; have := hb9.size; omega)
        clear x0 x1 x2 x3 x4
        replace K_x := hide (Blk.below K_x.out hb9 (Blk.lt K_x.out))
        replace HB := hide (HB.out.trans (hb9.mono HB.out.size))
        clear hb9
        clear m0 m1 m2 m3 HM4 HFZ HSD
        have x0 := (Blk.cell K_x.out 0).trans (rfl : _ = some (Value.int .i64 (x.mode : Int)))
        have x1 := (Blk.cell K_x.out 1).trans (rfl : _ = some (Value.int .i64 (x.run : Int)))
        have x2 := (Blk.cell K_x.out 2).trans (rfl : _ = some (Value.slice A n c))
        have x3 := (Blk.cell K_x.out 3).trans (rfl : _ = some (Value.int .i64 (x.rej : Int)))
        have x4 := (Blk.cell K_x.out 4).trans (rfl : _ = some (Value.string ⟨(RT p).toArray⟩))
        have HPL := hide (fun (W : World) => rqplus_any W ⟨(RT q).toArray⟩ ⟨(RT p).toArray⟩ q p rfl rfl (m := 500) (by omega) (HMS.out _ (List.mem_of_getElem? HYQ.out)) HPS.out)
        go_upto_region 5 with (fail)
        go_region_with (refine (HPL.out _).mono ?_; rintro e wy ⟨rfl, hbW⟩; have hby : Below wx.heap.size wx wy := ((Below.refl _ wx).drew).trans hbW; have my := (bcell hby _ _ (block_lt_of_cell m9)).trans m9; have hfy : wy.frozen? ⟨g, j * 5 + 4, none⟩ = false := (World.frozen?_of_block (hby.block g HG9.out)).trans hf9; go_wp2_with fail)
        all_goals (
          have HMY := hide (HM9.out.below hby)
          have HBY := hide (HB.out.trans (hby.mono HB.out.size))
          go_wp2_with fail
          go_ret
          exact ⟨_, _, rfl, .inr ⟨j, q, by rw [HYQ.out, HYX.out], rfl⟩, by rw [← HYX.out]; exact HMY.out.put HYQ.out (q + p), (only_of_below HBY.out _).trans (only_setCell (only_refl wy (some g)) (.inl rfl) _), .inl rfl⟩
        )
      · have hd : decide (y = x) = false := decide_eq_false hyx
        rw [hd] at HSD
        have HYX := hide hyx
        clear hd hyx
        have x0 := (Blk.cell K_x.out 0).trans (rfl : _ = some (Value.int .i64 (x.mode : Int)))
        have x1 := (Blk.cell K_x.out 1).trans (rfl : _ = some (Value.int .i64 (x.run : Int)))
        have x2 := (Blk.cell K_x.out 2).trans (rfl : _ = some (Value.slice A n c))
        have x3 := (Blk.cell K_x.out 3).trans (rfl : _ = some (Value.int .i64 (x.rej : Int)))
        have x4 := (Blk.cell K_x.out 4).trans (rfl : _ = some (Value.string ⟨(RT p).toArray⟩))
        go_upto_region 4 with (fail)
        have SK : ∀ w', Below W1.heap.size W1 w' → Below W1.heap.size W1 w' ∧ w'.cell? ⟨w.heap.size, 0, none⟩ = some (.int .i64 (x.mode : Int)) ∧ w'.cell? ⟨w.heap.size, 1, none⟩ = some (.int .i64 (x.run : Int)) ∧ w'.cell? ⟨w.heap.size, 2, none⟩ = some (.slice A n c) ∧ w'.cell? ⟨w.heap.size, 3, none⟩ = some (.int .i64 (x.rej : Int)) ∧ w'.cell? ⟨w.heap.size, 4, none⟩ = some (.string ⟨(RT p).toArray⟩) ∧ w'.cell? ⟨g, j * 5, none⟩ = some (.int .i64 (y.mode : Int)) ∧ w'.cell? ⟨g, j * 5 + 1, none⟩ = some (.int .i64 (y.run : Int)) ∧ w'.cell? ⟨g, j * 5 + 2, none⟩ = some (.slice A2 n2 c2) ∧ w'.cell? ⟨g, j * 5 + 3, none⟩ = some (.int .i64 (y.rej : Int)) := fun w' h => ⟨h, (bcell h _ _ (block_lt_of_cell x0)).trans x0, (bcell h _ _ (block_lt_of_cell x1)).trans x1, (bcell h _ _ (block_lt_of_cell x2)).trans x2, (bcell h _ _ (block_lt_of_cell x3)).trans x3, (bcell h _ _ (block_lt_of_cell x4)).trans x4, (bcell h _ _ (block_lt_of_cell m0)).trans m0, (bcell h _ _ (block_lt_of_cell m1)).trans m1, (bcell h _ _ (block_lt_of_cell m2)).trans m2, (bcell h _ _ (block_lt_of_cell m3)).trans m3⟩
        go_region_held3 (fun w' => Below W1.heap.size W1 w' ∧ w'.cell? ⟨w.heap.size, 0, none⟩ = some (.int .i64 (x.mode : Int)) ∧ w'.cell? ⟨w.heap.size, 1, none⟩ = some (.int .i64 (x.run : Int)) ∧ w'.cell? ⟨w.heap.size, 2, none⟩ = some (.slice A n c) ∧ w'.cell? ⟨w.heap.size, 3, none⟩ = some (.int .i64 (x.rej : Int)) ∧ w'.cell? ⟨w.heap.size, 4, none⟩ = some (.string ⟨(RT p).toArray⟩) ∧ w'.cell? ⟨g, j * 5, none⟩ = some (.int .i64 (y.mode : Int)) ∧ w'.cell? ⟨g, j * 5 + 1, none⟩ = some (.int .i64 (y.run : Int)) ∧ w'.cell? ⟨g, j * 5 + 2, none⟩ = some (.slice A2 n2 c2) ∧ w'.cell? ⟨g, j * 5 + 3, none⟩ = some (.int .i64 (y.rej : Int))) (first | exact SK _ (Below.refl _ _).drew | exact SK _ (Below.refl _ _) | exact SK _ (bel_next (by assumption) (by assumption) (Nat.le_refl _)))
          (first
            | (go_at_call 24; refine (HSD.out _ (HSL.out.below ((Below.refl _ _).drew)) (HX1.out.below ((Below.refl _ _).drew))).mono ?_; rintro e wx ⟨rfl, hbW⟩))
        obtain ⟨hb9, _⟩ : Below W1.heap.size W1 wx ∧ _ := by assumption
        clear SK
        clear x0 x1 x2 x3 x4
        replace K_x := hide (Blk.below K_x.out hb9 (Blk.lt K_x.out))
        replace HB := hide (HB.out.trans (hb9.mono HB.out.size))
        clear hb9
        go_wp2_with fail
        go_roundg (gk - 1)
        case measure => have := HQ.out; omega
        case rel => exact ⟨j + 1, by go_num, by have := HQ.out; omega, HB.out, K_x.out, fun i z u hi hz => by
  rcases (by omega : i < j ∨ i = j) with h | h
  · exact HR.out i z u h hz
  · subst h; rw [HYQ.out] at hz; cases hz; exact HYX.out⟩
    · have hji : ¬ (j : Int) < (N : Int) := by omega
      have hjn : j = N := by omega
      subst hjn
      obtain ⟨xs, hown, hxl, hfx⟩ := HM1.out.facts
      rw [HNN.out] at hown
      have HFX := hide hfx
      have HXSL := hide hxl
      clear hfx hxl
      have x0 := (Blk.cell K_x.out 0).trans (rfl : _ = some (Value.int .i64 (x.mode : Int)))
      have x1 := (Blk.cell K_x.out 1).trans (rfl : _ = some (Value.int .i64 (x.run : Int)))
      have x2 := (Blk.cell K_x.out 2).trans (rfl : _ = some (Value.slice A n c))
      have x3 := (Blk.cell K_x.out 3).trans (rfl : _ = some (Value.int .i64 (x.rej : Int)))
      have x4 := (Blk.cell K_x.out 4).trans (rfl : _ = some (Value.string ⟨(RT p).toArray⟩))
      have hba : base ≤ W1.heap.size := by have := HBA.out; have := HB.out.size; omega
      go_wp2_with (at_builtin; refine wpList_append_lies _ rfl _ _ 128 rfl base 127 i0 (.agg #[.int .i64 0, .int .i64 0, .slice none 0 0, .int .i64 0, .string ⟨#[]⟩]) 5 64 Tryz.underlying128 hi hz0 hz1 hz2 rfl (by decide) _ j xs rfl (hown.alloc _) ⟨W1.heap.size, 0, none⟩ 1 1 [.int .i64 (x.mode : Int), .int .i64 (x.run : Int), .slice A n c, .int .i64 (x.rej : Int), .string ⟨(RT p).toArray⟩] rfl rfl (World.news_of_block (cs := #[.int .i64 (x.mode : Int), .int .i64 (x.run : Int), .slice A n c, .int .i64 (x.rej : Int), .string ⟨(RT p).toArray⟩]) (heap_alloc_new _ _)) (by intro u hu; simp at hu; rcases hu with rfl | rfl | rfl | rfl | rfl <;> rfl) (by omega) (by unfold maxLen; omega) (by omega) (by simp; omega) (W1.heap.size + 1) (by simp) ?_; intro g9 cap9 w9 hown9 hgrow9 hat9 hlt9)
      have hgr := (only_alloc (only_refl W1 (Value.slice A0 j cap0).ownBlock) (.cells #[.int .i64 (x.mode : Int), .int .i64 (x.run : Int), .slice A n c, .int .i64 (x.rej : Int), .string ⟨(RT p).toArray⟩] 127)).trans hgrow9
      go_wp2_with fail
      go_ret
      refine ⟨_, M ++ [(x, p)], rfl, .inl ⟨fun y hy e => ?_, by rw [show (0 : Rat) + p = p by grind]⟩, ?_, (only_of_below HB.out _).trans hgr, hat9.imp (fun e => e.symm) fun e => ⟨g9, rfl, by have := HB.out.size; omega⟩⟩
      · obtain ⟨i, hi2⟩ := List.mem_iff_getElem?.1 hy
        exact HR.out i y.1 y.2 (by have := (List.getElem?_eq_some_iff.1 hi2).1; rw [HNN.out] at this; exact this) hi2 e
      · have hs := ChR.snoc (w := W1) (w' := w9) (base := base) (g := g9) (cap := cap9) (H := W1.heap.size + 1) (v := .slice A0 j cap0) (L := M) (x := x) (p := p) (A := A) (n := n) (c := c) (xs := xs) HFX.out HXSL.out HX1.out HNR.out hgr hat9 (by omega) (by rw [HNN.out]; exact hown9)
        rw [HNN.out] at hs
        exact hs
end Go.Proofs.YthmmgjieppknkaaGreatDoor
