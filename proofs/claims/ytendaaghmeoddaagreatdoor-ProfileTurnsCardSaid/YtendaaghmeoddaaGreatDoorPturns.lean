/- ProfileTurns: the walk. -/
import Derived.Test.YtendaaghmeoddaaGreatDoorPsides
import Derived.Test.YtendaaghmeoddaaGreatDoorPtsl
import Derived.Test.YtendaaghmeoddaaGreatDoorPturnf
namespace Go.Proofs.YtendaaghmeoddaaGreatDoor
open Go.RowKit MLab

set_option maxRecDepth 100000 in
set_option maxHeartbeats 8000000 in
theorem turns37_any (w : World) (A : Option Addr) (c : Nat) (L : List S2) (hcap : L.length ≤ c) (hv : Pts w (.slice A L.length c) L) (px py t : Int) (ht : 0 ≤ t ∧ t < 256) (hs : Std w) :
    Calls Tryz.prog 8 #[.slice A L.length c, .agg #[.int .i64 px, .int .i64 py], .int .u8 t] w fun e w' => e = .returned (.bool true) ∧ Below w.heap.size w w' := by
  have HV := hide hv
  have HS := hide hs
  have h64 : IntKind.i64.wrap t = t := IntWalk.i64_in _ (by omega)
  clear hv hs
  have HB := allocs_below w [.cells #[.int .i64 px, .int .i64 py] 24]
  have K_p : Blk (allocs w [.cells #[.int .i64 px, .int .i64 py] 24]) (w.heap.size + 0) 24 #[.int .i64 px, .int .i64 py] := allocs_at w [.cells #[.int .i64 px, .int .i64 py] 24] 0 rfl
  unfold allocs at HB K_p
  simp only [List.foldl_cons, List.foldl_nil] at HB K_p
  rw [Nat.add_zero] at K_p
  by_cases hr : L.length ≤ 8 ∧ chkP L true = 0
  · by_cases hp : Co px ∧ Co py
    · skip
      obtain ⟨h8, hck⟩ := id hr
      obtain ⟨h3, _, _, _⟩ := chkP_true hck
      have hl0 : 0 < L.length := by omega
      have hL : L.length ≤ 1000000000000 := by omega
      obtain ⟨b, off, rfl, hcell⟩ : ∃ b off, A = some ⟨b, off, none⟩ ∧ PtsA w ⟨b, off, none⟩ L := by
        obtain ⟨A', c', hv', hc⟩ := HV.out
        cases hv'
        obtain ⟨b, off, rfl, h⟩ := hc hl0
        exact ⟨b, off, rfl, PtsA.of h⟩
      obtain ⟨k, hk, hkt⟩ : ∃ k : Nat, k < L.length ∧ t.tmod (L.length : Int) = (k : Int) := by
        refine ⟨t.toNat % L.length, Nat.mod_lt _ hl0, ?_⟩
        rw [Int.tmod_eq_emod_of_nonneg ht.1, Int.natCast_emod, Int.toNat_of_nonneg ht.1]
      obtain ⟨s, z, i0, i1, i2, i3, hs3, hz, fi0, fn0, fi1, fn1, fi2, fn2, fi3, fn3⟩ := turns_facts hck hp hk
      have ck1 := rot_chk hck hk
      have hd := hide (decide_eq_true hr)
      have hdp := hide (decide_eq_true hp)
      have hl1 : (L.length : Int) ≠ 0 := by omega
      have hl2 : ¬ (L.length : Int) = 0 := by omega
      have hk0 : (0 : Int) ≤ (k : Int) := by omega
      have hkl : (k : Int) ≤ (L.length : Int) := by omega
      have hkc : (k : Int) ≤ (c : Int) := by omega
      have hlc : (L.length : Int) ≤ (c : Int) := by omega
      have hkln : k ≤ L.length := by omega
      have hkcn : k ≤ c := by omega
      have hkne : ¬ c = k := by omega
      have FI0 := hide fi0
      have FN0 := hide fn0
      have FI1 := hide fi1
      have FN1 := hide fn1
      have FI2 := hide fi2
      have FN2 := hide fn2
      have FI3 := hide fi3
      have FN3 := hide fn3
      have HPA := hide hcell
      clear hr hp hck ck1 fi0 fn0 fi1 fn1 fi2 fn2 fi3 fn3 hcell
      go_enter Tryz.func8, Tryz.ntmps8
      go_upto_region 1 with (fail)
      generalize (w.alloc (.cells #[.int .i64 px, .int .i64 py] 24)) = w0 at *
      replace K_p := hide K_p
      replace HB := hide HB
      go_wp2_with fail
      refine (right37_any _ _ L (HV.out.below HB.out)).mono ?_
      rw [hd.out]
      rintro e w1 ⟨rfl, hb⟩
      replace K_p := hide (Blk.below K_p.out hb (Blk.lt K_p.out))
      replace HB := hide (HB.out.trans (hb.mono HB.out.size))
      clear hb
      have p0 := (Blk.cell K_p.out 0).trans (rfl : _ = some (Value.int .i64 px))
      have p1 := (Blk.cell K_p.out 1).trans (rfl : _ = some (Value.int .i64 py))
      go_wp2_with fail
      refine (rright_any _ px py).mono ?_
      rw [hdp.out]
      rintro e w2 ⟨rfl, hb⟩
      clear p0 p1
      replace K_p := hide (Blk.below K_p.out hb (Blk.lt K_p.out))
      replace HB := hide (HB.out.trans (hb.mono HB.out.size))
      clear hb
      have PD : ∀ W', Below w2.heap.size w2 W' → PtsA W' ⟨b, off + k * 2, none⟩ (L.drop k) := fun W' h => (((HPA.out.drop k).below HB.out).below h)
      have PT : ∀ W', Below w2.heap.size w2 W' → PtsA W' ⟨b, off, none⟩ (L.take k) := fun W' h => (((HPA.out.take k).below HB.out).below h)
      have E1 : Hid (L.length - k = (L.drop k).length) := hide (by simp)
      have E2 : Hid (k = (L.take k).length) := hide (by simp; omega)
      go_upto_region 4 with (fail)
      go_region_held3 (fun w' => Below w2.heap.size w2 w') (first | exact (Below.refl _ _).drew | exact Below.refl _ _ | exact ((Below.refl _ _).alloc (Nat.le_refl _) _).drew | exact (Below.refl _ _).alloc (Nat.le_refl _) _ | exact ((Below.refl _ _).alloc (Nat.le_refl _) _).drew.trans (Below.mono hbW (by simp)))
        (first
          | (go_at_call 33; refine (conc37_any _ _ _ _ _ _ _ _ _ _ (L.drop k) (L.take k) E1.out E2.out (Blk.drew (Blk.new _ _ _)) (PD _ ((Below.refl _ _).alloc (Nat.le_refl _) _).drew) (PT _ ((Below.refl _ _).alloc (Nat.le_refl _) _).drew) (by simp; omega) (by simp; omega) (by simp; omega)).mono ?_; rintro e wx ⟨⟨u, rfl, hu⟩, hbW⟩))
      obtain ⟨hbx, _⟩ : Below w2.heap.size w2 wx ∧ True := ⟨by assumption, trivial⟩
      have HU : Hid (Pts wx u (rotL k L)) := hide hu
      obtain ⟨A1, c1, hv1, _⟩ := id hu
      have hv2 : u = .slice A1 L.length c1 := by rw [hv1]; congr 1; exact rot_length hk
      subst hv2
      clear hv1 hu hbW PD PT
      replace K_p := hide (Blk.below K_p.out hbx (Blk.lt K_p.out))
      replace HB := hide (HB.out.trans (hbx.mono HB.out.size))
      clear hbx
      have p0 := (Blk.cell K_p.out 0).trans (rfl : _ = some (Value.int .i64 px))
      have p1 := (Blk.cell K_p.out 1).trans (rfl : _ = some (Value.int .i64 py))
      go_wp2_with fail
      refine (clone37_any _ ⟨b, off, none⟩ c L (HPA.out.below HB.out) (by omega)).mono ?_
      rintro e w4 ⟨⟨u2, rfl, ho2⟩, hb4⟩
      obtain ⟨g, cap, rfl, hgb, _⟩ := ho2.form hl0
      have HO2 := hide ho2
      have HB4 := hide hb4
      clear ho2 hb4
      clear p0 p1
      go_wp2_with fail
      refine (rev37_any _ wx.heap.size g cap L.length L HO2.out hl0 (by omega)).mono ?_
      rintro e w5 ⟨rfl, ho5, hb5⟩
      have hbc := HB4.out.trans (hb5.mono hgb)
      have HO5 := hide (own_pts ho5)
      replace HU := hide (HU.out.below hbc)
      clear ho5 hb5
      replace K_p := hide (Blk.below K_p.out hbc (Blk.lt K_p.out))
      replace HB := hide (HB.out.trans (hbc.mono HB.out.size))
      clear hbc
      clear HB4 HO2
      obtain ⟨i0t, hit, hz0, hz1, hz2⟩ := info_parts (info_pt)
      have HBL := HB
      go_wp2_with fail
      go_loopg [10, 54] L.length (fun q sv iv wr => ∃ j : Nat, iv = .int .i64 (j : Int) ∧ q + j = L.length ∧ wr.ownsRow w5.heap.size 24 2 sv j (ptl ((L.map sw).take j)) ∧ Below w5.heap.size w5 wr)
      case atStart => exact ⟨0, rfl, rfl, World.ownsRow_nil _ _ _ _, Below.refl _ _⟩
      case round =>
        obtain ⟨j, rfl, hq, ho, hb⟩ := hrel
        have HQ := hide hq
        have HO := hide ho
        have HB6 := hide hb
        have hjle : j ≤ L.length := by omega
        clear hq ho hb
        by_cases hlt : j < L.length
        · have hji : (j : Int) < (L.length : Int) := by omega
          have hj0 : (0 : Int) ≤ (j : Int) := by omega
          obtain ⟨x1, x2, hx⟩ : ∃ u v, gP L j = (u, v) := ⟨_, _, rfl⟩
          have hpa := HPA.out.below (HBL.out.trans (HB6.out.mono HBL.out.size))
          obtain ⟨g0, g1⟩ := ptl_get L j _ (gP_eq hlt)
          rw [hx] at g0 g1
          have a0 : wr.cell? ⟨b, off + j * 2, none⟩ = some (.int .i64 x1) := by have := hpa _ _ g0; rwa [Addr.add_lit] at this
          have a1 : wr.cell? ⟨b, off + j * 2 + 1, none⟩ = some (.int .i64 x2) := by have := hpa _ _ g1; rwa [Addr.add_lit] at this
          have HT : Hid (ptl ((L.map sw).take j) ++ [.int .i64 x2, .int .i64 x1] = ptl ((L.map sw).take (j + 1))) := hide (by
            rw [List.take_add_one, List.getElem?_map, gP_eq hlt, hx, ptl_append]; rfl)
          clear hpa g0 g1 hx
          go_wp2_with fail
          refine (at37_any _ x2 x1).mono ?_
          rintro e w7 ⟨rfl, hb7⟩
          have hsz := HB6.out.size
          have hba := (allocs_below wr [.cells #[.int .i64 x1, .int .i64 x2] 24]).trans (hb7.mono (by simp))
          have HO7 := hide (owns_below HO.out hba)
          have HB7 := hide (HB6.out.trans (hba.mono hsz))
          have h7 := HB7.out.size
          clear hb7 hba a0 a1
          go_wp2_with (at_builtin; refine wpList_append_own _ rfl _ _ 22 rfl w5.heap.size 24 i0t (.agg #[.int .i64 0, .int .i64 0]) 2 16 Tryz.underlying22 hit hz0 hz1 hz2 rfl (by decide) _ _ _ rfl (HO7.out.alloc _) ⟨w7.heap.size, 0, none⟩ 1 1 [.int .i64 x2, .int .i64 x1] rfl rfl ?d1 ?d2 ?d3 ?d4 ?d5 ?_)
          case d1 => exact World.news_of_block (cs := #[.int .i64 x2, .int .i64 x1]) (heap_alloc_new w7 _)
          case d2 => intro u hu; simp at hu; rcases hu with rfl | rfl <;> rfl
          case d3 => unfold maxLen; omega
          case d4 => omega
          case d5 => simp; omega
          intro v' w8 hown' hgrow _
          rw [HT.out] at hown'
          have HB8 := hide (bel_grow2 HB7.out HO7.out h7 hgrow)
          have HO8 := hide hown'
          clear hown' hgrow
          go_wp2_with fail
          go_roundg (gk - 1)
          case measure => have := HQ.out; omega
          case rel => exact ⟨j + 1, by go_num, by have := HQ.out; omega, HO8.out, HB8.out⟩
        · have hji : ¬ (j : Int) < (L.length : Int) := by omega
          obtain rfl : j = L.length := by omega
          have hms : ptl ((L.map sw).take L.length) = ptl (L.map sw) := by rw [List.take_of_length_le (by simp)]
          have ho := HO.out
          rw [hms] at ho
          obtain ⟨gs, caps, rfl, _, _⟩ := ho.form hl0
          have HSW := hide (own_pts ho)
          have hb6 := HB6.out
          clear ho hms HO HB6 HQ
          skip
          replace HU := hide (HU.out.below hb6)
          replace HO5 := hide (HO5.out.below hb6)
          replace K_p := hide (Blk.below K_p.out hb6 (Blk.lt K_p.out))
          replace HB := hide (HB.out.trans (hb6.mono HB.out.size))
          clear hb6
          clear HBL
          have p0 := (Blk.cell K_p.out 0).trans (rfl : _ = some (Value.int .i64 px))
          have p1 := (Blk.cell K_p.out 1).trans (rfl : _ = some (Value.int .i64 py))
          go_wp2_with fail
          refine (pin_any _ _ L px py (HV.out.below HB.out) hL (HS.out.below HB.out (Nat.le_refl _))).mono ?_
          rw [FI0.out]
          rintro e w9 ⟨rfl, hb⟩
          replace HU := hide (HU.out.below hb)
          replace HO5 := hide (HO5.out.below hb)
          replace HSW := hide (HSW.out.below hb)
          clear p0 p1
          replace K_p := hide (Blk.below K_p.out hb (Blk.lt K_p.out))
          replace HB := hide (HB.out.trans (hb.mono HB.out.size))
          clear hb
          have p0 := (Blk.cell K_p.out 0).trans (rfl : _ = some (Value.int .i64 px))
          have p1 := (Blk.cell K_p.out 1).trans (rfl : _ = some (Value.int .i64 py))
          go_wp2_with fail
          refine (pne_any _ _ L true px py (HV.out.below HB.out) hL (HS.out.below HB.out (Nat.le_refl _))).mono ?_
          rw [FN0.out]
          rintro e wa ⟨rfl, hb⟩
          replace HU := hide (HU.out.below hb)
          replace HO5 := hide (HO5.out.below hb)
          replace HSW := hide (HSW.out.below hb)
          clear p0 p1
          replace K_p := hide (Blk.below K_p.out hb (Blk.lt K_p.out))
          replace HB := hide (HB.out.trans (hb.mono HB.out.size))
          clear hb
          obtain ⟨D, hD⟩ : ∃ D, decide (s = 0) = D := ⟨_, rfl⟩
          rw [hD] at hz
          have hsD : (s == 0) = D := hD
          have hs1 : ¬ s < -1 := by omega
          have hs2 : ¬ 1 < s := by omega
          clear hD hs3
          have hkm := Blk.new wa 22 #[.slice A1 L.length c1, .slice (some ⟨g, 0, none⟩) L.length cap, .slice (some ⟨gs, 0, none⟩) L.length caps]
          have HKM := hide hkm
          clear hkm
          have HBA := HB
          have HUA := HU
          have HOA := HO5
          have HSA := HSW
          go_wp2_with fail
          go_loopg [106] 3 (fun q iv wr => ∃ j : Nat, iv = .int .i64 (j : Int) ∧ q + j = 3 ∧ Blk wr wa.heap.size 22 #[.slice A1 L.length c1, .slice (some ⟨g, 0, none⟩) L.length cap, .slice (some ⟨gs, 0, none⟩) L.length caps] ∧ Below wa.heap.size wa wr)
          case atStart => exact ⟨0, rfl, rfl, HKM.out, (Below.refl _ _).alloc (Nat.le_refl _) _⟩
          case round =>
            obtain ⟨j, rfl, hq, hkm, hb⟩ := hrel
            have HQ := hide hq
            have K_m := hide hkm
            have hj : j = 0 ∨ j = 1 ∨ j = 2 ∨ j = 3 := by omega
            clear hq hkm HKM
            have HB2 := hide hb
            replace K_p := hide (Blk.below K_p.out hb (Blk.lt K_p.out))
            replace HB := hide (HB.out.trans (hb.mono HB.out.size))
            replace HU := hide (HU.out.below hb)
            replace HO5 := hide (HO5.out.below hb)
            replace HSW := hide (HSW.out.below hb)
            clear hb
            rcases hj with rfl | rfl | rfl | rfl
            · skip
              have hji : ((0 : Nat) : Int) < 3 := by decide
              have hlen : (rotL k L).length ≤ 1000000000000 := by rw [rot_length hk]; omega
              have m0 := (Blk.cell K_m.out 0).trans (rfl : _ = some (Value.slice A1 L.length c1))
              have m1 := (Blk.cell K_m.out 1).trans (rfl : _ = some (Value.slice (some ⟨g, 0, none⟩) L.length cap))
              have m2 := (Blk.cell K_m.out 2).trans (rfl : _ = some (Value.slice (some ⟨gs, 0, none⟩) L.length caps))
              have p0 := (Blk.cell K_p.out 0).trans (rfl : _ = some (Value.int .i64 px))
              have p1 := (Blk.cell K_p.out 1).trans (rfl : _ = some (Value.int .i64 py))
              go_upto_region 23 with (fail)
              clear m0 m1 m2 p0 p1
              have lt_q_p : w.heap.size < wr.heap.size := Blk.lt K_p.out
              have lt_q_m : wa.heap.size < wr.heap.size := Blk.lt K_m.out
              replace K_p := K_p.out.alloc (.cells #[.int .i64 px, .int .i64 py] 24)
              replace K_m := K_m.out.alloc (.cells #[.int .i64 px, .int .i64 py] 24)
              replace HB := HB.out.alloc HB.out.size (.cells #[.int .i64 px, .int .i64 py] 24)
              have K_q := Blk.new wr 24 #[.int .i64 px, .int .i64 py]
              replace HU := HU.out.below ((Below.refl wr.heap.size wr).alloc (Nat.le_refl _) (.cells #[.int .i64 px, .int .i64 py] 24))
              replace HB2 := HB2.out.alloc HB2.out.size (.cells #[.int .i64 px, .int .i64 py] 24)
              generalize wr.alloc (.cells #[.int .i64 px, .int .i64 py] 24) = wq at *
              replace K_p := hide K_p
              replace K_m := hide K_m
              replace K_q := hide K_q
              replace HB := hide HB
              replace HU := hide HU
              replace HB2 := hide HB2
              have q0 := (Blk.cell K_q.out 0).trans (rfl : _ = some (Value.int .i64 px))
              have q1 := (Blk.cell K_q.out 1).trans (rfl : _ = some (Value.int .i64 py))
              go_wp2_with fail
              refine (pin_any _ _ (rotL k L) px py HU.out hlen (HS.out.below HB.out (Nat.le_refl _))).mono ?_
              rw [FI1.out]
              rintro e w12 ⟨rfl, hb12⟩
              clear q0 q1
              replace K_p := hide (Blk.below K_p.out hb12 (Blk.lt K_p.out))
              replace K_m := hide (Blk.below K_m.out hb12 (Blk.lt K_m.out))
              replace K_q := hide (Blk.below K_q.out hb12 (Blk.lt K_q.out))
              replace HB := hide (HB.out.trans (hb12.mono HB.out.size))
              replace HU := hide (HU.out.below hb12)
              replace HB2 := hide (HB2.out.trans (hb12.mono HB2.out.size))
              clear hb12
              have q0 := (Blk.cell K_q.out 0).trans (rfl : _ = some (Value.int .i64 px))
              have q1 := (Blk.cell K_q.out 1).trans (rfl : _ = some (Value.int .i64 py))
              go_wp2_with fail
              refine (pne_any _ _ (rotL k L) true px py HU.out hlen (HS.out.below HB.out (Nat.le_refl _))).mono ?_
              rw [FN1.out]
              rintro e w13 ⟨rfl, hb13⟩
              clear q0 q1
              replace K_p := hide (Blk.below K_p.out hb13 (Blk.lt K_p.out))
              replace K_m := hide (Blk.below K_m.out hb13 (Blk.lt K_m.out))
              replace K_q := hide (Blk.below K_q.out hb13 (Blk.lt K_q.out))
              replace HB := hide (HB.out.trans (hb13.mono HB.out.size))
              replace HU := hide (HU.out.below hb13)
              replace HB2 := hide (HB2.out.trans (hb13.mono HB2.out.size))
              clear hb13
              go_wp2_with fail
              go_roundg (gk - 1)
              case measure => have := HQ.out; omega
              case rel => exact ⟨1, by go_num, by have := HQ.out; omega, K_m.out, HB2.out⟩
            · skip
              have hji : ((1 : Nat) : Int) < 3 := by decide
              have hlen : L.reverse.length ≤ 1000000000000 := by rw [List.length_reverse]; omega
              have m0 := (Blk.cell K_m.out 0).trans (rfl : _ = some (Value.slice A1 L.length c1))
              have m1 := (Blk.cell K_m.out 1).trans (rfl : _ = some (Value.slice (some ⟨g, 0, none⟩) L.length cap))
              have m2 := (Blk.cell K_m.out 2).trans (rfl : _ = some (Value.slice (some ⟨gs, 0, none⟩) L.length caps))
              have p0 := (Blk.cell K_p.out 0).trans (rfl : _ = some (Value.int .i64 px))
              have p1 := (Blk.cell K_p.out 1).trans (rfl : _ = some (Value.int .i64 py))
              go_upto_region 23 with (fail)
              clear m0 m1 m2 p0 p1
              have lt_q_p : w.heap.size < wr.heap.size := Blk.lt K_p.out
              have lt_q_m : wa.heap.size < wr.heap.size := Blk.lt K_m.out
              replace K_p := K_p.out.alloc (.cells #[.int .i64 px, .int .i64 py] 24)
              replace K_m := K_m.out.alloc (.cells #[.int .i64 px, .int .i64 py] 24)
              replace HB := HB.out.alloc HB.out.size (.cells #[.int .i64 px, .int .i64 py] 24)
              have K_q := Blk.new wr 24 #[.int .i64 px, .int .i64 py]
              replace HO5 := HO5.out.below ((Below.refl wr.heap.size wr).alloc (Nat.le_refl _) (.cells #[.int .i64 px, .int .i64 py] 24))
              replace HB2 := HB2.out.alloc HB2.out.size (.cells #[.int .i64 px, .int .i64 py] 24)
              generalize wr.alloc (.cells #[.int .i64 px, .int .i64 py] 24) = wq at *
              replace K_p := hide K_p
              replace K_m := hide K_m
              replace K_q := hide K_q
              replace HB := hide HB
              replace HO5 := hide HO5
              replace HB2 := hide HB2
              have q0 := (Blk.cell K_q.out 0).trans (rfl : _ = some (Value.int .i64 px))
              have q1 := (Blk.cell K_q.out 1).trans (rfl : _ = some (Value.int .i64 py))
              go_wp2_with fail
              refine (pin_any _ _ L.reverse px py HO5.out hlen (HS.out.below HB.out (Nat.le_refl _))).mono ?_
              rw [FI2.out]
              rintro e w12 ⟨rfl, hb12⟩
              clear q0 q1
              replace K_p := hide (Blk.below K_p.out hb12 (Blk.lt K_p.out))
              replace K_m := hide (Blk.below K_m.out hb12 (Blk.lt K_m.out))
              replace K_q := hide (Blk.below K_q.out hb12 (Blk.lt K_q.out))
              replace HB := hide (HB.out.trans (hb12.mono HB.out.size))
              replace HO5 := hide (HO5.out.below hb12)
              replace HB2 := hide (HB2.out.trans (hb12.mono HB2.out.size))
              clear hb12
              have q0 := (Blk.cell K_q.out 0).trans (rfl : _ = some (Value.int .i64 px))
              have q1 := (Blk.cell K_q.out 1).trans (rfl : _ = some (Value.int .i64 py))
              go_wp2_with fail
              refine (pne_any _ _ L.reverse true px py HO5.out hlen (HS.out.below HB.out (Nat.le_refl _))).mono ?_
              rw [FN2.out]
              rintro e w13 ⟨rfl, hb13⟩
              clear q0 q1
              replace K_p := hide (Blk.below K_p.out hb13 (Blk.lt K_p.out))
              replace K_m := hide (Blk.below K_m.out hb13 (Blk.lt K_m.out))
              replace K_q := hide (Blk.below K_q.out hb13 (Blk.lt K_q.out))
              replace HB := hide (HB.out.trans (hb13.mono HB.out.size))
              replace HO5 := hide (HO5.out.below hb13)
              replace HB2 := hide (HB2.out.trans (hb13.mono HB2.out.size))
              clear hb13
              go_wp2_with fail
              go_roundg (gk - 1)
              case measure => have := HQ.out; omega
              case rel => exact ⟨2, by go_num, by have := HQ.out; omega, K_m.out, HB2.out⟩
            · skip
              have hji : ((2 : Nat) : Int) < 3 := by decide
              have hlen : (L.map sw).length ≤ 1000000000000 := by rw [List.length_map]; omega
              have HBQ := hide (Below.refl wr.heap.size wr)
              have m0 := (Blk.cell K_m.out 0).trans (rfl : _ = some (Value.slice A1 L.length c1))
              have m1 := (Blk.cell K_m.out 1).trans (rfl : _ = some (Value.slice (some ⟨g, 0, none⟩) L.length cap))
              have m2 := (Blk.cell K_m.out 2).trans (rfl : _ = some (Value.slice (some ⟨gs, 0, none⟩) L.length caps))
              have p0 := (Blk.cell K_p.out 0).trans (rfl : _ = some (Value.int .i64 px))
              have p1 := (Blk.cell K_p.out 1).trans (rfl : _ = some (Value.int .i64 py))
              go_upto_region 22 with (fail)
              clear m0 m1 m2 p0 p1
              have lt_q_p : w.heap.size < wr.heap.size := Blk.lt K_p.out
              have lt_q_m : wa.heap.size < wr.heap.size := Blk.lt K_m.out
              replace K_p := K_p.out.alloc (.cells #[.int .i64 px, .int .i64 py] 24)
              replace K_m := K_m.out.alloc (.cells #[.int .i64 px, .int .i64 py] 24)
              replace HB := HB.out.alloc HB.out.size (.cells #[.int .i64 px, .int .i64 py] 24)
              have K_q := Blk.new wr 24 #[.int .i64 px, .int .i64 py]
              replace HB2 := HB2.out.alloc HB2.out.size (.cells #[.int .i64 px, .int .i64 py] 24)
              replace HBQ := HBQ.out.alloc HBQ.out.size (.cells #[.int .i64 px, .int .i64 py] 24)
              generalize wr.alloc (.cells #[.int .i64 px, .int .i64 py] 24) = wq at *
              replace K_p := hide K_p
              replace K_m := hide K_m
              replace K_q := hide K_q
              replace HB := hide HB
              replace HB2 := hide HB2
              replace HBQ := hide HBQ
              have p0 := (Blk.cell K_p.out 0).trans (rfl : _ = some (Value.int .i64 px))
              have p1 := (Blk.cell K_p.out 1).trans (rfl : _ = some (Value.int .i64 py))
              go_wp2_with fail
              refine (at37_any _ py px).mono ?_
              rintro e w11 ⟨rfl, hb11⟩
              clear p0 p1
              replace K_p := hide (Blk.below K_p.out hb11 (Blk.lt K_p.out))
              replace K_m := hide (Blk.below K_m.out hb11 (Blk.lt K_m.out))
              replace K_q := hide (Blk.below K_q.out hb11 (Blk.lt K_q.out))
              replace HB := hide (HB.out.trans (hb11.mono HB.out.size))
              replace HB2 := hide (HB2.out.trans (hb11.mono HB2.out.size))
              replace HBQ := hide (HBQ.out.trans (hb11.mono HBQ.out.size))
              clear hb11
              have q0 := (Blk.cell K_q.out 0).trans (rfl : _ = some (Value.int .i64 px))
              have qf0 := Blk.frozen K_q.out 0
              have q1 := (Blk.cell K_q.out 1).trans (rfl : _ = some (Value.int .i64 py))
              have qf1 := Blk.frozen K_q.out 1
              go_upto_region 23 with (fail)
              clear q0 qf0 q1 qf1
              replace K_p := K_p.out.far (p := ⟨wr.heap.size, 0, none⟩) (by show w.heap.size ≠ wr.heap.size; omega) (.int .i64 py)
              replace K_m := K_m.out.far (p := ⟨wr.heap.size, 0, none⟩) (by show wa.heap.size ≠ wr.heap.size; omega) (.int .i64 py)
              replace K_q : Blk (w11.setCell ⟨wr.heap.size, 0, none⟩ (.int .i64 py)) wr.heap.size 24 #[.int .i64 py, .int .i64 py] := K_q.out.set_ 0 (.int .i64 py)
              replace HB := HB.out.setCell (p := ⟨wr.heap.size, 0, none⟩) (by show w.heap.size ≤ wr.heap.size; omega) (.int .i64 py)
              replace HB2 := HB2.out.setCell (p := ⟨wr.heap.size, 0, none⟩) (by show wa.heap.size ≤ wr.heap.size; omega) (.int .i64 py)
              replace HBQ := HBQ.out.setCell (p := ⟨wr.heap.size, 0, none⟩) (by show wr.heap.size ≤ wr.heap.size; omega) (.int .i64 py)
              generalize w11.setCell ⟨wr.heap.size, 0, none⟩ (.int .i64 py) = wq1 at *
              replace K_p := hide K_p
              replace K_m := hide K_m
              replace K_q := hide K_q
              replace HB := hide HB
              replace HB2 := hide HB2
              replace HBQ := hide HBQ
              replace K_p := K_p.out.far (p := ⟨wr.heap.size, 1, none⟩) (by show w.heap.size ≠ wr.heap.size; omega) (.int .i64 px)
              replace K_m := K_m.out.far (p := ⟨wr.heap.size, 1, none⟩) (by show wa.heap.size ≠ wr.heap.size; omega) (.int .i64 px)
              replace K_q : Blk (wq1.setCell ⟨wr.heap.size, 1, none⟩ (.int .i64 px)) wr.heap.size 24 #[.int .i64 py, .int .i64 px] := K_q.out.set_ 1 (.int .i64 px)
              replace HB := HB.out.setCell (p := ⟨wr.heap.size, 1, none⟩) (by show w.heap.size ≤ wr.heap.size; omega) (.int .i64 px)
              replace HB2 := HB2.out.setCell (p := ⟨wr.heap.size, 1, none⟩) (by show wa.heap.size ≤ wr.heap.size; omega) (.int .i64 px)
              replace HBQ := HBQ.out.setCell (p := ⟨wr.heap.size, 1, none⟩) (by show wr.heap.size ≤ wr.heap.size; omega) (.int .i64 px)
              generalize wq1.setCell ⟨wr.heap.size, 1, none⟩ (.int .i64 px) = wq2 at *
              replace K_p := hide K_p
              replace K_m := hide K_m
              replace K_q := hide K_q
              replace HB := hide HB
              replace HB2 := hide HB2
              replace HBQ := hide HBQ
              replace HSW := hide (HSW.out.below HBQ.out)
              have q0 := (Blk.cell K_q.out 0).trans (rfl : _ = some (Value.int .i64 py))
              have q1 := (Blk.cell K_q.out 1).trans (rfl : _ = some (Value.int .i64 px))
              go_wp2_with fail
              refine (pin_any _ _ (L.map sw) py px HSW.out hlen (HS.out.below HB.out (Nat.le_refl _))).mono ?_
              rw [FI3.out]
              rintro e w12 ⟨rfl, hb12⟩
              clear q0 q1
              replace K_p := hide (Blk.below K_p.out hb12 (Blk.lt K_p.out))
              replace K_m := hide (Blk.below K_m.out hb12 (Blk.lt K_m.out))
              replace K_q := hide (Blk.below K_q.out hb12 (Blk.lt K_q.out))
              replace HB := hide (HB.out.trans (hb12.mono HB.out.size))
              replace HSW := hide (HSW.out.below hb12)
              replace HB2 := hide (HB2.out.trans (hb12.mono HB2.out.size))
              replace HBQ := hide (HBQ.out.trans (hb12.mono HBQ.out.size))
              clear hb12
              have q0 := (Blk.cell K_q.out 0).trans (rfl : _ = some (Value.int .i64 py))
              have q1 := (Blk.cell K_q.out 1).trans (rfl : _ = some (Value.int .i64 px))
              go_wp2_with fail
              refine (pne_any _ _ (L.map sw) true py px HSW.out hlen (HS.out.below HB.out (Nat.le_refl _))).mono ?_
              rw [FN3.out]
              rintro e w13 ⟨rfl, hb13⟩
              clear q0 q1
              replace K_p := hide (Blk.below K_p.out hb13 (Blk.lt K_p.out))
              replace K_m := hide (Blk.below K_m.out hb13 (Blk.lt K_m.out))
              replace K_q := hide (Blk.below K_q.out hb13 (Blk.lt K_q.out))
              replace HB := hide (HB.out.trans (hb13.mono HB.out.size))
              replace HSW := hide (HSW.out.below hb13)
              replace HB2 := hide (HB2.out.trans (hb13.mono HB2.out.size))
              replace HBQ := hide (HBQ.out.trans (hb13.mono HBQ.out.size))
              clear hb13
              go_wp2_with fail
              go_roundg (gk - 1)
              case measure => have := HQ.out; omega
              case rel => exact ⟨3, by go_num, by have := HQ.out; omega, K_m.out, HB2.out⟩
            · skip
              have hji : ¬ ((3 : Nat) : Int) < 3 := by decide
              go_wp2_with fail
              refine (awake_any _ (HS.out.below HB.out (Nat.le_refl _))).mono ?_
              rintro e w14 ⟨rfl, hb14⟩
              have HE := hide (HB.out.trans (hb14.mono HB.out.size))
              go_wp2_with fail
              go_ret
              exact ⟨rfl, HE.out⟩
    · skip
      have hd := hide (decide_eq_true hr)
      have hdp := hide (decide_eq_false hp)
      clear hr hp
      go_enter Tryz.func8, Tryz.ntmps8
      go_upto_region 1 with (fail)
      generalize (w.alloc (.cells #[.int .i64 px, .int .i64 py] 24)) = w0 at *
      replace K_p := hide K_p
      replace HB := hide HB
      go_wp2_with fail
      refine (right37_any _ _ L (HV.out.below HB.out)).mono ?_
      rw [hd.out]
      rintro e w1 ⟨rfl, hb⟩
      replace K_p := hide (Blk.below K_p.out hb (Blk.lt K_p.out))
      replace HB := hide (HB.out.trans (hb.mono HB.out.size))
      clear hb
      have p0 := (Blk.cell K_p.out 0).trans (rfl : _ = some (Value.int .i64 px))
      have p1 := (Blk.cell K_p.out 1).trans (rfl : _ = some (Value.int .i64 py))
      go_wp2_with fail
      refine (rright_any _ px py).mono ?_
      rw [hdp.out]
      rintro e w2 ⟨rfl, hb⟩
      clear p0 p1
      replace K_p := hide (Blk.below K_p.out hb (Blk.lt K_p.out))
      replace HB := hide (HB.out.trans (hb.mono HB.out.size))
      clear hb
      go_wp2_with fail
      refine (awake_any _ (HS.out.below HB.out (Nat.le_refl _))).mono ?_
      rintro e w3 ⟨rfl, hb⟩
      replace K_p := hide (Blk.below K_p.out hb (Blk.lt K_p.out))
      replace HB := hide (HB.out.trans (hb.mono HB.out.size))
      clear hb
      go_wp2_with fail
      go_ret
      exact ⟨rfl, HB.out⟩
  · skip
    have hd := hide (decide_eq_false hr)
    clear hr
    go_enter Tryz.func8, Tryz.ntmps8
    go_upto_region 1 with (fail)
    generalize (w.alloc (.cells #[.int .i64 px, .int .i64 py] 24)) = w0 at *
    replace K_p := hide K_p
    replace HB := hide HB
    go_wp2_with fail
    refine (right37_any _ _ L (HV.out.below HB.out)).mono ?_
    rw [hd.out]
    rintro e w1 ⟨rfl, hb⟩
    replace K_p := hide (Blk.below K_p.out hb (Blk.lt K_p.out))
    replace HB := hide (HB.out.trans (hb.mono HB.out.size))
    clear hb
    go_wp2_with fail
    refine (awake_any _ (HS.out.below HB.out (Nat.le_refl _))).mono ?_
    rintro e w2 ⟨rfl, hb⟩
    replace K_p := hide (Blk.below K_p.out hb (Blk.lt K_p.out))
    replace HB := hide (HB.out.trans (hb.mono HB.out.size))
    clear hb
    go_wp2_with fail
    go_ret
    exact ⟨rfl, HB.out⟩
end Go.Proofs.YtendaaghmeoddaaGreatDoor
