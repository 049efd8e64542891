/- plan.total: the sum of terms that a function says, divided; plan.accept. -/
import Derived.Test.YtaccdkbofhlbkaaGreatDoorPlch
import Derived.Shelf.Abstract
namespace Go.Proofs.YtaccdkbofhlbkaaGreatDoor
open Go.RowKit Go.Shelf MLab

theorem smallm {n m : Nat} (hm : m ≤ 1024) (h : n < 10 ^ m) : ((n : Nat) : Int).natAbs < Big := by
  have := pow_big hm
  rw [Int.natAbs_natCast]; omega

set_option maxRecDepth 100000 in
set_option maxHeartbeats 4000000 in
theorem total_any (w : World) (c m : Nat) (al : Int) (F : FuncId) (caps : Array Value) (hen : ∀ args w, (callFunc F args).run Tryz.prog w = .ok (.enter F args) w) (f : Nat → Nat)
    (hT : ∀ k, k ≤ c → ∀ W, Below w.heap.size w W → Calls Tryz.prog F (#[.int .i64 (k : Int)] ++ caps) W fun e W' => e = .returned (.tuple #[tx ((f k : Nat) : Int), .int .i64 0]) ∧ Below W.heap.size W W')
    (hm : m ≤ 1024) (hsm : sumN f (c + 1) < 10 ^ m) (h0 : al ≠ 0) (hal : al.natAbs < Big) (hc : c ≤ 1000) (hs : Std w) :
    Calls Tryz.prog 62 #[.int .i64 (c : Int), tx al, .func (.func F) #[] caps] w fun e w' => RetRat (Rat.divInt ((sumN f (c + 1) : Nat) : Int) al) e ∧ Below w.heap.size w w' := by
  have HS := hide hs
  have HT := hide hT
  have HM := hide hsm
  have HA := hide hal
  have hw : IntKind.i64.wrap ((c : Int) + 1) = ((c + 1 : Nat) : Int) := (IntWalk.i64_in _ (by omega)).trans (by omega)
  have H1 : Hid (Value.string ⟨#[48]⟩ = tx ((sumN f 0 : Nat) : Int)) := hide tx_zero.symm
  have HX := hide (fun W (hS : Std W) => make_any W _ _ ((sumN f (c + 1) : Nat) : Int) al (twoT (smallm hm hsm) hal) h0 hS)
  clear hs hT hsm hal h0
  go_enter Tryz.func62, Tryz.ntmps62
  go_wp2_with fail
  go_loopg [8, 14] (c + 1) (fun q ov iv wr => ∃ j : Nat, iv = .int .i64 (j : Int) ∧ q + j = c + 1 ∧ ov = tx ((sumN f j : Nat) : Int) ∧ Below w.heap.size w wr)
  case atStart => exact ⟨0, rfl, by omega, H1.out, Below.refl _ _⟩
  case round =>
    obtain ⟨j, rfl, hq, rfl, hb⟩ := hrel
    have HQ := hide hq
    have HB := hide hb
    have hjK : j ≤ c + 1 := by omega
    clear hq hb
    by_cases hlt : j < c + 1
    · have hji : (j : Int) < ((c + 1 : Nat) : Int) := by omega
      have hm1 := sumN_mono f (a := j + 1) (b := c + 1) (by omega)
      have hm2 : sumN f (j + 1) = sumN f j + f j := rfl
      have hsm := HM.out
      have C1 := hide (HT.out j (by omega))
      have C2 := hide (fun W (hS : Std W) => addT_any W ((sumN f j : Nat) : Int) ((f j : Nat) : Int) (smallm hm (by omega)) (smallm hm (by omega)) (by rw [← Int.natCast_add]; exact smallm hm (by omega)) hS)
      obtain ⟨s1, hs1⟩ : ∃ s, sumN f j = s := ⟨_, rfl⟩
      obtain ⟨s2, hs2⟩ : ∃ s, f j = s := ⟨_, rfl⟩
      rw [hs1, hs2] at C2
      rw [hs2] at C1
      have HE : Hid (((s1 : Nat) : Int) + ((s2 : Nat) : Int) = ((sumN f (j + 1) : Nat) : Int)) := hide (by rw [hm2, hs1, hs2, Int.natCast_add])
      rw [hs1]
      clear hm1 hm2 hsm hs1 hs2
      go_wp2_with fail
      refine (C1.out _ HB.out).mono ?_
      rintro e w1 ⟨rfl, hb1⟩
      have HB1 := hide (HB.out.trans (hb1.mono HB.out.size))
      clear hb1
      go_wp2_with fail
      refine (C2.out _ (HS.out.below HB1.out (Nat.le_refl _))).mono ?_
      rintro e w2 ⟨rfl, hb2⟩
      have HB2 := hide (HB1.out.trans (hb2.mono HB1.out.size))
      clear hb2 C1 C2
      go_wp2_with fail
      go_roundg (gk - 1)
      case measure => have := HQ.out; omega
      case rel => exact ⟨j + 1, by go_num, by have := HQ.out; omega, by rw [← HE.out], HB2.out⟩
    · have hji : ¬ (j : Int) < ((c + 1 : Nat) : Int) := by omega
      obtain rfl : j = c + 1 := by omega
      go_wp2_with fail
      refine (HX.out _ (HS.out.below HB.out (Nat.le_refl _))).mono ?_
      rintro e w1 ⟨rfl, hb1⟩
      have HB1 := hide (HB.out.trans (hb1.mono HB.out.size))
      clear hb1
      go_wp2_with fail
      go_ret2
      exact ⟨rfl, HB1.out⟩

set_option maxRecDepth 100000 in
set_option maxHeartbeats 2000000 in
/-- accept's closure: the samples with k bad parts. -/
theorem accept1_any (w : World) (N C lot bad k b1 b2 b3 : Nat) (h1 : Blk w b1 30 #[.int .i64 (N : Int), .int .i64 (C : Int)]) (h2 : Blk w b2 3 #[.int .i64 (lot : Int)]) (h3 : Blk w b3 3 #[.int .i64 (bad : Int)]) (hb : bad ≤ lot) (hl : lot ≤ 64) (hk : k ≤ N) (hN : N ≤ 64) (hs : Std w) :
    Calls Tryz.prog 90 #[.int .i64 (k : Int), .pointer (some ⟨b1, 0, none⟩), .pointer (some ⟨b2, 0, none⟩), .pointer (some ⟨b3, 0, none⟩)] w fun e w' => e = .returned (.tuple #[tx ((bin bad k * bin (lot - bad) (N - k) : Nat) : Int), .int .i64 0]) ∧ Below w.heap.size w w' := by
  have HC := hide (samples_any w N C lot bad k hb hl hk hN hs)
  have a0 := Blk.cell h1 0
  have a1 := Blk.cell h1 1
  have a2 := Blk.cell h2 0
  have a3 := Blk.cell h3 0
  obtain ⟨s, hs1⟩ : ∃ s, bin bad k * bin (lot - bad) (N - k) = s := ⟨_, rfl⟩
  rw [hs1] at HC ⊢
  clear h1 h2 h3 hs hs1
  go_enter Tryz.func90, Tryz.ntmps90
  go_wp2_with fail
  refine HC.out.mono ?_
  rintro e w1 ⟨rfl, hb1⟩
  have HB := hide hb1
  clear hb1 a0 a1 a2 a3
  go_wp2_with fail
  go_ret2
  exact ⟨rfl, HB.out⟩

set_option maxRecDepth 100000 in
set_option maxHeartbeats 4000000 in
theorem accept_any (w : World) (N C lot bad : Nat) (hC : C ≤ N) (hNl : N ≤ lot) (hbl : bad ≤ lot) (hl : lot ≤ 64) (hN : N ≤ 64) (hs : Std w) :
    Calls Tryz.prog 44 #[.agg #[.int .i64 (N : Int), .int .i64 (C : Int)], .int .i64 (lot : Int), .int .i64 (bad : Int)] w fun e w' => RetRat (accQ bad (lot - bad) N C) e ∧ Below w.heap.size w w' := by
  have HS := hide hs
  clear hs
  have s1 := bin64 (n := lot) (k := N) (by omega)
  have hbp := bin_pos (n := lot) (k := N) (by omega)
  have p20 : (10 : Nat) ^ 20 < 10 ^ 30 := by decide
  have hsum : accN bad (lot - bad) N C < 10 ^ 30 := by
    have h1 := accN_monoC bad (lot - bad) N hC
    rw [accN_all, show bad + (lot - bad) = lot by omega] at h1
    omega
  have HQ : Hid (accQ bad (lot - bad) N C = Rat.divInt ((sumN (fun k => bin bad k * bin (lot - bad) (N - k)) (C + 1) : Nat) : Int) ((bin lot N : Nat) : Int)) := hide (by unfold accQ accN; rw [show bad + (lot - bad) = lot by omega])
  have C1 := hide (fun W (hS : Std W) => chosen_any W lot N (by omega) (by omega) hS)
  have hb0 : ((bin lot N : Nat) : Int) ≠ 0 := by omega
  have hb1 := small30 (n := bin lot N) (by omega)
  obtain ⟨d, hd⟩ : ∃ d, bin lot N = d := ⟨_, rfl⟩
  rw [hd] at C1 hb0 hb1 HQ
  have HB0 := hide hb0
  have HB1 := hide hb1
  have HSM := hide hsum
  clear s1 hbp p20 hsum hb0 hb1 hd
  have HB := allocs_below w [.cells #[.int .i64 (N : Int), .int .i64 (C : Int)] 30, .cells #[.int .i64 (lot : Int)] 3, .cells #[.int .i64 (bad : Int)] 3]
  have K_p : Blk (allocs w [.cells #[.int .i64 (N : Int), .int .i64 (C : Int)] 30, .cells #[.int .i64 (lot : Int)] 3, .cells #[.int .i64 (bad : Int)] 3]) (w.heap.size + 0) 30 #[.int .i64 (N : Int), .int .i64 (C : Int)] := allocs_at w [.cells #[.int .i64 (N : Int), .int .i64 (C : Int)] 30, .cells #[.int .i64 (lot : Int)] 3, .cells #[.int .i64 (bad : Int)] 3] 0 rfl
  have K_l : Blk (allocs w [.cells #[.int .i64 (N : Int), .int .i64 (C : Int)] 30, .cells #[.int .i64 (lot : Int)] 3, .cells #[.int .i64 (bad : Int)] 3]) (w.heap.size + 1) 3 #[.int .i64 (lot : Int)] := allocs_at w [.cells #[.int .i64 (N : Int), .int .i64 (C : Int)] 30, .cells #[.int .i64 (lot : Int)] 3, .cells #[.int .i64 (bad : Int)] 3] 1 rfl
  have K_b : Blk (allocs w [.cells #[.int .i64 (N : Int), .int .i64 (C : Int)] 30, .cells #[.int .i64 (lot : Int)] 3, .cells #[.int .i64 (bad : Int)] 3]) (w.heap.size + 2) 3 #[.int .i64 (bad : Int)] := allocs_at w [.cells #[.int .i64 (N : Int), .int .i64 (C : Int)] 30, .cells #[.int .i64 (lot : Int)] 3, .cells #[.int .i64 (bad : Int)] 3] 2 rfl
  unfold allocs at HB K_p K_l K_b
  simp only [List.foldl_cons, List.foldl_nil] at HB K_p K_l K_b
  rw [Nat.add_zero] at K_p
  go_enter Tryz.func44, Tryz.ntmps44
  go_upto_region 1 with (fail)
  generalize (((w.alloc (.cells #[.int .i64 (N : Int), .int .i64 (C : Int)] 30)).alloc (.cells #[.int .i64 (lot : Int)] 3)).alloc (.cells #[.int .i64 (bad : Int)] 3)) = w0 at *
  replace K_p := hide K_p
  replace K_l := hide K_l
  replace K_b := hide K_b
  replace HB := hide HB
  have p0 := (Blk.cell K_p.out 0).trans (rfl : _ = some (Value.int .i64 (N : Int)))
  have p1 := (Blk.cell K_p.out 1).trans (rfl : _ = some (Value.int .i64 (C : Int)))
  have l0 := (Blk.cell K_l.out 0).trans (rfl : _ = some (Value.int .i64 (lot : Int)))
  go_wp2_with fail
  refine (C1.out _ (HS.out.below HB.out (Nat.le_refl _))).mono ?_
  rintro e w1 ⟨rfl, hb⟩
  clear p0 p1 l0
  replace K_p := hide (Blk.below K_p.out hb (Blk.lt K_p.out))
  replace K_l := hide (Blk.below K_l.out hb (Blk.lt K_l.out))
  replace K_b := hide (Blk.below K_b.out hb (Blk.lt K_b.out))
  replace HB := hide (HB.out.trans (hb.mono HB.out.size))
  clear hb
  have HCT := hide (total_any w1 C 30 ((d : Nat) : Int) 90 #[.pointer (some ⟨w.heap.size, 0, none⟩), .pointer (some ⟨(w.heap.size + 1), 0, none⟩), .pointer (some ⟨(w.heap.size + 2), 0, none⟩)] (enters_of Tryz.func90 (by kernel_rfl) rfl) (fun k => bin bad k * bin (lot - bad) (N - k)) (fun k hk W' hb => accept1_any W' N C lot bad k _ _ _ (Blk.below K_p.out hb (Blk.lt K_p.out)) (Blk.below K_l.out hb (Blk.lt K_l.out)) (Blk.below K_b.out hb (Blk.lt K_b.out)) hbl hl (by omega) hN ((HS.out.below HB.out (Nat.le_refl _)).below hb (Nat.le_refl _))) (by decide) HSM.out HB0.out HB1.out (by omega) (HS.out.below HB.out (Nat.le_refl _)))
  have p0 := (Blk.cell K_p.out 0).trans (rfl : _ = some (Value.int .i64 (N : Int)))
  have p1 := (Blk.cell K_p.out 1).trans (rfl : _ = some (Value.int .i64 (C : Int)))
  go_wp2_with fail
  refine HCT.out.mono ?_
  rintro e w9 ⟨rfl, hb⟩
  clear HCT
  clear p0 p1
  replace K_p := hide (Blk.below K_p.out hb (Blk.lt K_p.out))
  replace K_l := hide (Blk.below K_l.out hb (Blk.lt K_l.out))
  replace K_b := hide (Blk.below K_b.out hb (Blk.lt K_b.out))
  replace HB := hide (HB.out.trans (hb.mono HB.out.size))
  clear hb
  go_wp2_with fail
  go_ret2
  exact ⟨by rw [HQ.out]; rfl, HB.out⟩

end Go.Proofs.YtaccdkbofhlbkaaGreatDoor
