/- torsor.times. -/
import Derived.Test.YtdkilkliccljeaaGreatDoorTnum
import Derived.Test.YtdkilkliccljeaaGreatDoorTpl
import Derived.Test.YtdkilkliccljeaaGreatDoorMade
import Derived.Test.YtdkilkliccljeaaGreatDoorTmap
import Derived.Test.YtdkilkliccljeaaGreatDoorPts
namespace Go.Proofs.YtdkilkliccljeaaGreatDoor
open Go.RowKit MLab

theorem RT_zeroT : RT 0 = [48] := by rw [RT, if_pos (by rfl)]; exact T_zero
theorem RT_int (n : Int) : RT (n : Rat) = T n := by rw [RT, if_pos (by simp)]; simp
theorem rwholeR (n : Int) (hn : Cb n) (w : World) (hs : Std w) :
    Calls Tryz.prog 50 #[.int .i64 n] w fun e w' => e = .returned (.string ⟨(RT (n : Rat)).toArray⟩) ∧ Below w.heap.size w w' := by
  unfold Cb at hn
  rw [RT_int]
  exact rwhole_any n (by omega) (by omega) w hs

set_option maxRecDepth 100000 in
set_option maxHeartbeats 8000000 in
theorem ttimes_any (w : World) (c : Nat → Int) (s0 s1 s2 s3 s4 s5 : ByteArray) (q : Nat → Rat) {m : Nat} (hm : m ≤ 160) (hc : ∀ i, i < 6 → Cb (c i)) (hq : ∀ i, i < 6 → Sz m m (q i))
    (hs : s0.data.toList = RT (q 0) ∧ s1.data.toList = RT (q 1) ∧ s2.data.toList = RT (q 2) ∧ s3.data.toList = RT (q 3) ∧ s4.data.toList = RT (q 4) ∧ s5.data.toList = RT (q 5)) (hst : Std w) :
    Calls Tryz.prog 46 #[.agg #[.int .i64 (c 0), .int .i64 (c 1), .int .i64 (c 2), .int .i64 (c 3), .int .i64 (c 4), .int .i64 (c 5)], .agg #[.string s0, .string s1, .string s2, .string s3, .string s4, .string s5]] w fun e w' => e = .returned (.tuple #[.string ⟨(RT (psum c q 6)).toArray⟩, .int .i64 0]) ∧ Below w.heap.size w w' := by
  obtain ⟨b0, b1, b2, b3, b4, b5⟩ := hs
  have B0 := hide b0
  have B1 := hide b1
  have B2 := hide b2
  have B3 := hide b3
  have B4 := hide b4
  have B5 := hide b5
  have HC := hide hc
  have HQ := hide hq
  have HST := hide hst
  have hb0 := hide (allocs_below w [.cells #[.int .i64 (c 0), .int .i64 (c 1), .int .i64 (c 2), .int .i64 (c 3), .int .i64 (c 4), .int .i64 (c 5)] 85, .cells #[.string s0, .string s1, .string s2, .string s3, .string s4, .string s5] 87])
  have hk0 := hide (show Blk (allocs w [.cells #[.int .i64 (c 0), .int .i64 (c 1), .int .i64 (c 2), .int .i64 (c 3), .int .i64 (c 4), .int .i64 (c 5)] 85, .cells #[.string s0, .string s1, .string s2, .string s3, .string s4, .string s5] 87]) (w.heap.size + 1) 87 #[.string s0, .string s1, .string s2, .string s3, .string s4, .string s5] from allocs_at w [.cells #[.int .i64 (c 0), .int .i64 (c 1), .int .i64 (c 2), .int .i64 (c 3), .int .i64 (c 4), .int .i64 (c 5)] 85, .cells #[.string s0, .string s1, .string s2, .string s3, .string s4, .string s5] 87] 1 rfl)
  have z0 : (⟨(RT (psum c q 0)).toArray⟩ : ByteArray) = ⟨#[48]⟩ := by show (⟨(RT 0).toArray⟩ : ByteArray) = _; rw [RT_zeroT]
  have Z0 := hide z0
  clear b0 b1 b2 b3 b4 b5 hc hq hst z0
  go_enter Tryz.func46, Tryz.ntmps46
  go_wp2_with fail
  change _ at hk0
  have hk1 := hk0.out
  have hb1 := hb0.out
  unfold allocs at hk1 hb1
  simp only [List.foldl_cons, List.foldl_nil] at hk1 hb1
  generalize ((w.alloc (.cells #[.int .i64 (c 0), .int .i64 (c 1), .int .i64 (c 2), .int .i64 (c 3), .int .i64 (c 4), .int .i64 (c 5)] 85)).alloc (.cells #[.string s0, .string s1, .string s2, .string s3, .string s4, .string s5] 87)) = w0 at *
  have K0 := hide hk1
  have B := hide hb1
  clear hk1 hb1 hb0 hk0
  go_loopg [6, 12] 6 (fun n sv iv wr => ∃ j : Nat, iv = .int .i64 (j : Int) ∧ n + j = 6 ∧ sv = .string ⟨(RT (psum c q j)).toArray⟩ ∧ Below w0.heap.size w0 wr)
  case atStart => exact ⟨0, rfl, rfl, by rw [Z0.out], Below.refl _ _⟩
  case round =>
    obtain ⟨j, rfl, hn, rfl, hb⟩ := hrel
    have HN := hide hn
    have HB := hide hb
    have HBw := hide (B.out.trans (hb.mono B.out.size))
    have hile : j ≤ 6 := by omega
    clear hn hb
    by_cases hlt : j < 6
    · have hii : (j : Int) < 6 := by omega
      have hi0 : (0 : Int) ≤ (j : Int) := by omega
      obtain ⟨s, hs1, hs2⟩ : ∃ s : ByteArray, (#[.string s0, .string s1, .string s2, .string s3, .string s4, .string s5] : Array Value)[j]? = some (.string s) ∧ s.data.toList = RT (q j) := by
        match j, hlt with
        | 0, _ => exact ⟨s0, rfl, B0.out⟩
        | 1, _ => exact ⟨s1, rfl, B1.out⟩
        | 2, _ => exact ⟨s2, rfl, B2.out⟩
        | 3, _ => exact ⟨s3, rfl, B3.out⟩
        | 4, _ => exact ⟨s4, rfl, B4.out⟩
        | 5, _ => exact ⟨s5, rfl, B5.out⟩
      have hci : (#[.int .i64 (c 0), .int .i64 (c 1), .int .i64 (c 2), .int .i64 (c 3), .int .i64 (c 4), .int .i64 (c 5)] : Array Value)[j]? = some (.int .i64 (c j)) := by
        match j, hlt with
        | 0, _ => rfl
        | 1, _ => rfl
        | 2, _ => rfl
        | 3, _ => rfl
        | 4, _ => rfl
        | 5, _ => rfl
      have hcell : wr.cell? ⟨w.heap.size + 1, j, none⟩ = some (.string s) := (Blk.cell (Blk.below K0.out HB.out (Blk.lt K0.out)) j).trans hs1
      have HS2 := hide hs2
      have hidx := idx_int Tryz.underlying85 hlt hci wr
      clear hs1 hs2 hci
      have HR : Hid (∀ W V, Std W → V = (⟨(RT (c j : Rat)).toArray⟩ : ByteArray) → Calls Tryz.prog 79 #[.string V, .string s] W fun e w' => RetRat ((c j : Rat) * q j) e ∧ Below W.heap.size W w') := hide (fun W V hW hV => by
        subst hV
        have hz := (HC.out j hlt).sz.mono (a := 6) (b := 0) (c := 160) (d := 160) (by omega) (by omega)
        obtain ⟨f1, f2, f3, f4⟩ := bndM_of (m := 160) (by omega) hz ((HQ.out j hlt).mono (by omega) (by omega))
        exact rmulq_any W _ s (c j : Rat) (q j) rfl HS2.out f1 f2 f3 f4 hW)
      have HA : Hid (∀ W, Std W → Calls Tryz.prog 49 #[.string ⟨(RT (psum c q j)).toArray⟩, .string ⟨(RT ((c j : Rat) * q j)).toArray⟩] W fun e w' => RetRat (psum c q j + (c j : Rat) * q j) e ∧ Below W.heap.size W w') := hide (fun W hW => by
        have h1 := psum_sz HC.out HQ.out j (by omega)
        have h2 := psum_term (c := c) (q := q) (HC.out j hlt) (HQ.out j hlt)
        have hmj : m * j ≤ m * 5 := Nat.mul_le_mul_left m (by omega)
        have hsum := sum_lt (m := m * 5 + 6 + 5 + m) h1 h2 (by omega) (by omega)
        exact radd_any W _ _ _ _ rfl rfl (h1.fit (by omega) (by omega)) (h2.fit (by omega) (by omega)) (big_of_pow (cross_lt h1 h2) (by omega)) (big_of_pow (cross_lt h2 h1) (by omega)) (big_of_pow hsum (by omega)) (big_of_le (dens_le h1 h2) (by omega)) hW)
      have HCJ := hide (HC.out j hlt)
      have SK : ∀ w', Below wr.heap.size wr w' → Below wr.heap.size wr w' ∧ w'.cell? ⟨w.heap.size + 1, j, none⟩ = some (.string s) := fun w' h => ⟨h, (bcell h _ _ (block_lt_of_cell hcell)).trans hcell⟩
      go_upto_region 5 with (fail)
      go_region_held3 (fun w' => Below wr.heap.size wr w' ∧ w'.cell? ⟨w.heap.size + 1, j, none⟩ = some (.string s)) (first | exact SK _ (Below.refl _ _).drew | exact SK _ (Below.refl _ _) | exact SK _ (bel_next (by assumption) (by assumption) (Nat.le_refl _)))
        (first
          | (go_at_call 50; refine (rwholeR _ HCJ.out _ (HST.out.below (HBw.out.trans (Below.mono (And.left (by assumption)) HBw.out.size)) (Nat.le_refl _))).mono ?_; rintro e wx ⟨rfl, hbW⟩)
          | (go_at_call 79; refine (HR.out _ _ (HST.out.below (HBw.out.trans (Below.mono (And.left (by assumption)) HBw.out.size)) (Nat.le_refl _)) rfl).mono ?_; rintro e wx ⟨hr, hbW⟩; rw [RetRat] at hr; subst hr))
      obtain ⟨hbx, _⟩ : _ ∧ _ := by assumption
      have HX := hide (HB.out.trans (hbx.mono HB.out.size))
      have HXw := hide (B.out.trans (HX.out.mono B.out.size))
      clear hbx hcell SK hidx
      go_wp2_with fail
      refine (HA.out _ (std_next HST.out HXw.out)).mono ?_
      rintro e w2 ⟨hr, hb2⟩
      rw [RetRat] at hr
      subst hr
      have HX2 := hide (HX.out.trans (hb2.mono HX.out.size))
      clear hb2
      go_wp2_with fail
      go_roundg (gk - 1)
      case measure => have := HN.out; omega
      case rel => exact ⟨j + 1, by go_num, by have := HN.out; omega, rfl, HX2.out⟩
    · have hii : ¬ (j : Int) < 6 := by omega
      have hj6 : j = 6 := by omega
      subst hj6
      go_wp2_with fail
      go_ret2
      exact ⟨rfl, HBw.out⟩
end Go.Proofs.YtdkilkliccljeaaGreatDoor
