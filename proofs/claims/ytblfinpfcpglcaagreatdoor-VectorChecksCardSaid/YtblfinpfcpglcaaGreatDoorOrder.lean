/- vector.Order: the closure that compares, the library's insertion sort. -/
import Derived.Test.YtblfinpfcpglcaaGreatDoorOrdp
import Derived.Test.YtblfinpfcpglcaaGreatDoorColl
import Derived.Deep.OwnRows
namespace Go.Proofs.YtblfinpfcpglcaaGreatDoor
open Go.RowKit MLab

def orr (a b : Int) : Int := if a = 0 then b else a
theorem ordc_orr (a b : S2) : ordc a b = orr (Lib.compareInt a.1 b.1) (Lib.compareInt a.2 b.2) := rfl

set_option maxRecDepth 100000 in
set_option maxHeartbeats 1000000 in
theorem or_any (w : World) (g cap : Nat) (c1 c2 : Int) (h0 : w.cell? ⟨g, 0, none⟩ = some (.int .i64 c1)) (h1 : w.cell? ⟨g, 1, none⟩ = some (.int .i64 c2)) :
    Calls Tryz.prog 103 #[.slice (some ⟨g, 0, none⟩) 2 cap] w fun e w' => e = .returned (.int .i64 (orr c1 c2)) ∧ w' = w := by
  go_enter Tryz.func103, Tryz.ntmps103
  go_wp2_with fail
  go_loopg [8] 2 (fun k i wr => wr = w ∧ ∃ j : Nat, i = .int .i64 (j : Int) ∧ k + j = 2 ∧ (j = 0 ∨ (j = 1 ∧ c1 = 0) ∨ (j = 2 ∧ c1 = 0 ∧ c2 = 0)))
  case atStart => exact ⟨rfl, 0, rfl, rfl, .inl rfl⟩
  case round =>
    obtain ⟨rfl, j, rfl, hk, hj⟩ := hrel
    have HK := hide hk
    clear hk
    rcases hj with rfl | ⟨rfl, hc⟩ | ⟨rfl, hc, hc2⟩
    · by_cases e : c1 = 0
      · have he := hide e
        subst e
        go_wp2_with fail
        go_roundg 1
        case measure => have := HK.out; omega
        case rel => exact ⟨rfl, 1, rfl, rfl, .inr (.inl (by simp))⟩
      · go_wp2_with fail
        go_ret
        exact ⟨by simp [orr, e], rfl⟩
    · subst hc
      by_cases e : c2 = 0
      · subst e
        go_wp2_with fail
        go_roundg 0
        case measure => have := HK.out; omega
        case rel => exact ⟨rfl, 2, rfl, rfl, .inr (.inr (by simp))⟩
      · go_wp2_with fail
        go_ret
        exact ⟨by simp [orr], rfl⟩
    · subst hc hc2
      have h2 : ¬ ((2 : Nat) : Int) < 2 := by omega
      go_wp2_with fail
      go_ret
      exact ⟨by simp [orr], rfl⟩

set_option maxRecDepth 100000 in
set_option maxHeartbeats 4000000 in
theorem ordcmp_any (w : World) (v : Value) (L : List S2) (hv : Pts w v L) (Bs : Nat) (hB : w.cell? ⟨Bs, 0, none⟩ = some v) (i k : Nat) (hi : i < L.length) (hk : k < L.length) :
    Calls Tryz.prog 102 #[.int .i64 (i : Int), .int .i64 (k : Int), .pointer (some ⟨Bs, 0, none⟩)] w fun e w' => e = .returned (.int .i64 (ordc (gP L i) (gP L k))) ∧ Below w.heap.size w w' := by
  obtain ⟨A, c, rfl, hc⟩ := id hv
  obtain ⟨b, off, rfl, hcell⟩ := hc (by omega)
  have hii : (i : Int) < (L.length : Int) := by omega
  have hki : (k : Int) < (L.length : Int) := by omega
  obtain ⟨x1, x2, hx⟩ : ∃ x y, gP L i = (x, y) := ⟨_, _, rfl⟩
  obtain ⟨y1, y2, hy⟩ : ∃ x y, gP L k = (x, y) := ⟨_, _, rfl⟩
  obtain ⟨a0, a1⟩ := hcell i _ (gP_eq hi)
  obtain ⟨b0, b1⟩ := hcell k _ (gP_eq hk)
  rw [hx] at a0 a1
  rw [hy] at b0 b1
  rw [hx, hy, ordc_orr]
  clear hcell hc hv hx hy
  have SK : ∀ w', Below w.heap.size w w' → Below w.heap.size w w' ∧ w'.cell? ⟨Bs, 0, none⟩ = some (.slice (some ⟨b, off, none⟩) L.length c) ∧ w'.cell? ⟨b, off + i * 2, none⟩ = some (.int .i64 x1) ∧ w'.cell? ⟨b, off + i * 2 + 1, none⟩ = some (.int .i64 x2) ∧ w'.cell? ⟨b, off + k * 2, none⟩ = some (.int .i64 y1) ∧ w'.cell? ⟨b, off + k * 2 + 1, none⟩ = some (.int .i64 y2) := fun w' h => ⟨h, (bcell h _ _ (block_lt_of_cell hB)).trans hB, (bcell h _ _ (block_lt_of_cell a0)).trans a0, (bcell h _ _ (block_lt_of_cell a1)).trans a1, (bcell h _ _ (block_lt_of_cell b0)).trans b0, (bcell h _ _ (block_lt_of_cell b1)).trans b1⟩
  obtain ⟨C1, hC1⟩ : ∃ z : Int, Lib.compareInt x1 y1 = z := ⟨_, rfl⟩
  obtain ⟨C2, hC2⟩ : ∃ z : Int, Lib.compareInt x2 y2 = z := ⟨_, rfl⟩
  rw [hC1, hC2]
  have H1 := hide hC1
  have H2 := hide hC2
  clear hC1 hC2
  go_enter Tryz.func102, Tryz.ntmps102
  go_upto_region 1 with (fail)
  go_region_held3 (fun w' => Below w.heap.size w w' ∧ w'.cell? ⟨Bs, 0, none⟩ = some (.slice (some ⟨b, off, none⟩) L.length c) ∧ w'.cell? ⟨b, off + i * 2, none⟩ = some (.int .i64 x1) ∧ w'.cell? ⟨b, off + i * 2 + 1, none⟩ = some (.int .i64 x2) ∧ w'.cell? ⟨b, off + k * 2, none⟩ = some (.int .i64 y1) ∧ w'.cell? ⟨b, off + k * 2 + 1, none⟩ = some (.int .i64 y2)) (first | exact SK _ (Below.refl _ _).drew | exact SK _ (Below.refl _ _) | exact SK _ (nalk _ _).drew | exact SK _ (nalk _ _))
    (first
      | (go_at_call_of 87 (.int .i64 x1 : Value); refine (Tryz.cmp_Compare_int x1 y1 _).mono ?_; rw [H1.out]; rintro e wx ⟨rfl, rfl⟩)
      | (go_at_call_of 87 (.int .i64 x2 : Value); refine (Tryz.cmp_Compare_int x2 y2 _).mono ?_; rw [H2.out]; rintro e wx ⟨rfl, rfl⟩)
      | (go_at_call 103; refine (or_any _ _ _ C1 C2 ((Blk.cell (Blk.drew (Blk.new _ _ _)) 0).trans rfl) ((Blk.cell (Blk.drew (Blk.new _ _ _)) 1).trans rfl)).mono ?_; rintro e wx ⟨rfl, rfl⟩))
  all_goals go_wp2_with fail
  all_goals go_ret
  all_goals exact ⟨rfl, And.left (by assumption)⟩

end Go.Proofs.YtblfinpfcpglcaaGreatDoor
