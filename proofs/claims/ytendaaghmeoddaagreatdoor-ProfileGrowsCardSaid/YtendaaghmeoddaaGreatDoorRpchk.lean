/- metrolabref37.Segments. metrolabref37.Check. -/
import Derived.Test.YtendaaghmeoddaaGreatDoorChks
import Derived.Test.YtendaaghmeoddaaGreatDoorPturn
import Derived.Deep.OwnRows
import Derived.Deep.AppendLies
import Derived.Deep.RegionHeld3
namespace Go.Proofs.YtendaaghmeoddaaGreatDoor
open Go.RowKit MLab

/-- The cells of segment j. -/
def sg4 (L : List S2) (j : Nat) : List Value := [.int .i64 (gP L j).1, .int .i64 (gP L j).2, .int .i64 (nx L j).1, .int .i64 (nx L j).2]
def sgs (L : List S2) (n : Nat) : List Value := (List.range n).flatMap (sg4 L)
theorem sgs_succ (L : List S2) (n : Nat) : sgs L n ++ sg4 L n = sgs L (n + 1) := by simp [sgs, List.range_succ]
theorem sgs_length (L : List S2) : ∀ n, (sgs L n).length = 4 * n
  | 0 => rfl
  | n + 1 => by rw [← sgs_succ, List.length_append, sgs_length L n]; simp [sg4]; omega
theorem sgs_get (L : List S2) : ∀ n j i, j < n → i < 4 → (sgs L n)[j * 4 + i]? = (sg4 L j)[i]?
  | 0, j, i, h, _ => absurd h (by omega)
  | n + 1, j, i, h, h4 => by
    rw [← sgs_succ]
    rcases Nat.lt_or_ge j n with hj | hj
    · rw [List.getElem?_append_left (by rw [sgs_length]; omega), sgs_get L n j i hj h4]
    · obtain rfl : j = n := by omega
      rw [List.getElem?_append_right (by rw [sgs_length]; omega), sgs_length]
      congr 1
      omega
/-- The slice value reads as the first N segments. -/
def Sgs (L : List S2) (N : Nat) (v : Value) (w : World) : Prop := ∃ g cap, v = .slice (some ⟨g, 0, none⟩) N cap ∧ ∀ j i u, j < N → i < 4 → (sg4 L j)[i]? = some u → w.cell? ⟨g, j * 4 + i, none⟩ = some u
theorem Sgs.below {L : List S2} {N : Nat} {v : Value} {w w' : World} (h : Sgs L N v w) (hb : Below w.heap.size w w') : Sgs L N v w' := by
  obtain ⟨g, cap, hv, hc⟩ := h
  exact ⟨g, cap, hv, fun j i u hj hi hu => (hb.cell (p := ⟨g, j * 4 + i, none⟩) (block_lt_of_cell (hc j i u hj hi hu))).trans (hc j i u hj hi hu)⟩
theorem own_sgs {w : World} {base N : Nat} {v : Value} {t : TypeId} {L : List S2} (hN : 0 < N) (h : w.ownsRow base t 4 v N (sgs L N)) : Sgs L N v w := by
  rcases h.2 with ⟨_, h0⟩ | ⟨g, cap, cur, rfl, hb, hgg, hn, hcap, hsz, htake⟩
  · omega
  · refine ⟨g, cap, rfl, fun j i u hj hi hu => ?_⟩
    have h1 := sgs_get L N j i hj hi
    rw [hu, ← htake, List.getElem?_take] at h1
    split at h1
    · rw [cell_of_row w g (j * 4 + i) cur t (0, 0) hgg]
      simpa using h1
    · cases h1

theorem info_seg : (Tryz.prog.info? 92).map (fun i => (i.zero, i.size, i.bytes)) = some (some (.agg #[.int .i64 0, .int .i64 0, .int .i64 0, .int .i64 0]), 4, 32) := by kernel_rfl
theorem nx_in {L : List S2} {j : Nat} (h : j + 1 < L.length) : nx L j = gP L (j + 1) := by unfold nx; rw [Nat.mod_eq_of_lt h]
theorem nx_last {L : List S2} {j : Nat} (h : j + 1 = L.length) : nx L j = gP L 0 := by unfold nx; rw [h, Nat.mod_self]

set_option maxRecDepth 100000 in
set_option maxHeartbeats 8000000 in
theorem segments_ref (w : World) (v : Value) (L : List S2) (c0 : Bool) (hv : Pts w v L) (h2 : 2 ≤ L.length) (hL : L.length ≤ 64) :
    Calls Tryz.prog 55 #[v, .bool c0] w fun e w' => (∃ u, e = .returned u ∧ Sgs L (segN L c0) u w') ∧ Below w.heap.size w w' := by
  obtain ⟨A, c, rfl, hc⟩ := id hv
  obtain ⟨b, off, hA, hcell⟩ := hc (by omega)
  subst hA
  have HC := hide hcell
  obtain ⟨i0, hi, hz0, hz1, hz2⟩ := info_parts info_seg
  clear hv hc hcell
  go_enter Tryz.func55, Tryz.ntmps55
  go_wp2_with fail
  go_loopg [5, 6] (L.length - 1) (fun n ov iv wr => ∃ j k : Nat, j = k + 1 ∧ iv = .int .i64 (j : Int) ∧ n + j = L.length ∧ wr.ownsRow w.heap.size 92 4 ov k (sgs L k) ∧ Below w.heap.size w wr)
  case atStart => exact ⟨1, 0, rfl, rfl, by omega, World.ownsRow_nil _ _ _ _, Below.refl _ _⟩
  case round =>
    obtain ⟨j, k, hjk, rfl, hq, hown, hb⟩ := hrel
    have HQ := hide hq
    have HJK := hide hjk
    have HB := hide hb
    have hjl : j ≤ L.length := by omega
    have hj1 : 1 ≤ j := by omega
    have hkj : ¬ k = j := by omega
    have hkj2 : ¬ j = k := by omega
    have hk0 : (0 : Int) ≤ (k : Int) := by omega
    have hkl : k < L.length := by omega
    have hkli : (k : Int) < (L.length : Int) := by omega
    have hj0 : (0 : Int) ≤ (j : Int) := by omega
    have hwr : IntKind.i64.wrap ((j : Int) - 1) = (k : Int) := by rw [IntWalk.i64_in _ ⟨by omega, by omega⟩]; omega
    by_cases hlt : j < L.length
    · have hji : (j : Int) < (L.length : Int) := by omega
      have hns : nx L k = gP L j := by rw [nx_in (by omega), hjk]
      obtain ⟨x1, x2, hx⟩ : ∃ x y, gP L k = (x, y) := ⟨_, _, rfl⟩
      obtain ⟨y1, y2, hy⟩ : ∃ x y, gP L j = (x, y) := ⟨_, _, rfl⟩
      obtain ⟨a0, a1⟩ := HC.out k _ (gP_eq hkl)
      obtain ⟨b0, b1⟩ := HC.out j _ (gP_eq hlt)
      rw [hx] at a0 a1
      rw [hy] at b0 b1
      have H4 := hide (show sg4 L k = [.int .i64 x1, .int .i64 x2, .int .i64 y1, .int .i64 y2] by unfold sg4; rw [hns, hx, hy])
      have hbl : b < w.heap.size := block_lt_of_cell a0
      have up : ∀ o u, w.cell? ⟨b, o, none⟩ = some u → wr.cell? ⟨b, o, none⟩ = some u := fun o u h => (hb.cell (p := ⟨b, o, none⟩) hbl).trans h
      have a0 := up _ _ a0
      have a1 := up _ _ a1
      have b0 := up _ _ b0
      have b1 := up _ _ b1
      have HOWN := hide hown
      have hwl := hb.size
      clear hown hq hjk hb hns hx hy up
      have SK : ∀ w', Below w.heap.size wr w' → Below w.heap.size wr w' ∧ w'.cell? ⟨b, off + k * 2, none⟩ = some (.int .i64 x1) ∧ w'.cell? ⟨b, off + k * 2 + 1, none⟩ = some (.int .i64 x2) ∧ w'.cell? ⟨b, off + j * 2, none⟩ = some (.int .i64 y1) ∧ w'.cell? ⟨b, off + j * 2 + 1, none⟩ = some (.int .i64 y2) := fun w' h => ⟨h, (bcell h _ _ hbl).trans a0, (bcell h _ _ hbl).trans a1, (bcell h _ _ hbl).trans b0, (bcell h _ _ hbl).trans b1⟩
      have hownd : wr.drew.ownsRow w.heap.size 92 4 u5 k (sgs L k) := HOWN.out.kept (row := none) ⟨rfl, rfl, rfl, Nat.le_refl _, fun _ _ _ => rfl⟩ (by cases h : Value.ownBlock _ <;> simp)
      go_upto_region 5 with (fail)
      go_region_held3 (fun w' => Below w.heap.size wr w' ∧ w'.cell? ⟨b, off + k * 2, none⟩ = some (.int .i64 x1) ∧ w'.cell? ⟨b, off + k * 2 + 1, none⟩ = some (.int .i64 x2) ∧ w'.cell? ⟨b, off + j * 2, none⟩ = some (.int .i64 y1) ∧ w'.cell? ⟨b, off + j * 2 + 1, none⟩ = some (.int .i64 y2)) (first | exact SK _ (Below.refl _ _).drew | exact SK _ (Below.refl _ _) | exact SK _ (by assumption) | exact SK _ ((Below.refl _ _).drew.alloc hwl _))
        ((refine step_append_lies _ (by rfl) _ _ 90 (by rfl) w.heap.size 92 i0 (.agg #[.int .i64 0, .int .i64 0, .int .i64 0, .int .i64 0]) 4 32 Tryz.underlying90 hi hz0 hz1 hz2 rfl (by decide) _ k _ (by rfl) (hownd.alloc _) ⟨wr.heap.size, 0, none⟩ 1 1 [.int .i64 x1, .int .i64 x2, .int .i64 y1, .int .i64 y2] (by rfl) rfl (World.news_of_block (cs := #[.int .i64 x1, .int .i64 x2, .int .i64 y1, .int .i64 y2]) (heap_alloc_new wr.drew _)) (by intro u hu; simp at hu; rcases hu with rfl | rfl | rfl | rfl <;> rfl) (by omega) (by unfold maxLen; omega) (by omega) (by simp; omega) (wr.heap.size + 1) (by simp) ?_; intro g cap w9 hown9 hgrow9 hat9 hlt9; have hb9 : Below w.heap.size wr w9 := ((Below.refl wr.heap.size wr).drew.mono hwl |>.alloc hwl _).grown hgrow9 (by simp; omega) (fun k e => (hownd.lt k e).1)))
      rw [← H4.out, sgs_succ] at hown9
      have HO2 := hide hown9
      have HX := hide (HB.out.trans hb9)
      clear hown9 hgrow9 hat9 hlt9 hb9 SK a0 a1 b0 b1 hownd
      go_wp2_with fail
      go_roundg (gk - 1)
      case measure => have := HQ.out; omega
      case rel => exact ⟨j + 1, j, rfl, by go_num, by have := HQ.out; omega, by have := HJK.out; subst this; exact HO2.out, HX.out⟩
    · have hji : ¬ (j : Int) < (L.length : Int) := by omega
      have hjL : j = L.length := by omega
      cases c0
      · have hN : segN L false = k := by unfold segN; rw [if_neg (by simp)]; omega
        have HO := hide (own_sgs (L := L) (N := k) (by omega) hown)
        have HN := hide hN
        clear hown hq hjk hb hN
        go_wp2_with fail
        go_ret
        exact ⟨⟨_, rfl, by rw [HN.out]; exact HO.out⟩, HB.out⟩
      · have hkL : k + 1 = L.length := by omega
        have hwr2 : IntKind.i64.wrap ((L.length : Int) - 1) = (k : Int) := by rw [IntWalk.i64_in _ ⟨by omega, by omega⟩]; omega
        have hN : segN L true = k + 1 := by unfold segN; rw [if_pos rfl]; omega
        have HN := hide hN
        have hns : nx L k = gP L 0 := nx_last hkL
        have hlen0 : (0 : Int) < (L.length : Int) := by omega
        have hlen1 : 0 < L.length := by omega
        obtain ⟨x1, x2, hx⟩ : ∃ x y, gP L k = (x, y) := ⟨_, _, rfl⟩
        obtain ⟨y1, y2, hy⟩ : ∃ x y, gP L 0 = (x, y) := ⟨_, _, rfl⟩
        obtain ⟨a0, a1⟩ := HC.out k _ (gP_eq hkl)
        obtain ⟨b0, b1⟩ := HC.out 0 _ (gP_eq hlen1)
        rw [hx] at a0 a1
        rw [hy] at b0 b1
        rw [Nat.zero_mul, Nat.add_zero] at b0 b1
        have H4 := hide (show sg4 L k = [.int .i64 x1, .int .i64 x2, .int .i64 y1, .int .i64 y2] by unfold sg4; rw [hns, hx, hy])
        have hbl : b < w.heap.size := block_lt_of_cell a0
        have up : ∀ o u, w.cell? ⟨b, o, none⟩ = some u → wr.cell? ⟨b, o, none⟩ = some u := fun o u h => (hb.cell (p := ⟨b, o, none⟩) hbl).trans h
        have a0 := up _ _ a0
        have a1 := up _ _ a1
        have b0 := up _ _ b0
        have b1 := up _ _ b1
        have HOWN := hide hown
        have hwl := hb.size
        have HKL := hide hkL
        clear hown hq hjk hb hns hx hy up hkL hN hjL hwr
        have SK : ∀ w', Below w.heap.size wr w' → Below w.heap.size wr w' ∧ w'.cell? ⟨b, off + k * 2, none⟩ = some (.int .i64 x1) ∧ w'.cell? ⟨b, off + k * 2 + 1, none⟩ = some (.int .i64 x2) ∧ w'.cell? ⟨b, off, none⟩ = some (.int .i64 y1) ∧ w'.cell? ⟨b, off + 1, none⟩ = some (.int .i64 y2) := fun w' h => ⟨h, (bcell h _ _ hbl).trans a0, (bcell h _ _ hbl).trans a1, (bcell h _ _ hbl).trans b0, (bcell h _ _ hbl).trans b1⟩
        have hownd : wr.drew.ownsRow w.heap.size 92 4 u5 k (sgs L k) := HOWN.out.kept (row := none) ⟨rfl, rfl, rfl, Nat.le_refl _, fun _ _ _ => rfl⟩ (by cases h : Value.ownBlock _ <;> simp)
        go_upto_region 7 with (fail)
        go_region_held3 (fun w' => Below w.heap.size wr w' ∧ w'.cell? ⟨b, off + k * 2, none⟩ = some (.int .i64 x1) ∧ w'.cell? ⟨b, off + k * 2 + 1, none⟩ = some (.int .i64 x2) ∧ w'.cell? ⟨b, off, none⟩ = some (.int .i64 y1) ∧ w'.cell? ⟨b, off + 1, none⟩ = some (.int .i64 y2)) (first | exact SK _ (Below.refl _ _).drew | exact SK _ (Below.refl _ _) | exact SK _ (by assumption) | exact SK _ ((Below.refl _ _).drew.alloc hwl _))
          ((refine step_append_lies _ (by rfl) _ _ 90 (by rfl) w.heap.size 92 i0 (.agg #[.int .i64 0, .int .i64 0, .int .i64 0, .int .i64 0]) 4 32 Tryz.underlying90 hi hz0 hz1 hz2 rfl (by decide) _ k _ (by rfl) (hownd.alloc _) ⟨wr.heap.size, 0, none⟩ 1 1 [.int .i64 x1, .int .i64 x2, .int .i64 y1, .int .i64 y2] (by rfl) rfl (World.news_of_block (cs := #[.int .i64 x1, .int .i64 x2, .int .i64 y1, .int .i64 y2]) (heap_alloc_new wr.drew _)) (by intro u hu; simp at hu; rcases hu with rfl | rfl | rfl | rfl <;> rfl) (by omega) (by unfold maxLen; omega) (by omega) (by simp; omega) (wr.heap.size + 1) (by simp) ?_; intro g cap w9 hown9 hgrow9 hat9 hlt9; have hb9 : Below w.heap.size wr w9 := ((Below.refl wr.heap.size wr).drew.mono hwl |>.alloc hwl _).grown hgrow9 (by simp; omega) (fun k e => (hownd.lt k e).1)))
        rw [← H4.out, sgs_succ] at hown9
        have HO := hide (own_sgs (L := L) (N := k + 1) (by omega) hown9)
        have HX := hide (HB.out.trans hb9)
        clear hown9 hgrow9 hat9 hlt9 hb9 SK a0 a1 b0 b1 hownd
        go_wp2_with fail
        go_ret
        exact ⟨⟨_, rfl, by rw [HN.out]; exact HO.out⟩, HX.out⟩
end Go.Proofs.YtendaaghmeoddaaGreatDoor

namespace Go.Proofs.YtendaaghmeoddaaGreatDoor
open Go.RowKit MLab

/-- What Check returns. -/
def chkP (L : List S2) (c : Bool) : Int := if chkPtsN L = 0 then chkL L c else chkPtsN L
theorem twice_no {L : List S2} {c : Bool} (h : ∀ i, i < segN L c → gP L i ≠ nx L i) : twiceB L c = false := by
  unfold twiceB
  rw [List.any_eq_false]
  intro i hi
  rw [decide_eq_true_eq]
  exact h i (List.mem_range.1 hi)
theorem twice_yes {L : List S2} {c : Bool} {i : Nat} (hi : i < segN L c) (h : gP L i = nx L i) : twiceB L c = true := by
  unfold twiceB
  rw [List.any_eq_true]
  exact ⟨i, List.mem_range.2 hi, decide_eq_true h⟩

set_option maxRecDepth 100000 in
set_option maxHeartbeats 4000000 in
theorem rpcheck_bad (w : World) (v : Value) (L : List S2) (c0 : Bool) (hv : Pts w v L) (hL : L.length ≤ 1000000000000) (n : Int) (hn : chkPtsN L = n) (h0 : n ≠ 0) :
    Calls Tryz.prog 20 #[v, .bool c0] w fun e w' => e = .returned (.int .i64 n) ∧ Below w.heap.size w w' := by
  have HN := hide hn
  have h0i : ¬ n = 0 := h0
  clear hn
  go_enter Tryz.func20, Tryz.ntmps20
  go_wp2_with fail
  refine (rCheck_any _ _ L hv hL).mono ?_
  rw [HN.out]
  rintro e w1 ⟨rfl, hb1⟩
  go_wp2_with fail
  go_ret
  exact ⟨rfl, hb1⟩

set_option maxRecDepth 100000 in
set_option maxHeartbeats 4000000 in
theorem rpcheck_few (w : World) (v : Value) (L : List S2) (c0 : Bool) (hv : Pts w v L) (hL : L.length ≤ 64) (hn : chkPtsN L = 0) (h : L.length < 2 ∨ (c0 = true ∧ L.length < 3)) :
    Calls Tryz.prog 20 #[v, .bool c0] w fun e w' => e = .returned (.int .i64 13) ∧ Below w.heap.size w w' := by
  have HN := hide hn
  obtain ⟨A, c, rfl, _⟩ := id hv
  have HV := hide hv
  clear hn hv
  by_cases h2 : L.length < 2
  · have h2i : (L.length : Int) < 2 := by omega
    clear h
    go_enter Tryz.func20, Tryz.ntmps20
    go_wp2_with fail
    refine (rCheck_any _ _ L HV.out (by omega)).mono ?_
    rw [HN.out]
    rintro e w1 ⟨rfl, hb1⟩
    go_wp2_with fail
    go_ret
    exact ⟨rfl, hb1⟩
  · have h2i : ¬ (L.length : Int) < 2 := by omega
    obtain ⟨rfl, h3⟩ : c0 = true ∧ L.length < 3 := by rcases h with h | h; exact absurd h h2; exact h
    have h3i : (L.length : Int) < 3 := by omega
    go_enter Tryz.func20, Tryz.ntmps20
    go_wp2_with fail
    refine (rCheck_any _ _ L HV.out (by omega)).mono ?_
    rw [HN.out]
    rintro e w1 ⟨rfl, hb1⟩
    go_wp2_with fail
    go_ret
    exact ⟨rfl, hb1⟩

set_option maxRecDepth 100000 in
set_option maxHeartbeats 8000000 in
theorem rpcheck_ok (w : World) (v : Value) (L : List S2) (c0 : Bool) (hv : Pts w v L) (hL : L.length ≤ 64) (hn : chkPtsN L = 0) (h2 : 2 ≤ L.length) (h3 : c0 = true → 3 ≤ L.length) :
    Calls Tryz.prog 20 #[v, .bool c0] w fun e w' => e = .returned (.int .i64 (if twiceB L c0 = true then 7 else 0)) ∧ Below w.heap.size w w' := by
  have HN := hide hn
  obtain ⟨A, c, rfl, _⟩ := id hv
  have HV := hide hv
  have h2i : ¬ (L.length : Int) < 2 := by omega
  have hN1 : 1 ≤ segN L c0 := by unfold segN; split <;> omega
  have hN64 : segN L c0 ≤ 64 := by unfold segN; split <;> omega
  clear hn hv
  cases c0
  ·
    clear h3
    obtain ⟨R, hR⟩ : ∃ R, (if twiceB L false = true then (7 : Int) else 0) = R := ⟨_, rfl⟩
    rw [hR]
    have HR := hide hR
    clear hR
    go_enter Tryz.func20, Tryz.ntmps20
    go_wp2_with fail
    refine (rCheck_any _ _ L HV.out (by omega)).mono ?_
    rw [HN.out]
    rintro e w1 ⟨rfl, hb1⟩
    have HB1 := hide hb1
    have HV1 := hide (HV.out.below hb1)
    clear hb1
    go_wp2_with fail
    refine (segments_ref _ _ L false HV1.out h2 hL).mono ?_
    rintro e w2 ⟨⟨u, rfl, hsg⟩, hb2⟩
    obtain ⟨g, cap, rfl, hcell⟩ := hsg
    have HC := hide hcell
    have HB2 := hide (HB1.out.trans (hb2.mono HB1.out.size))
    clear hb2 hcell
    obtain ⟨N, hNN⟩ : ∃ N, N = segN L false := ⟨_, rfl⟩
    rw [← hNN] at hN1 hN64 HC ⊢
    have HNN := hide hNN
    clear hNN
    go_wp2_with fail
    go_loopg [28] N (fun n iv wr => ∃ j : Nat, iv = .int .i64 (j : Int) ∧ n + j = N ∧ (∀ i, i < j → gP L i ≠ nx L i) ∧ Below w2.heap.size w2 wr)
    case atStart => exact ⟨0, rfl, rfl, fun i h => absurd h (by omega), Below.refl _ _⟩
    case round =>
      obtain ⟨j, rfl, hq, hne, hb⟩ := hrel
      have HQ := hide hq
      have HNE := hide hne
      have HB := hide hb
      have HBw := hide (HB2.out.trans (hb.mono HB2.out.size))
      have hjN : j ≤ N := by omega
      clear hq hne
      by_cases hlt : j < N
      · have hji : (j : Int) < (N : Int) := by omega
        have hj0 : (0 : Int) ≤ (j : Int) := by omega
        obtain ⟨x1, x2, hx⟩ : ∃ x y, gP L j = (x, y) := ⟨_, _, rfl⟩
        obtain ⟨y1, y2, hy⟩ : ∃ x y, nx L j = (x, y) := ⟨_, _, rfl⟩
        have h4 : sg4 L j = [.int .i64 x1, .int .i64 x2, .int .i64 y1, .int .i64 y2] := by unfold sg4; rw [hx, hy]
        have k0 := HC.out j 0 (.int .i64 x1) hlt (by omega) (by rw [h4]; rfl)
        have k1 := HC.out j 1 (.int .i64 x2) hlt (by omega) (by rw [h4]; rfl)
        have k2 := HC.out j 2 (.int .i64 y1) hlt (by omega) (by rw [h4]; rfl)
        have k3 := HC.out j 3 (.int .i64 y2) hlt (by omega) (by rw [h4]; rfl)
        have c0 := (bcell hb _ _ (block_lt_of_cell k0)).trans k0
        have c1 := (bcell hb _ _ (block_lt_of_cell k1)).trans k1
        have c2 := (bcell hb _ _ (block_lt_of_cell k2)).trans k2
        have c3 := (bcell hb _ _ (block_lt_of_cell k3)).trans k3
        rw [Nat.add_zero] at c0
        have HXX := hide hx
        have HYY := hide hy
        clear k0 k1 k2 k3 h4 hb hx hy
        by_cases e1 : x1 = y1
        · by_cases e2 : x2 = y2
          · have HT := hide (show R = 7 from HR.out.symm.trans <| if_pos (twice_yes (i := j) (by rw [← HNN.out]; exact hlt) (by rw [HXX.out, HYY.out, e1, e2])))
            subst e1 e2
            go_wp2_with fail
            rw [HT.out]
            go_ret
            exact ⟨rfl, HBw.out.alloc HBw.out.size _⟩
          · have hne2 : gP L j ≠ nx L j := by rw [HXX.out, HYY.out]; intro h; exact e2 (Prod.mk.inj h).2
            have HE := hide hne2
            subst e1
            have f2 : (x2 = y2) = False := eq_false e2
            clear e2 hne2
            go_wp2_with fail
            go_roundg (gk - 1)
            case measure => have := HQ.out; omega
            case rel => exact ⟨j + 1, by go_num, by have := HQ.out; omega, fun i hi => by rcases Nat.lt_or_ge i j with h | h; exact HNE.out i h; (obtain rfl : i = j := by omega); exact HE.out, HB.out.alloc HB.out.size _⟩
        · have hne2 : gP L j ≠ nx L j := by rw [HXX.out, HYY.out]; intro h; exact e1 (Prod.mk.inj h).1
          have HE := hide hne2
          have f1 : (x1 = y1) = False := eq_false e1
          clear e1 hne2
          go_wp2_with fail
          go_roundg (gk - 1)
          case measure => have := HQ.out; omega
          case rel => exact ⟨j + 1, by go_num, by have := HQ.out; omega, fun i hi => by rcases Nat.lt_or_ge i j with h | h; exact HNE.out i h; (obtain rfl : i = j := by omega); exact HE.out, HB.out.alloc HB.out.size _⟩
      · have hji : ¬ (j : Int) < (N : Int) := by omega
        have HT := hide (show R = 0 from HR.out.symm.trans <| if_neg (by rw [twice_no (fun i hi => HNE.out i (by rw [← HNN.out] at hi; omega))]; simp))
        go_wp2_with fail
        rw [HT.out]
        go_ret
        exact ⟨rfl, HBw.out⟩
  ·
    have h3i : ¬ (L.length : Int) < 3 := by have := h3 rfl; omega
    have h3n : ¬ L.length < 3 := by have := h3 rfl; omega
    clear h3
    obtain ⟨R, hR⟩ : ∃ R, (if twiceB L true = true then (7 : Int) else 0) = R := ⟨_, rfl⟩
    rw [hR]
    have HR := hide hR
    clear hR
    go_enter Tryz.func20, Tryz.ntmps20
    go_wp2_with fail
    refine (rCheck_any _ _ L HV.out (by omega)).mono ?_
    rw [HN.out]
    rintro e w1 ⟨rfl, hb1⟩
    have HB1 := hide hb1
    have HV1 := hide (HV.out.below hb1)
    clear hb1
    go_wp2_with fail
    refine (segments_ref _ _ L true HV1.out h2 hL).mono ?_
    rintro e w2 ⟨⟨u, rfl, hsg⟩, hb2⟩
    obtain ⟨g, cap, rfl, hcell⟩ := hsg
    have HC := hide hcell
    have HB2 := hide (HB1.out.trans (hb2.mono HB1.out.size))
    clear hb2 hcell
    obtain ⟨N, hNN⟩ : ∃ N, N = segN L true := ⟨_, rfl⟩
    rw [← hNN] at hN1 hN64 HC ⊢
    have HNN := hide hNN
    clear hNN
    go_wp2_with fail
    go_loopg [28] N (fun n iv wr => ∃ j : Nat, iv = .int .i64 (j : Int) ∧ n + j = N ∧ (∀ i, i < j → gP L i ≠ nx L i) ∧ Below w2.heap.size w2 wr)
    case atStart => exact ⟨0, rfl, rfl, fun i h => absurd h (by omega), Below.refl _ _⟩
    case round =>
      obtain ⟨j, rfl, hq, hne, hb⟩ := hrel
      have HQ := hide hq
      have HNE := hide hne
      have HB := hide hb
      have HBw := hide (HB2.out.trans (hb.mono HB2.out.size))
      have hjN : j ≤ N := by omega
      clear hq hne
      by_cases hlt : j < N
      · have hji : (j : Int) < (N : Int) := by omega
        have hj0 : (0 : Int) ≤ (j : Int) := by omega
        obtain ⟨x1, x2, hx⟩ : ∃ x y, gP L j = (x, y) := ⟨_, _, rfl⟩
        obtain ⟨y1, y2, hy⟩ : ∃ x y, nx L j = (x, y) := ⟨_, _, rfl⟩
        have h4 : sg4 L j = [.int .i64 x1, .int .i64 x2, .int .i64 y1, .int .i64 y2] := by unfold sg4; rw [hx, hy]
        have k0 := HC.out j 0 (.int .i64 x1) hlt (by omega) (by rw [h4]; rfl)
        have k1 := HC.out j 1 (.int .i64 x2) hlt (by omega) (by rw [h4]; rfl)
        have k2 := HC.out j 2 (.int .i64 y1) hlt (by omega) (by rw [h4]; rfl)
        have k3 := HC.out j 3 (.int .i64 y2) hlt (by omega) (by rw [h4]; rfl)
        have c0 := (bcell hb _ _ (block_lt_of_cell k0)).trans k0
        have c1 := (bcell hb _ _ (block_lt_of_cell k1)).trans k1
        have c2 := (bcell hb _ _ (block_lt_of_cell k2)).trans k2
        have c3 := (bcell hb _ _ (block_lt_of_cell k3)).trans k3
        rw [Nat.add_zero] at c0
        have HXX := hide hx
        have HYY := hide hy
        clear k0 k1 k2 k3 h4 hb hx hy
        by_cases e1 : x1 = y1
        · by_cases e2 : x2 = y2
          · have HT := hide (show R = 7 from HR.out.symm.trans <| if_pos (twice_yes (i := j) (by rw [← HNN.out]; exact hlt) (by rw [HXX.out, HYY.out, e1, e2])))
            subst e1 e2
            go_wp2_with fail
            rw [HT.out]
            go_ret
            exact ⟨rfl, HBw.out.alloc HBw.out.size _⟩
          · have hne2 : gP L j ≠ nx L j := by rw [HXX.out, HYY.out]; intro h; exact e2 (Prod.mk.inj h).2
            have HE := hide hne2
            subst e1
            have f2 : (x2 = y2) = False := eq_false e2
            clear e2 hne2
            go_wp2_with fail
            go_roundg (gk - 1)
            case measure => have := HQ.out; omega
            case rel => exact ⟨j + 1, by go_num, by have := HQ.out; omega, fun i hi => by rcases Nat.lt_or_ge i j with h | h; exact HNE.out i h; (obtain rfl : i = j := by omega); exact HE.out, HB.out.alloc HB.out.size _⟩
        · have hne2 : gP L j ≠ nx L j := by rw [HXX.out, HYY.out]; intro h; exact e1 (Prod.mk.inj h).1
          have HE := hide hne2
          have f1 : (x1 = y1) = False := eq_false e1
          clear e1 hne2
          go_wp2_with fail
          go_roundg (gk - 1)
          case measure => have := HQ.out; omega
          case rel => exact ⟨j + 1, by go_num, by have := HQ.out; omega, fun i hi => by rcases Nat.lt_or_ge i j with h | h; exact HNE.out i h; (obtain rfl : i = j := by omega); exact HE.out, HB.out.alloc HB.out.size _⟩
      · have hji : ¬ (j : Int) < (N : Int) := by omega
        have HT := hide (show R = 0 from HR.out.symm.trans <| if_neg (by rw [twice_no (fun i hi => HNE.out i (by rw [← HNN.out] at hi; omega))]; simp))
        go_wp2_with fail
        rw [HT.out]
        go_ret
        exact ⟨rfl, HBw.out⟩

theorem rpcheck_any (w : World) (v : Value) (L : List S2) (c0 : Bool) (hv : Pts w v L) (hL : L.length ≤ 1000000000000) :
    Calls Tryz.prog 20 #[v, .bool c0] w fun e w' => e = .returned (.int .i64 (chkP L c0)) ∧ Below w.heap.size w w' := by
  rcases chkPtsN_cases L with h | h | ⟨h, hl, _⟩
  · rw [chkP, h, if_neg (by decide)]; exact rpcheck_bad w v L c0 hv hL 5 h (by omega)
  · rw [chkP, h, if_neg (by decide)]; exact rpcheck_bad w v L c0 hv hL 2 h (by omega)
  · rw [chkP, h, if_pos rfl, chkL]
    by_cases h2 : L.length < 2 ∨ (c0 = true ∧ L.length < 3)
    · rw [if_pos h2]; exact rpcheck_few w v L c0 hv hl h h2
    · rw [if_neg h2]; exact rpcheck_ok w v L c0 hv hl h (Nat.not_lt.1 fun h' => h2 (.inl h')) (fun e => Nat.not_lt.1 fun h' => h2 (.inr ⟨e, h'⟩))
end Go.Proofs.YtendaaghmeoddaaGreatDoor
