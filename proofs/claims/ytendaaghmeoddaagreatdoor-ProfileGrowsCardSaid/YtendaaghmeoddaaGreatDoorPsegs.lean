/- profile.segments: the iterator over the segments of a polyline. -/
import Derived.RangeFuncNested
import Derived.RangeFuncBound
import Derived.RangeFuncCalls
import Derived.RangeFuncLeaves
import Derived.Shelf.Abstract
import Derived.Shelf.RegionOpen
import Derived.OwnWalkIn
import Derived.TacticsInMore
import Derived.LoopNIn
import Derived.LoopIn
import Derived.Test.YtendaaghmeoddaaGreatDoorChks
import Derived.Test.YtendaaghmeoddaaGreatDoorPturn
namespace Go.Proofs.YtendaaghmeoddaaGreatDoor
open Go.RowKit Go.Shelf MLab
attribute [local go_sem] Oper.semAt_some

/-- What the iterator hands over: the index of a segment and its ends. -/
def encS (L : List S2) (j : Nat) : Array Value := #[.int .i64 (j : Int), .agg #[.int .i64 (gP L j).1, .int .i64 (gP L j).2, .int .i64 (nx L j).1, .int .i64 (nx L j).2]]
theorem segN_le (L : List S2) (c : Bool) : segN L c ≤ L.length := by unfold segN; split <;> omega

/-- What a round keeps: what lay below n, and the boxes of the slice and of the bool. -/
def KpS (n Bs Bc : Nat) (v u : Value) (W W' : World) : Prop := Below n W W' ∧ (W.cell? ⟨Bs, 0, none⟩ = some v → W'.cell? ⟨Bs, 0, none⟩ = some v) ∧ (W.cell? ⟨Bc, 0, none⟩ = some u → W'.cell? ⟨Bc, 0, none⟩ = some u)
theorem KpS.trans {n Bs Bc : Nat} {v u : Value} {A B C : World} (h : KpS n Bs Bc v u A B) (k : KpS n Bs Bc v u B C) : KpS n Bs Bc v u A C := ⟨h.1.trans k.1, fun e => k.2.1 (h.2.1 e), fun e => k.2.2 (h.2.2 e)⟩
theorem KpS.of_below {n Bs Bc : Nat} {v u : Value} {A B : World} (hn : n ≤ A.heap.size) (h : Below A.heap.size A B) : KpS n Bs Bc v u A B := ⟨h.mono hn, fun e => (bcell h _ _ (block_lt_of_cell e)).trans e, fun e => (bcell h _ _ (block_lt_of_cell e)).trans e⟩
theorem KpS.put {n Bs Bc : Nat} {v u : Value} {w : World} (hn : n ≤ w.heap.size) (W : World) (l : Nat) (o o' : Obj) (hl : w.heap.size ≤ l) (h : W.heap[l]? = some o) (hc : o.isCells = false) (hk : o.isWalk = false) : KpS n Bs Bc v u W (W.putObj l o') :=
  ⟨belowK_b hn W l o o' hl h hc hk, fun e => cell_kept e (grownBy_putObj' W l o') (fun r e => by cases e; exact ⟨o, h, hc⟩), fun e => cell_kept e (grownBy_putObj' W l o') (fun r e => by cases e; exact ⟨o, h, hc⟩)⟩
theorem keepsFrom_below {B : Nat} {W W' : World} (h : Below W.heap.size W W') : KeepsFrom B W W' := ⟨h.size, fun k _ _ h0 _ => (h.block k (Array.getElem?_eq_some_iff.1 h0).1).trans h0⟩
theorem drewG (W : World) : W.grownBy W.drew none := ⟨rfl, rfl, rfl, Nat.le_refl _, fun _ _ _ => rfl⟩

/-- A round has left: it was one of the first segN. -/
def SpS (L : List S2) (c0 : Bool) (pre : List Nat) : Prop := ∃ k, k < segN L c0 ∧ pre = List.range k ++ [k]
theorem segments_any (w : World) (A : Option Addr) (len cap : Nat) (c : Bool) : Calls Tryz.prog 54 #[.slice A len cap, .bool c] w fun e w' => e = .returned (.func (.func 95) #[] #[.pointer (some ⟨w.heap.size, 0, none⟩), .pointer (some ⟨w.heap.size + 1, 0, none⟩)]) ∧ w' = (w.alloc (.cells #[.slice A len cap] 22)).alloc (.cells #[.bool c] 4) := by
  go_enter Tryz.func54, Tryz.ntmps54
  go_wp2_with fail
  go_ret
  exact ⟨rfl, rfl⟩

set_option maxRecDepth 100000 in
set_option maxHeartbeats 8000000 in
/-- The closure of segments: it yields the segments one by one. -/
theorem segments1_in (n : Nat) (hn : 1 ≤ n) (l Bs Bc n₀ : Nat) (v : Value) (L : List S2) (c0 : Bool) (hL : L.length ≤ 64) (J Jx : List Nat → World → Prop)
    (w0 : World) (hn0 : n₀ ≤ w0.heap.size) (hv : Pts w0 v L) (hlow : ∀ b off len cap, v = .slice (some ⟨b, off, none⟩) len cap → 0 < len → b < n₀)
    (W : World) (hW : Below w0.heap.size w0 W) (hBs : W.cell? ⟨Bs, 0, none⟩ = some v) (hBc : W.cell? ⟨Bc, 0, none⟩ = some (.bool c0)) (hJ : AbidesFrom W.heap.size J)
    (hY : ∀ pre x W, J pre W → pre.length < segN L c0 → YieldAt Fence.wide (n - 1) Tryz.prog l (encS L x) W fun e W' =>
      (e = .returned (.bool true) ∧ J (pre ++ [x]) W' ∧ KpS n₀ Bs Bc v (.bool c0) W W') ∨ (e = .returned (.bool false) ∧ Jx (pre ++ [x]) W'))
    (h0 : J [] W) :
    CallsIn Fence.wide n Tryz.prog 95 #[.func (.yield l) #[] #[], .pointer (some ⟨Bs, 0, none⟩), .pointer (some ⟨Bc, 0, none⟩)] W fun e W' => (∃ v, e = .returned v) ∧
      ((∃ ys, ys = List.range (segN L c0) ∧ J ys W') ∨ (∃ pre, SpS L c0 pre ∧ Jx pre W')) := by
  obtain ⟨A, c, rfl, hc⟩ := id hv
  have HC := hide hc
  have HY := hide hY
  have HJ := hide hJ
  have HL := hide hlow
  clear hv hc hY hJ hlow
  refine callsIn_of_wp Tryz.func95 rfl trivial ?_ rfl
  simp only [Tryz.ntmps95, List.size_toArray, List.length_cons, List.length_nil, Nat.reduceAdd, Nat.reduceSub, Array.replicate_succ, Array.replicate_zero, List.push_toArray, List.append_toArray, List.nil_append, List.cons_append]
  gi_wp2
  gi_loopw [8] (fun i wr => ∃ k : Nat, k ≤ segN L c0 ∧ i = .int .i64 (k : Int) ∧ J (List.range k) wr ∧ Below n₀ W wr ∧ wr.cell? ⟨Bs, 0, none⟩ = some (.slice A L.length c) ∧ wr.cell? ⟨Bc, 0, none⟩ = some (.bool c0) ∧ W.heap.size ≤ wr.heap.size)
    (fun i _ => L.length - (intOf i).toNat)
  case atStart => exact ⟨0, Nat.zero_le _, rfl, h0, Below.refl _ _, hBs, hBc, Nat.le_refl _⟩
  case round =>
    obtain ⟨k, hk, rfl, hJs, hnx, hbx, hbc, hsz⟩ := hrel
    have hsn := segN_le L c0
    by_cases hlt : k < L.length
    · have hji : (k : Int) < (L.length : Int) := by omega
      have hlen : (0 : Int) < (L.length : Int) := by omega
      have hlen0 : ¬ (L.length : Int) = 0 := by omega
      have hlen1 : ¬ L.length = 0 := by omega
      have hlen2 : ¬ L = [] := by intro h; rw [h] at hlen1; exact hlen1 rfl
      have hlenb : (L.length : Int) ≤ 64 := by omega
      have hj2 : (k + 1) % L.length < L.length := Nat.mod_lt _ (by omega)
      obtain ⟨j2, hjj⟩ : ∃ j2, (k + 1) % L.length = j2 := ⟨_, rfl⟩
      rw [hjj] at hj2
      have hj2i : (j2 : Int) < (L.length : Int) := by omega
      have hmod : Int.tmod ((k : Int) + 1) (L.length : Int) = (j2 : Int) := by
        rw [← hjj, Int.tmod_eq_emod_of_nonneg (by omega), Int.natCast_emod, Int.natCast_add]; rfl
      have hmod2 : ((k : Int) + 1) % (L.length : Int) = (j2 : Int) := by
        rw [← hjj, Int.natCast_emod, Int.natCast_add]; rfl
      have hwr : IntKind.i64.wrap ((k : Int) + 1) = (k : Int) + 1 := IntWalk.i64_in _ ⟨by omega, by omega⟩
      have hmodw : (IntKind.i64.wrap ((k : Int) + 1)).tmod (L.length : Int) = (j2 : Int) := by rw [hwr, hmod]
      have hjpos : (0 : Int) ≤ (j2 : Int) := by omega
      obtain ⟨b, off, hA, hcell⟩ := HC.out (by omega)
      subst hA
      have hb : b < n₀ := HL.out b off _ _ rfl (by omega)
      obtain ⟨x1, x2, hx⟩ : ∃ x y, gP L k = (x, y) := ⟨_, _, rfl⟩
      obtain ⟨y1, y2, hy⟩ : ∃ x y, gP L j2 = (x, y) := ⟨_, _, rfl⟩
      obtain ⟨a0, a1⟩ := hcell k _ (gP_eq hlt)
      obtain ⟨b0, b1⟩ := hcell j2 _ (gP_eq hj2)
      rw [hx] at a0 a1
      rw [hy] at b0 b1
      have up : ∀ o u, w0.cell? ⟨b, o, none⟩ = some u → wr.cell? ⟨b, o, none⟩ = some u := fun o u h => ((hnx.cell (p := ⟨b, o, none⟩) hb).trans ((hW.mono hn0).cell (p := ⟨b, o, none⟩) hb)).trans h
      have a0 := up _ _ a0
      have a1 := up _ _ a1
      have b0 := up _ _ b0
      have b1 := up _ _ b1
      have henc : encS L k = #[.int .i64 (k : Int), .agg #[.int .i64 x1, .int .i64 x2, .int .i64 y1, .int .i64 y2]] := by
        unfold encS nx
        rw [hjj, hx, hy]
      have HE := hide henc
      clear henc hx hy hcell up
      have P := allocs_below wr [.cells #[.int .i64 x1, .int .i64 x2] 24]
      have hbx2 : (wr.alloc (.cells #[.int .i64 x1, .int .i64 x2] 24)).cell? ⟨Bs, 0, none⟩ = some (.slice (some ⟨b, off, none⟩) L.length c) := (bcell P _ _ (block_lt_of_cell hbx)).trans hbx
      have hbc2 : (wr.alloc (.cells #[.int .i64 x1, .int .i64 x2] 24)).cell? ⟨Bc, 0, none⟩ = some (.bool c0) := (bcell P _ _ (block_lt_of_cell hbc)).trans hbc
      have b02 : (wr.alloc (.cells #[.int .i64 x1, .int .i64 x2] 24)).cell? ⟨b, off + j2 * 2, none⟩ = some (.int .i64 y1) := (bcell P _ _ (block_lt_of_cell b0)).trans b0
      have b12 : (wr.alloc (.cells #[.int .i64 x1, .int .i64 x2] 24)).cell? ⟨b, off + j2 * 2 + 1, none⟩ = some (.int .i64 y2) := (bcell P _ _ (block_lt_of_cell b1)).trans b1
      clear P
      have hJa := HJ.out _ _ _ none hJs (World.grownBy_alloc wr (.cells #[.int .i64 x1, .int .i64 x2] 24) none) (fun r e => by cases e)
      have HJA := hide hJa
      clear hJa hJs
      by_cases hlast : k + 1 = L.length ∧ c0 = false
      · obtain ⟨hl1, rfl⟩ := hlast
        have hl2 : (k : Int) + 1 = (L.length : Int) := by omega
        have hfin : List.range k = List.range (segN L false) := by unfold segN; rw [if_neg (by simp)]; congr 1; omega
        have HF := hide hfin
        have hl4 : ((k : Int) + 1 == (L.length : Int)) = true := by rw [beq_iff_eq]; exact hl2
        have HL1 := hide hl1
        have HL2 := hide hl2
        clear hfin hmod hmod2 hmodw hl1 hl2
        gi_wp2
        refine bodyPost_ret (results_none rfl _ _ _) rfl ?_
        exact ⟨⟨_, rfl⟩, .inl (HF.out ▸ HJA.out)⟩
      · have hks : k < segN L c0 := by
          cases c0
          · unfold segN at hk ⊢
            rw [if_neg (by simp)] at hk ⊢
            have : k + 1 ≠ L.length := fun e => hlast ⟨e, rfl⟩
            omega
          · unfold segN; rw [if_pos rfl]; exact hlt
        have hg1 : ((k : Int) + 1 == (L.length : Int)) = decide (k + 1 = L.length) := by
          rw [Bool.eq_iff_iff]; simp; omega
        have hJ2 := HJ.out _ _ _ none HJA.out (drewG _) (fun r e => by cases e)
        obtain ⟨fn, tmps, assign, body, hy, hR⟩ := HY.out (List.range k) k _ hJ2 (by rw [List.length_range]; exact hks)
        rw [HE.out] at hy
        have hR2 := hR.mono (R' := fun e W' => ∃ g : Bool, e = .returned (.bool g) ∧ (g = true → J (List.range k ++ [k]) W' ∧ KpS n₀ Bs Bc (.slice (some ⟨b, off, none⟩) L.length c) (.bool c0) ((wr.alloc (.cells #[.int .i64 x1, .int .i64 x2] 24)).drew) W') ∧ (g = false → Jx (List.range k ++ [k]) W')) (by
          rintro e W' (⟨rfl, h1, h2⟩ | ⟨rfl, h1⟩)
          · exact ⟨true, rfl, fun _ => ⟨h1, h2⟩, fun h => absurd h (by simp)⟩
          · exact ⟨false, rfl, fun h => absurd h (by simp), fun _ => h1⟩)
        have HR := hide hR2
        have HN := hide hnx
        clear hR hR2 hJ2 hnx
        have hmx : Tryz.prog.follows .mixedOrders = true := by kernel_rfl
        have HLAST := hide hlast
        have HKS := hide hks
        clear hlast hks
        by_cases he : k + 1 = L.length
        · have hgt : ((k : Int) + 1 == (L.length : Int)) = true := by rw [hg1]; exact decide_eq_true he
          obtain rfl : c0 = true := by
            cases hc : c0
            · exact absurd ⟨he, hc⟩ HLAST.out
            · rfl
          clear hg1 he
          gi_wp2
          gi_region_with_o (refine HR.out.mono ?_; rintro e W3 ⟨g, rfl, hg1, hg2⟩)
          all_goals clear hy
          all_goals
            have HG1 := hide hg1
            have HG2 := hide hg2
            clear hg1 hg2
            cases g
            · gi_wp2
              refine bodyPost_ret (results_none rfl _ _ _) rfl ?_
              exact ⟨⟨_, rfl⟩, .inr ⟨_, ⟨k, HKS.out, rfl⟩, HG2.out (by simp)⟩⟩
            · have hk3 := (HG1.out (by simp)).2
              have HJ3 := hide (HG1.out (by simp)).1
              have hb3 := hk3.2.1 hbx2
              have hc3 := hk3.2.2 hbc2
              have hn3 := hide (Below.trans (Below.trans HN.out ((allocs_below wr [.cells #[.int .i64 x1, .int .i64 x2] 24]).mono (Nat.le_trans hn0 (Nat.le_trans hW.size hsz))).drew) hk3.1)
              have hs3 : W.heap.size ≤ W3.heap.size := by have h := hk3.1.size; simp at h; omega
              clear hk3
              gi_wp2
              go_roundw
              case rel => exact ⟨k + 1, HKS.out, by simp, by rw [List.range_succ]; exact HJ3.out, hn3.out, hb3, hc3, hs3⟩
              case measure => simp [intOf]; omega
        · have hgt : ((k : Int) + 1 == (L.length : Int)) = false := by rw [hg1]; exact decide_eq_false he
          clear hg1
          gi_wp2
          gi_region_with_o (refine HR.out.mono ?_; rintro e W3 ⟨g, rfl, hg1, hg2⟩)
          all_goals clear hy
          all_goals
            have HG1 := hide hg1
            have HG2 := hide hg2
            clear hg1 hg2
            cases g
            · gi_wp2
              refine bodyPost_ret (results_none rfl _ _ _) rfl ?_
              exact ⟨⟨_, rfl⟩, .inr ⟨_, ⟨k, HKS.out, rfl⟩, HG2.out (by simp)⟩⟩
            · have hk3 := (HG1.out (by simp)).2
              have HJ3 := hide (HG1.out (by simp)).1
              have hb3 := hk3.2.1 hbx2
              have hc3 := hk3.2.2 hbc2
              have hn3 := hide (Below.trans (Below.trans HN.out ((allocs_below wr [.cells #[.int .i64 x1, .int .i64 x2] 24]).mono (Nat.le_trans hn0 (Nat.le_trans hW.size hsz))).drew) hk3.1)
              have hs3 : W.heap.size ≤ W3.heap.size := by have h := hk3.1.size; simp at h; omega
              clear hk3
              gi_wp2
              go_roundw
              case rel => exact ⟨k + 1, HKS.out, by simp, by rw [List.range_succ]; exact HJ3.out, hn3.out, hb3, hc3, hs3⟩
              case measure => simp [intOf]; omega
    · have hkL : k = L.length := by omega
      have hks : segN L c0 = L.length := by omega
      subst hkL
      gi_wp2
      go_end0
      exact ⟨⟨_, rfl⟩, .inl ⟨_, rfl, by rw [hks]; exact hJs⟩⟩

/-- The function value that segments returns yields the segments, one by one. -/
theorem segments_stops (n : Nat) (hn : 1 ≤ n) (Bs Bc n₀ : Nat) (v : Value) (L : List S2) (c0 : Bool) (hL : L.length ≤ 64) (w0 : World) (hn0 : n₀ ≤ w0.heap.size) (hBs : w0.cell? ⟨Bs, 0, none⟩ = some v) (hBc : w0.cell? ⟨Bc, 0, none⟩ = some (.bool c0)) (hv : Pts w0 v L)
    (hlow : ∀ b off len cap, v = .slice (some ⟨b, off, none⟩) len cap → 0 < len → b < n₀) :
    SeqStopsK Fence.wide n Tryz.prog 95 #[.pointer (some ⟨Bs, 0, none⟩), .pointer (some ⟨Bc, 0, none⟩)] (encS L) (KpS n₀ Bs Bc v (.bool c0)) (fun ys => ys = List.range (segN L c0)) (SpS L c0) (segN L c0) w0 := fun l J Jx W hW hJ _ hY h0 =>
  segments1_in n hn l Bs Bc n₀ v L c0 hL J Jx w0 hn0 hv hlow W hW ((bcell hW _ _ (block_lt_of_cell hBs)).trans hBs) ((bcell hW _ _ (block_lt_of_cell hBc)).trans hBc) hJ hY h0
end Go.Proofs.YtendaaghmeoddaaGreatDoor
