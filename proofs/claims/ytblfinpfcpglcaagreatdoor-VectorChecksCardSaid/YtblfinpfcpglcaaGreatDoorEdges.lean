/- vector.edges: the iterator over the sides of a polygon. -/
import Derived.RangeFuncNested
import Derived.RangeFuncBound
import Derived.RangeFuncCalls
import Derived.RangeFuncLeaves
import Derived.Shelf.Abstract
import Derived.Shelf.RegionOpen
import Derived.OwnWalkIn
import Derived.TacticsInMore
import Derived.LoopNIn
import Derived.LoopIn
import Derived.Test.YtblfinpfcpglcaaGreatDoorChks
import Derived.Test.YtblfinpfcpglcaaGreatDoorCross
import Derived.Test.YtblfinpfcpglcaaGreatDoorStraight
namespace Go.Proofs.YtblfinpfcpglcaaGreatDoor
open Go.RowKit Go.Shelf MLab
attribute [local go_sem] Oper.semAt_some

/-- A side of a polygon: two right points. -/
abbrev E2 := { p : S2 × S2 // Co p.1.1 ∧ Co p.1.2 ∧ Co p.2.1 ∧ Co p.2.2 }
def encE (x : E2) : Array Value := #[ptv x.1.1.1 x.1.1.2, ptv x.1.2.1 x.1.2.2]
def esum (l : List E2) : Int := l.foldl (fun s x => s + turn2 x.1.1 x.1.2) 0
theorem esum_snoc (l : List E2) (x : E2) : esum (l ++ [x]) = esum l + turn2 x.1.1 x.1.2 := by simp [esum]
theorem e2_bound (x : E2) : -20000000000 ≤ turn2 x.1.1 x.1.2 ∧ turn2 x.1.1 x.1.2 ≤ 20000000000 := by
  have h := turn2_bound (a := x.1.1) (b := x.1.2) (M := 100000) (by omega) x.2.1 x.2.2.1 x.2.2.2.1 x.2.2.2.2
  omega
theorem esum_bound (l : List E2) : -((l.length : Int) * 20000000000) ≤ esum l ∧ esum l ≤ (l.length : Int) * 20000000000 := by
  have gen : ∀ (l : List E2) (s : Int), -((l.length : Int) * 20000000000) + s ≤ l.foldl (fun s x => s + turn2 x.1.1 x.1.2) s ∧ l.foldl (fun s x => s + turn2 x.1.1 x.1.2) s ≤ (l.length : Int) * 20000000000 + s := by
    intro l
    induction l with
    | nil => intro s; simp
    | cons x r ih =>
      intro s
      have h := ih (s + turn2 x.1.1 x.1.2)
      have b := e2_bound x
      rw [List.foldl_cons, List.length_cons]
      omega
  have := gen l 0
  unfold esum
  omega
/-- The points are right. -/
def RightL (L : List S2) : Prop := ∀ i, Co (gP L i).1 ∧ Co (gP L i).2
theorem right_of_all {L : List S2} (hok : L.all okPts = true) : RightL L := by
  intro i
  by_cases h : i < L.length
  · exact of_decide_eq_true (List.all_eq_true.1 hok _ (List.mem_of_getElem? (gP_eq h)))
  · rw [gP, List.getD_eq_getElem?_getD, List.getElem?_eq_none (by omega)]; decide
def edge (L : List S2) (hr : RightL L) (j : Nat) : E2 := ⟨(gP L j, gP L ((j + 1) % L.length)), (hr j).1, (hr j).2, (hr _).1, (hr _).2⟩
def uptoE (L : List S2) (hr : RightL L) (k : Nat) : List E2 := (List.range k).map (edge L hr)
theorem uptoE_succ (L : List S2) (hr : RightL L) (k : Nat) : uptoE L hr (k + 1) = uptoE L hr k ++ [edge L hr k] := by simp [uptoE, List.range_succ]
theorem uptoE_length (L : List S2) (hr : RightL L) (k : Nat) : (uptoE L hr k).length = k := by simp [uptoE]
theorem esum_upto (L : List S2) (hr : RightL L) : ∀ k, esum (uptoE L hr k) = areaUp L k
  | 0 => rfl
  | k + 1 => by rw [uptoE_succ, esum_snoc, esum_upto L hr k]; rfl

/-- What a round keeps: what lay below n, and the box of the slice. -/
def KpE (n Bs : Nat) (v : Value) (W W' : World) : Prop := Below n W W' ∧ (W.cell? ⟨Bs, 0, none⟩ = some v → W'.cell? ⟨Bs, 0, none⟩ = some v)
theorem KpE.trans {n Bs : Nat} {v : Value} {A B C : World} (h : KpE n Bs v A B) (k : KpE n Bs v B C) : KpE n Bs v A C := ⟨h.1.trans k.1, fun e => k.2 (h.2 e)⟩
theorem KpE.of_below {n Bs : Nat} {v : Value} {A B : World} (hn : n ≤ A.heap.size) (h : Below A.heap.size A B) : KpE n Bs v A B := ⟨h.mono hn, fun e => (bcell h _ _ (block_lt_of_cell e)).trans e⟩
theorem KpE.put {n Bs : Nat} {v : Value} {w : World} (hn : n ≤ w.heap.size) (W : World) (l : Nat) (o o' : Obj) (hl : w.heap.size ≤ l) (h : W.heap[l]? = some o) (hc : o.isCells = false) (hk : o.isWalk = false) : KpE n Bs v W (W.putObj l o') :=
  ⟨belowK_b hn W l o o' hl h hc hk, fun e => cell_kept e (grownBy_putObj' W l o') (fun r e => by cases e; exact ⟨o, h, hc⟩)⟩
theorem keepsFrom_below {B : Nat} {W W' : World} (h : Below W.heap.size W W') : KeepsFrom B W W' := ⟨h.size, fun k _ _ h0 _ => (h.block k (Array.getElem?_eq_some_iff.1 h0).1).trans h0⟩

theorem drewG (W : World) : W.grownBy W.drew none := ⟨rfl, rfl, rfl, Nat.le_refl _, fun _ _ _ => rfl⟩

theorem edges_any (w : World) (A : Option Addr) (len cap : Nat) : Calls Tryz.prog 90 #[.slice A len cap] w fun e w' => e = .returned (.func (.func 129) #[] #[.pointer (some ⟨w.heap.size, 0, none⟩)]) ∧ w' = w.alloc (.cells #[.slice A len cap] 65) := by
  go_enter Tryz.func90, Tryz.ntmps90
  go_wp2_with fail
  go_ret
  exact ⟨rfl, rfl⟩

set_option maxRecDepth 100000 in
set_option maxHeartbeats 4000000 in
/-- The closure of edges: it yields the sides one by one. -/
theorem edges1_in (n : Nat) (hn : 1 ≤ n) (l Bs n₀ : Nat) (v : Value) (L : List S2) (hr : RightL L) (hL : L.length ≤ 64) (J Jx : List E2 → World → Prop)
    (w0 : World) (hn0 : n₀ ≤ w0.heap.size) (hv : Pts w0 v L) (hlow : ∀ b off len cap, v = .slice (some ⟨b, off, none⟩) len cap → 0 < len → b < n₀)
    (W : World) (hW : Below w0.heap.size w0 W) (hBs : W.cell? ⟨Bs, 0, none⟩ = some v) (hJ : AbidesFrom W.heap.size J)
    (hY : ∀ pre x W, J pre W → pre.length < L.length → YieldAt Fence.wide (n - 1) Tryz.prog l (encE x) W fun e W' =>
      (e = .returned (.bool true) ∧ J (pre ++ [x]) W' ∧ KpE n₀ Bs v W W') ∨ (e = .returned (.bool false) ∧ Jx (pre ++ [x]) W'))
    (h0 : J [] W) :
    CallsIn Fence.wide n Tryz.prog 129 #[.func (.yield l) #[] #[], .pointer (some ⟨Bs, 0, none⟩)] W fun e W' => (∃ v, e = .returned v) ∧
      ((∃ ys, ys = uptoE L hr L.length ∧ J ys W') ∨ (∃ pre, True ∧ Jx pre W')) := by
  obtain ⟨A, c, rfl, hc⟩ := id hv
  have HC := hide hc
  have HY := hide hY
  have HJ := hide hJ
  have HL := hide hlow
  clear hv hc hY hJ hlow
  refine callsIn_of_wp Tryz.func129 rfl trivial ?_ rfl
  simp only [Tryz.ntmps129, List.size_toArray, List.length_cons, List.length_nil, Nat.reduceAdd, Nat.reduceSub, Array.replicate_succ, Array.replicate_zero, List.push_toArray, List.append_toArray, List.nil_append, List.cons_append]
  gi_wp2
  gi_loopw [7] (fun i wr => ∃ k : Nat, k ≤ L.length ∧ i = .int .i64 (k : Int) ∧ J (uptoE L hr k) wr ∧ Below n₀ W wr ∧ wr.cell? ⟨Bs, 0, none⟩ = some (.slice A L.length c) ∧ W.heap.size ≤ wr.heap.size)
    (fun i _ => L.length - (intOf i).toNat)
  case atStart => exact ⟨0, Nat.zero_le _, rfl, h0, Below.refl _ _, hBs, Nat.le_refl _⟩
  case round =>
    obtain ⟨k, hk, rfl, hJs, hnx, hbx, hsz⟩ := hrel
    by_cases hlt : k < L.length
    · have hji : (k : Int) < (L.length : Int) := by omega
      have hlen : (0 : Int) < (L.length : Int) := by omega
      have hlen0 : ¬ (L.length : Int) = 0 := by omega
      have hlen1 : ¬ L.length = 0 := by omega
      have hlen2 : ¬ L = [] := by intro h; rw [h] at hlen1; exact hlen1 rfl
      have hlenb : (L.length : Int) ≤ 64 := by omega
      have hj2 : (k + 1) % L.length < L.length := Nat.mod_lt _ (by omega)
      obtain ⟨j2, hjj⟩ : ∃ j2, (k + 1) % L.length = j2 := ⟨_, rfl⟩
      rw [hjj] at hj2
      have hj2i : (j2 : Int) < (L.length : Int) := by omega
      have hmod : Int.tmod ((k : Int) + 1) (L.length : Int) = (j2 : Int) := by
        rw [← hjj, Int.tmod_eq_emod_of_nonneg (by omega), Int.natCast_emod, Int.natCast_add]; rfl
      have hmod2 : ((k : Int) + 1) % (L.length : Int) = (j2 : Int) := by
        rw [← hjj, Int.natCast_emod, Int.natCast_add]; rfl
      have hwr : IntKind.i64.wrap ((k : Int) + 1) = (k : Int) + 1 := IntWalk.i64_in _ ⟨by omega, by omega⟩
      have hmodw : (IntKind.i64.wrap ((k : Int) + 1)).tmod (L.length : Int) = (j2 : Int) := by rw [hwr, hmod]
      have hjpos : (0 : Int) ≤ (j2 : Int) := by omega
      obtain ⟨b, off, hA, hcell⟩ := HC.out (by omega)
      subst hA
      have hb : b < n₀ := HL.out b off _ _ rfl (by omega)
      obtain ⟨x1, x2, hx⟩ : ∃ x y, gP L k = (x, y) := ⟨_, _, rfl⟩
      obtain ⟨y1, y2, hy⟩ : ∃ x y, gP L j2 = (x, y) := ⟨_, _, rfl⟩
      obtain ⟨a0, a1⟩ := hcell k _ (gP_eq hlt)
      obtain ⟨b0, b1⟩ := hcell j2 _ (gP_eq hj2)
      rw [hx] at a0 a1
      rw [hy] at b0 b1
      have up : ∀ o u, w0.cell? ⟨b, o, none⟩ = some u → wr.cell? ⟨b, o, none⟩ = some u := fun o u h => ((hnx.cell (p := ⟨b, o, none⟩) hb).trans ((hW.mono hn0).cell (p := ⟨b, o, none⟩) hb)).trans h
      have a0 := up _ _ a0
      have a1 := up _ _ a1
      have b0 := up _ _ b0
      have b1 := up _ _ b1
      have henc : encE (edge L hr k) = #[ptv x1 x2, ptv y1 y2] := by
        show #[ptv (gP L k).1 (gP L k).2, ptv (gP L ((k + 1) % L.length)).1 (gP L ((k + 1) % L.length)).2] = _
        rw [hjj, hx, hy]
      have HE := hide henc
      have HX := hide hx
      have HYY := hide hy
      clear henc hx hy hcell up
      have hJ2 := HJ.out _ _ _ none (HJ.out _ _ _ none hJs (World.grownBy_alloc wr (.cells #[.int .i64 x1, .int .i64 x2] 23) none) (fun r e => by cases e)) (drewG _) (fun r e => by cases e)
      obtain ⟨fn, tmps, assign, body, hy, hR⟩ := HY.out (uptoE L hr k) (edge L hr k) _ hJ2 (by rw [uptoE_length]; exact hlt)
      rw [HE.out] at hy
      have hR2 := hR.mono (R' := fun e W' => ∃ g : Bool, e = .returned (.bool g) ∧ (g = true → J (uptoE L hr k ++ [edge L hr k]) W' ∧ KpE n₀ Bs (.slice (some ⟨b, off, none⟩) L.length c) ((wr.alloc (.cells #[.int .i64 x1, .int .i64 x2] 23)).drew) W') ∧ (g = false → Jx (uptoE L hr k ++ [edge L hr k]) W')) (by
        rintro e W' (⟨rfl, h1, h2⟩ | ⟨rfl, h1⟩)
        · exact ⟨true, rfl, fun _ => ⟨h1, h2⟩, fun h => absurd h (by simp)⟩
        · exact ⟨false, rfl, fun h => absurd h (by simp), fun _ => h1⟩)
      have HR := hide hR2
      have HN := hide hnx
      have HB := hide hbx
      have hbx2 : (wr.alloc (.cells #[.int .i64 x1, .int .i64 x2] 23)).cell? ⟨Bs, 0, none⟩ = some (.slice (some ⟨b, off, none⟩) L.length c) := (bcell (allocs_below wr [_]) _ _ (block_lt_of_cell hbx)).trans hbx
      have b02 : (wr.alloc (.cells #[.int .i64 x1, .int .i64 x2] 23)).cell? ⟨b, off + j2 * 2, none⟩ = some (.int .i64 y1) := (bcell (allocs_below wr [_]) _ _ (block_lt_of_cell b0)).trans b0
      have b12 : (wr.alloc (.cells #[.int .i64 x1, .int .i64 x2] 23)).cell? ⟨b, off + j2 * 2 + 1, none⟩ = some (.int .i64 y2) := (bcell (allocs_below wr [_]) _ _ (block_lt_of_cell b1)).trans b1
      clear hR hR2 hJ2 hnx
      have hmx : Tryz.prog.follows .mixedOrders = true := by kernel_rfl
      gi_wp2
      gi_region_with_o (refine HR.out.mono ?_; rintro e W3 ⟨g, rfl, hg1, hg2⟩)
      all_goals clear hy
      all_goals
        have HG1 := hide hg1
        have HG2 := hide hg2
        clear hg1 hg2
        cases g
        · gi_wp2
          refine bodyPost_ret (results_none rfl _ _ _) rfl ?_
          exact ⟨⟨_, rfl⟩, .inr ⟨_, HG2.out (by simp)⟩⟩
        · have hk3 := (HG1.out (by simp)).2
          have HJ3 := hide (HG1.out (by simp)).1
          have hb3 := hk3.2 hbx2
          have hn3 := hide (Below.trans (Below.trans HN.out ((allocs_below wr [.cells #[.int .i64 x1, .int .i64 x2] 23]).mono (Nat.le_trans hn0 (Nat.le_trans hW.size hsz))).drew) hk3.1)
          have hs3 : W.heap.size ≤ W3.heap.size := by have h := hk3.1.size; simp at h; omega
          clear hk3
          gi_wp2
          go_roundw
          case rel => exact ⟨k + 1, by omega, by simp, by rw [uptoE_succ]; exact HJ3.out, hn3.out, hb3, hs3⟩
          case measure => simp [intOf]; omega
    · obtain rfl : k = L.length := by omega
      gi_wp2
      go_end0
      exact ⟨⟨_, rfl⟩, .inl ⟨_, rfl, hJs⟩⟩

/-- The function value that edges returns yields the sides, one by one. -/
theorem edges_stops (n : Nat) (hn : 1 ≤ n) (Bs n₀ : Nat) (v : Value) (L : List S2) (hr : RightL L) (hL : L.length ≤ 64) (w0 : World) (hn0 : n₀ ≤ w0.heap.size) (hBs : w0.cell? ⟨Bs, 0, none⟩ = some v) (hv : Pts w0 v L)
    (hlow : ∀ b off len cap, v = .slice (some ⟨b, off, none⟩) len cap → 0 < len → b < n₀) :
    SeqStopsK Fence.wide n Tryz.prog 129 #[.pointer (some ⟨Bs, 0, none⟩)] encE (KpE n₀ Bs v) (fun ys => ys = uptoE L hr L.length) (fun _ => True) L.length w0 := fun l J Jx W hW hJ _ hY h0 =>
  edges1_in n hn l Bs n₀ v L hr hL J Jx w0 hn0 hv hlow W hW ((bcell hW _ _ (block_lt_of_cell hBs)).trans hBs) hJ hY h0
end Go.Proofs.YtblfinpfcpglcaaGreatDoor
