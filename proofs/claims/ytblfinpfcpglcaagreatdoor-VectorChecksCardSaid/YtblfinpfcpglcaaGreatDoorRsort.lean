/- metrolabref07: Before, Sorted, Order, SameInts. -/
import Derived.Test.YtblfinpfcpglcaaGreatDoorSorts
namespace Go.Proofs.YtblfinpfcpglcaaGreatDoor
open Go.RowKit MLab

set_option maxRecDepth 100000 in
set_option maxHeartbeats 1000000 in
theorem rbefore_any (w : World) (ax ay bx by_ : Int) :
    Calls Tryz.prog 138 #[ptv ax ay, ptv bx by_] w fun e w' => e = .returned (.bool (before (ax, ay) (bx, by_))) ∧ Below w.heap.size w w' := by
  have hb0 := allocs_below w [.cells #[.int .i64 ax, .int .i64 ay] 23, .cells #[.int .i64 bx, .int .i64 by_] 23]
  have HB0 := hide hb0
  clear hb0
  by_cases h1 : ax < bx
  · rw [before, decide_eq_true (show (ax, ay).1 < (bx, by_).1 ∨ (ax, ay).1 = (bx, by_).1 ∧ (ax, ay).2 < (bx, by_).2 from .inl h1)]
    go_enter Tryz.func138, Tryz.ntmps138
    go_wp2_with fail
    go_ret
    exact ⟨rfl, HB0.out⟩
  · by_cases h2 : ax = bx
    · subst h2
      by_cases h3 : ay < by_
      · rw [before, decide_eq_true (show (ax, ay).1 < (ax, by_).1 ∨ (ax, ay).1 = (ax, by_).1 ∧ (ax, ay).2 < (ax, by_).2 from .inr ⟨rfl, h3⟩)]
        go_enter Tryz.func138, Tryz.ntmps138
        go_wp2_with fail
        go_ret
        exact ⟨rfl, HB0.out⟩
      · rw [before, decide_eq_false (show ¬ ((ax, ay).1 < (ax, by_).1 ∨ (ax, ay).1 = (ax, by_).1 ∧ (ax, ay).2 < (ax, by_).2) from fun h => h.elim h1 (fun h => h3 h.2))]
        go_enter Tryz.func138, Tryz.ntmps138
        go_wp2_with fail
        go_ret
        exact ⟨rfl, HB0.out⟩
    · rw [before, decide_eq_false (show ¬ ((ax, ay).1 < (bx, by_).1 ∨ (ax, ay).1 = (bx, by_).1 ∧ (ax, ay).2 < (bx, by_).2) from fun h => h.elim h1 (fun h => h2 h.1))]
      have f2 : (ax = bx) = False := eq_false h2
      clear h2
      go_enter Tryz.func138, Tryz.ntmps138
      go_wp2_with fail
      go_ret
      exact ⟨rfl, HB0.out⟩

/-- The first n cells of a row. -/
def cellsOf (d : Nat → Nat) (n : Nat) : List Value := (List.range n).map fun p => .int .i64 (d p : Int)
theorem cellsOf_get (d : Nat → Nat) {n p : Nat} (h : p < n) : (cellsOf d n)[p]? = some (.int .i64 (d p : Int)) := by simp [cellsOf, h]
/-- A row of cap cells, of which the first n are known. -/
def OwnD (w : World) (g cap n : Nat) (d : Nat → Nat) : Prop := ∃ f, w.rowIs g 3 cap f ∧ ∀ p, p < n → f p = .int .i64 (d p : Int)
theorem own_row {w : World} {base n : Nat} {v : Value} {d : Nat → Nat} (h : w.ownsRow base 3 1 v (n + 1) (cellsOf d (n + 1))) :
    ∃ g cap, v = .slice (some ⟨g, 0, none⟩) (n + 1) cap ∧ base ≤ g ∧ n + 1 ≤ cap ∧ cap ≤ maxLen ∧ OwnD w g cap (n + 1) d := by
  rcases h.2 with ⟨_, h0⟩ | ⟨g, cap, cur, rfl, hb, hgg, hn, hcap, hsz, htake⟩
  · omega
  · have hsz2 : cur.size = cap := by omega
    refine ⟨g, cap, rfl, hb, hn, hcap, fun p => cur[p]?.getD undef, ⟨cur, hgg, hsz2, fun i hi => ?_⟩, fun p hp => ?_⟩
    · show cur[i]? = some (cur[i]?.getD undef)
      rw [Array.getElem?_eq_getElem (by omega)]; rfl
    · have h1 := cellsOf_get d hp
      rw [← htake, List.getElem?_take, if_pos (by omega)] at h1
      have h2 : cur[p]? = some (.int .i64 (d p : Int)) := by simpa using h1
      show cur[p]?.getD undef = _
      rw [h2]; rfl
theorem row_own {w : World} {base g cap n : Nat} {d : Nat → Nat} (h : OwnD w g cap n d) (hb : base ≤ g) (hn : n ≤ cap) (hcap : cap ≤ maxLen) :
    w.ownsRow base 3 1 (.slice (some ⟨g, 0, none⟩) n cap) n (cellsOf d n) := by
  obtain ⟨f, ⟨c, hgg, hsz, hc⟩, hf⟩ := h
  refine ⟨by simp [cellsOf], .inr ⟨g, cap, c, rfl, hb, hgg, hn, hcap, by omega, ?_⟩⟩
  apply List.ext_getElem?
  intro p
  by_cases hp : p < n
  · rw [cellsOf_get d hp, List.getElem?_take, if_pos (by omega)]
    have := hc p (by omega)
    rw [hf p hp] at this
    simpa using this
  · rw [List.getElem?_eq_none (by simp; omega), List.getElem?_eq_none (by simp [cellsOf]; omega)]
theorem OwnD.cell {w : World} {g cap n : Nat} {d : Nat → Nat} (h : OwnD w g cap n d) (hn : n ≤ cap) {p : Nat} (hp : p < n) : w.cell? ⟨g, p, none⟩ = some (.int .i64 (d p : Int)) := by
  obtain ⟨f, hr, hf⟩ := h
  rw [hr.cell (by omega), hf p hp]
theorem OwnD.frozen {w : World} {g cap n : Nat} {d : Nat → Nat} (h : OwnD w g cap n d) (p : Nat) : w.frozen? ⟨g, p, none⟩ = false := by
  obtain ⟨f, hr, _⟩ := h
  exact hr.frozen p
theorem OwnD.lt {w : World} {g cap n : Nat} {d : Nat → Nat} (h : OwnD w g cap n d) : g < w.heap.size := by
  obtain ⟨f, hr, _⟩ := h
  exact hr.lt
theorem OwnD.of_block {w w' : World} {g cap n : Nat} {d : Nat → Nat} (h : OwnD w g cap n d) (e : w'.heap[g]? = w.heap[g]?) : OwnD w' g cap n d := by
  obtain ⟨f, hr, hf⟩ := h
  exact ⟨f, hr.of_block e, hf⟩
theorem OwnD.swap {w : World} {g cap n : Nat} {d : Nat → Nat} (h : OwnD w g cap n d) (k : Nat) : OwnD ((w.setCell ⟨g, k + 1, none⟩ (.int .i64 (d k : Int))).setCell ⟨g, k, none⟩ (.int .i64 (d (k + 1) : Int))) g cap n (swp d k) := by
  obtain ⟨f, hr, hf⟩ := h
  refine ⟨_, (hr.set (k + 1) _).set k _, fun p hp => ?_⟩
  unfold swp
  by_cases e1 : p = k
  · simp [e1]
  · by_cases e2 : p = k + 1
    · simp [e2]
    · simp [e1, e2, hf p hp]

set_option maxRecDepth 100000 in
set_option maxHeartbeats 8000000 in
theorem rsorted_any (w : World) (v : Value) (L : List S2) (hv : Pts w v L) (hn : L.length ≤ 64) :
    Calls Tryz.prog 104 #[v] w fun e w' => (∃ u, e = .returned u ∧ IdxS w' u L) ∧ Below w.heap.size w w' := by
  have HVB := hide (PtsB.of hv)
  obtain ⟨A, c, rfl, hc⟩ := id hv
  have HC := hide hc
  obtain ⟨i0, hi, hz0, hz1, hz2⟩ := info_parts (info_i)
  clear hv hc
  go_enter Tryz.func104, Tryz.ntmps104
  go_wp2_with fail
  go_loopg [3, 4] L.length (fun q ov iv wr => ∃ i : Nat, iv = .int .i64 (i : Int) ∧ q + i = L.length ∧ wr.ownsRow w.heap.size 3 1 ov i (cellsOf (ins L i) i) ∧ Below w.heap.size w wr)
  case atStart => exact ⟨0, rfl, rfl, World.ownsRow_nil _ _ _ _, Below.refl _ _⟩
  case round =>
    obtain ⟨i, rfl, hq, hown, hb⟩ := hrel
    have HQ0 := hide hq
    have HB0 := hide hb
    have hile : i ≤ L.length := by omega
    clear hq hb
    obtain ⟨g0, hg0⟩ : ∃ g : Nat, g = gk := ⟨_, rfl⟩
    have HG0 := hide hg0
    clear hg0
    by_cases hlt : i < L.length
    · have hii : (i : Int) < (L.length : Int) := by omega
      have hgtz : 0 < L.length := by omega
      obtain ⟨b, off, hA, hcell⟩ := HC.out hgtz
      subst hA
      have hbw : b < w.heap.size := HVB.out.2 b off _ _ rfl hgtz
      have HCELL := hide hcell
      clear hcell HC
      go_wp2_with (at_builtin; refine wpList_append_own _ rfl _ _ 77 rfl w.heap.size 3 i0 (.int .i64 0) 1 8 Tryz.underlying77 hi hz0 hz1 hz2 rfl (by decide) _ _ _ rfl (hown.alloc _) ⟨wr.heap.size, 0, none⟩ 1 1 [.int .i64 (i : Int)] rfl rfl ?d1 ?d2 ?d3 ?d4 ?d5 ?_)
      case d1 =>
        intro j u hj
        match j, hj with
        | 0, hj => simp at hj; subst hj; simp [Addr.add]
      case d2 => intro u hu; simp at hu; subst hu; rfl
      case d3 => unfold maxLen; omega
      case d4 => omega
      case d5 => have := HB0.out.size; simp; omega
      intro v' w1 hown' hgrow _
      have hcl : cellsOf (ins L i) i ++ [.int .i64 (i : Int)] = cellsOf (ins L i) (i + 1) := by
        simp [cellsOf, List.range_succ, ins_far L i i (Nat.le_refl _)]
      rw [hcl] at hown'
      have hb1 : Below w.heap.size w w1 := (HB0.out.alloc HB0.out.size _).grown hgrow (by have := HB0.out.size; simp; omega) (fun k e => (hown.lt k e).1)
      obtain ⟨g, cap, rfl, hgb, hicap, hcap, hod⟩ := own_row hown'
      have HB1a := hide hb1
      have HOD := hide hod
      clear hown' hgrow hb1 hod hcl hown
      go_wp2_with fail
      go_loopg [5] i (fun q jv wr => ∃ (j : Nat) (d : Nat → Nat), jv = .int .i64 (j : Int) ∧ q = j ∧ j ≤ i ∧ OwnD wr g cap (i + 1) d ∧ bub L j d = ins L (i + 1) ∧ (∀ p, p < L.length → d p < L.length) ∧ Below w.heap.size w wr)
      case atStart => exact ⟨i, ins L i, rfl, rfl, Nat.le_refl _, HOD.out, rfl, ins_lt L i (by omega), HB1a.out⟩
      case round =>
        obtain ⟨j, d, rfl, hq, hj, ho, hbub, hd, hb⟩ := hrel
        have HQ := hide hq
        have HO1 := hide ho
        have HBU := hide hbub
        have HD := hide hd
        have HB1 := hide hb
        clear hq ho hbub hd hb
        by_cases hj0 : j = 0
        · subst hj0
          have hz : ¬ (0 : Int) < ((0 : Nat) : Int) := by omega
          go_upto_region 7 with (fail)
          go_region
          go_wp2_with fail
          go_roundg (g0 - 1)
          case measure => have := HQ0.out; have := HG0.out; omega
          case rel =>
            refine ⟨i + 1, by go_num, by have := HQ0.out; have := HG0.out; omega, row_own ?_ hgb hicap hcap, HB1.out.drew⟩
            rw [← HBU.out]; exact HO1.out.of_block rfl
        · obtain ⟨k, hk⟩ : ∃ k, j = k + 1 := ⟨j - 1, by omega⟩
          have hjp : (0 : Int) < (j : Int) := by omega
          have hjp2 : 0 < j := by omega
          have hjn : j < i + 1 := by omega
          have hkn : k < i + 1 := by omega
          have hjl : (j : Int) < ((i + 1 : Nat) : Int) := by omega
          have hkl : (k : Int) < ((i + 1 : Nat) : Int) := by omega
          have hjl2 : (j : Int) < (i : Int) + 1 := by omega
          have hkl2 : (k : Int) < (i : Int) + 1 := by omega
          have hdj := HD.out j (by omega)
          have hdk := HD.out k (by omega)
          have hdji : (d j : Int) < (L.length : Int) := by omega
          have hdki : (d k : Int) < (L.length : Int) := by omega
          have hw1 : IntKind.i64.wrap ((j : Int) - 1) = (k : Int) := (IntWalk.i64_in _ ⟨by omega, by omega⟩).trans (by omega)
          have hne1 : ¬ k = j := by omega
          have hne2 : ¬ j = k := by omega
          have c0 := HO1.out.cell hicap hjn
          have c1 := HO1.out.cell hicap hkn
          have hglt := HO1.out.lt
          obtain ⟨x1, x2, hx⟩ : ∃ x y, gP L (d j) = (x, y) := ⟨_, _, rfl⟩
          obtain ⟨y1, y2, hy⟩ : ∃ x y, gP L (d k) = (x, y) := ⟨_, _, rfl⟩
          obtain ⟨a0, a1⟩ := HCELL.out (d j) _ (gP_eq hdj)
          obtain ⟨b0, b1⟩ := HCELL.out (d k) _ (gP_eq hdk)
          rw [hx] at a0 a1
          rw [hy] at b0 b1
          have a0' := (bcell HB1.out _ _ hbw).trans a0
          have a1' := (bcell HB1.out _ _ hbw).trans a1
          have b0' := (bcell HB1.out _ _ hbw).trans b0
          have b1' := (bcell HB1.out _ _ hbw).trans b1
          clear a0 a1 b0 b1
          have hbu := HBU.out
          rw [hk, bub, ← hk, hx, hy] at hbu
          have HBUB := hide hbu
          have HK := hide hk
          have SK : ∀ w', Below wr.heap.size wr w' → Below wr.heap.size wr w' ∧ w'.cell? ⟨g, j, none⟩ = some (.int .i64 (d j : Int)) ∧ w'.cell? ⟨g, k, none⟩ = some (.int .i64 (d k : Int)) ∧ w'.cell? ⟨b, off + d j * 2, none⟩ = some (.int .i64 x1) ∧ w'.cell? ⟨b, off + d j * 2 + 1, none⟩ = some (.int .i64 x2) ∧ w'.cell? ⟨b, off + d k * 2, none⟩ = some (.int .i64 y1) ∧ w'.cell? ⟨b, off + d k * 2 + 1, none⟩ = some (.int .i64 y2) := fun w' h => ⟨h, (bcell h _ _ (block_lt_of_cell c0)).trans c0, (bcell h _ _ (block_lt_of_cell c1)).trans c1, (bcell h _ _ (block_lt_of_cell a0')).trans a0', (bcell h _ _ (block_lt_of_cell a1')).trans a1', (bcell h _ _ (block_lt_of_cell b0')).trans b0', (bcell h _ _ (block_lt_of_cell b1')).trans b1'⟩
          clear hk hj0 hx hy hbu
          cases hbe : before (x1, x2) (y1, y2) with
          | true =>
                have HBE := hide hbe
                clear hbe
                go_upto_region 7 with (fail)
                go_region_held3 (fun w' => Below wr.heap.size wr w' ∧ w'.cell? ⟨g, j, none⟩ = some (.int .i64 (d j : Int)) ∧ w'.cell? ⟨g, k, none⟩ = some (.int .i64 (d k : Int)) ∧ w'.cell? ⟨b, off + d j * 2, none⟩ = some (.int .i64 x1) ∧ w'.cell? ⟨b, off + d j * 2 + 1, none⟩ = some (.int .i64 x2) ∧ w'.cell? ⟨b, off + d k * 2, none⟩ = some (.int .i64 y1) ∧ w'.cell? ⟨b, off + d k * 2 + 1, none⟩ = some (.int .i64 y2)) (first | exact SK _ (Below.refl _ _).drew | exact SK _ (Below.refl _ _) | exact SK _ (bel_next (by assumption) (by assumption) (Nat.le_refl _)))
                  (first
                    | (go_at_call 138; refine (rbefore_any _ x1 x2 y1 y2).mono ?_; rw [HBE.out]; rintro e wx ⟨rfl, hbW⟩))
                obtain ⟨hbx, c0x, c1x, _, _, _, _⟩ : Below wr.heap.size wr wx ∧ wx.cell? ⟨g, j, none⟩ = some (.int .i64 (d j : Int)) ∧ wx.cell? ⟨g, k, none⟩ = some (.int .i64 (d k : Int)) ∧ wx.cell? ⟨b, off + d j * 2, none⟩ = some (.int .i64 x1) ∧ wx.cell? ⟨b, off + d j * 2 + 1, none⟩ = some (.int .i64 x2) ∧ wx.cell? ⟨b, off + d k * 2, none⟩ = some (.int .i64 y1) ∧ wx.cell? ⟨b, off + d k * 2 + 1, none⟩ = some (.int .i64 y2) := by assumption
                have hox := HO1.out.of_block (hbx.block g hglt)
                have HOX := hide hox
                have HBX := hide (HB1.out.trans (hbx.mono (Nat.le_trans hgb (Nat.le_of_lt hglt))))
                have f0x := hox.frozen j
                have f1x := hox.frozen k
                clear hox hbx SK c0 c1 a0' a1' b0' b1'
                go_wp2_with fail
                go_region
                go_wp2_with fail
                go_roundg (gk - 1)
                case measure => have := HQ.out; omega
                case rel =>
                  refine ⟨k, swp d k, by go_num, by have := HQ.out; have := HK.out; omega, by have := HK.out; omega, ?_, ?_, swp_lt (by have := HK.out; omega) HD.out, ?_⟩
                  · have h2 := HOX.out.swap k
                    rw [← HK.out] at h2
                    exact h2.of_block rfl
                  · have h := HBUB.out
                    rw [HBE.out, if_pos rfl] at h
                    exact h
                  · exact ((HBX.out.setCell (p := ⟨g, j, none⟩) hgb (.int .i64 (d k : Int))).setCell (p := ⟨g, k, none⟩) hgb (.int .i64 (d j : Int))).drew
          | false =>
                have HBE := hide hbe
                clear hbe
                go_upto_region 7 with (fail)
                go_region_held3 (fun w' => Below wr.heap.size wr w' ∧ w'.cell? ⟨g, j, none⟩ = some (.int .i64 (d j : Int)) ∧ w'.cell? ⟨g, k, none⟩ = some (.int .i64 (d k : Int)) ∧ w'.cell? ⟨b, off + d j * 2, none⟩ = some (.int .i64 x1) ∧ w'.cell? ⟨b, off + d j * 2 + 1, none⟩ = some (.int .i64 x2) ∧ w'.cell? ⟨b, off + d k * 2, none⟩ = some (.int .i64 y1) ∧ w'.cell? ⟨b, off + d k * 2 + 1, none⟩ = some (.int .i64 y2)) (first | exact SK _ (Below.refl _ _).drew | exact SK _ (Below.refl _ _) | exact SK _ (bel_next (by assumption) (by assumption) (Nat.le_refl _)))
                  (first
                    | (go_at_call 138; refine (rbefore_any _ x1 x2 y1 y2).mono ?_; rw [HBE.out]; rintro e wx ⟨rfl, hbW⟩))
                obtain ⟨hbx, c0x, c1x, _, _, _, _⟩ : Below wr.heap.size wr wx ∧ wx.cell? ⟨g, j, none⟩ = some (.int .i64 (d j : Int)) ∧ wx.cell? ⟨g, k, none⟩ = some (.int .i64 (d k : Int)) ∧ wx.cell? ⟨b, off + d j * 2, none⟩ = some (.int .i64 x1) ∧ wx.cell? ⟨b, off + d j * 2 + 1, none⟩ = some (.int .i64 x2) ∧ wx.cell? ⟨b, off + d k * 2, none⟩ = some (.int .i64 y1) ∧ wx.cell? ⟨b, off + d k * 2 + 1, none⟩ = some (.int .i64 y2) := by assumption
                have hox := HO1.out.of_block (hbx.block g hglt)
                have HOX := hide hox
                have HBX := hide (HB1.out.trans (hbx.mono (Nat.le_trans hgb (Nat.le_of_lt hglt))))
                clear hox hbx SK c0 c1 a0' a1' b0' b1'
                go_wp2_with fail
                go_roundg (g0 - 1)
                case measure => have := HQ0.out; have := HG0.out; omega
                case rel =>
                  refine ⟨i + 1, by go_num, by have := HQ0.out; have := HG0.out; omega, row_own ?_ hgb hicap hcap, HBX.out⟩
                  have h := HBUB.out
                  rw [HBE.out, if_neg (by simp)] at h
                  rw [← h]; exact HOX.out
    · have hii : ¬ (i : Int) < (L.length : Int) := by omega
      have hil : i = L.length := by omega
      subst hil
      have HOWN := hide hown
      clear hown
      go_wp2_with fail
      go_ret
      refine ⟨⟨_, rfl, ?_⟩, HB0.out⟩
      rcases Nat.eq_zero_or_pos L.length with h0 | h0
      · have h := HOWN.out
        rw [h0] at h
        rcases h.2 with ⟨hv, _⟩ | ⟨g, cap, cur, hv, _⟩
        · exact ⟨none, 0, show u3 = .slice none L.length 0 by rw [hv, h0], fun h => absurd h (by omega)⟩
        · exact ⟨some ⟨g, 0, none⟩, cap, show u3 = .slice (some ⟨g, 0, none⟩) L.length cap by rw [hv, h0], fun h => absurd h (by omega)⟩
      · have h := HOWN.out
        obtain ⟨m, hm⟩ : ∃ m, L.length = m + 1 := ⟨L.length - 1, by omega⟩
        rw [hm] at h
        obtain ⟨g, cap, hv, _, hc1, _, hod⟩ := own_row h
        rw [← hm] at hv hod hc1
        exact ⟨_, cap, hv, fun _ => ⟨g, rfl, fun p hp => hod.cell hc1 hp⟩⟩

set_option maxRecDepth 100000 in
theorem Order_any (w : World) (v : Value) (L : List S2) (hv : Pts w v L) (hL : L.length ≤ 1000000000000) (h8 : L.length ≤ 8 ∨ 64 < L.length) :
    Calls Tryz.prog 49 #[v] w fun e w' => OrdR L e w' ∧ Below w.heap.size w w' := by
  have bad : ∀ n : Int, (n = 5 ∨ n = 2) → chkPtsN L = n → Calls Tryz.prog 49 #[v] w fun e w' => e = .returned (.tuple #[.slice none 0 0, .int .i64 n]) ∧ Below w.heap.size w w' := by
    intro n hn hc
    have HN := hide hn
    have HC := hide hc
    obtain ⟨A, c, rfl, _⟩ := id hv
    have hb0 := hide (nalk w (.cells #[.slice A L.length c] 65))
    have HV := hide hv
    clear hn hc hv
    go_enter Tryz.func49, Tryz.ntmps49
    go_wp2_with fail
    refine (Check_any _ _ L (HV.out.below hb0.out) hL).mono ?_
    rw [HC.out]
    rintro e w1 ⟨rfl, hb1⟩
    have hn0 : ¬ n = 0 := by rcases HN.out with h | h <;> omega
    go_wp2_with fail
    go_ret2
    exact ⟨rfl, hb0.out.trans (hb1.mono hb0.out.size)⟩
  rcases chkPtsN_cases L with h | h | ⟨h, hl, _⟩
  · refine (bad 5 (.inl rfl) h).mono ?_
    rintro e w' ⟨rfl, hb⟩
    exact ⟨⟨_, by rw [h], by rw [if_neg (by omega)]⟩, hb⟩
  · refine (bad 2 (.inr rfl) h).mono ?_
    rintro e w' ⟨rfl, hb⟩
    exact ⟨⟨_, by rw [h], by rw [if_neg (by omega)]⟩, hb⟩
  · refine (order_ok w v L hv h (by omega)).mono ?_
    rintro e w' ⟨⟨u, rfl, hu⟩, hb⟩
    exact ⟨⟨u, by rw [h], by rw [if_pos h]; exact hu⟩, hb⟩

set_option maxRecDepth 100000 in
theorem rOrder_any (w : World) (v : Value) (L : List S2) (hv : Pts w v L) (hL : L.length ≤ 1000000000000) :
    Calls Tryz.prog 50 #[v] w fun e w' => OrdR L e w' ∧ Below w.heap.size w w' := by
  have bad : ∀ n : Int, (n = 5 ∨ n = 2) → chkPtsN L = n → Calls Tryz.prog 50 #[v] w fun e w' => e = .returned (.tuple #[.slice none 0 0, .int .i64 n]) ∧ Below w.heap.size w w' := by
    intro n hn hc
    have HN := hide hn
    have HC := hide hc
    clear hn hc
    go_enter Tryz.func50, Tryz.ntmps50
    go_wp2_with fail
    refine (rCheck_any _ _ L hv hL).mono ?_
    rw [HC.out]
    rintro e w1 ⟨rfl, hb1⟩
    have hn0 : ¬ n = 0 := by rcases HN.out with h | h <;> omega
    go_wp2_with fail
    go_ret2
    exact ⟨rfl, hb1⟩
  rcases chkPtsN_cases L with h | h | ⟨h, hl, _⟩
  · refine (bad 5 (.inl rfl) h).mono ?_
    rintro e w' ⟨rfl, hb⟩
    exact ⟨⟨_, by rw [h], by rw [if_neg (by omega)]⟩, hb⟩
  · refine (bad 2 (.inr rfl) h).mono ?_
    rintro e w' ⟨rfl, hb⟩
    exact ⟨⟨_, by rw [h], by rw [if_neg (by omega)]⟩, hb⟩
  · have HC := hide h
    have HV0 := hide hv
    clear bad hv
    have goal : Calls Tryz.prog 50 #[v] w fun e w' => (∃ u, e = .returned (.tuple #[u, .int .i64 0]) ∧ IdxS w' u L) ∧ Below w.heap.size w w' := by
      clear h
      go_enter Tryz.func50, Tryz.ntmps50
      go_wp2_with fail
      refine (rCheck_any _ _ L HV0.out hL).mono ?_
      rw [HC.out]
      rintro e w1 ⟨rfl, hb1⟩
      have HB := hide hb1
      have HV := hide (HV0.out.below hb1)
      clear hb1
      go_wp2_with fail
      refine (rsorted_any _ _ L HV.out hl).mono ?_
      rintro e w2 ⟨⟨u, rfl, hu⟩, hb2⟩
      have HU := hide hu
      have HB2 := hide (HB.out.trans (hb2.mono HB.out.size))
      clear hu hb2
      obtain ⟨A, c, rfl, _⟩ := id HU.out
      go_wp2_with fail
      go_ret2
      exact ⟨⟨_, rfl, HU.out⟩, HB2.out⟩
    refine goal.mono ?_
    rintro e w' ⟨⟨u, rfl, hu⟩, hb⟩
    exact ⟨⟨u, by rw [h], by rw [if_pos h]; exact hu⟩, hb⟩

/-- Two lists of indices that read alike. -/
theorem IdxS.below {w w' : World} {v : Value} {L : List S2} (h : IdxS w v L) (hb : Below w.heap.size w w') : IdxS w' v L := by
  obtain ⟨A, c, hv, hc⟩ := h
  refine ⟨A, c, hv, fun h0 => ?_⟩
  obtain ⟨g, hA, hcell⟩ := hc h0
  exact ⟨g, hA, fun p hp => (bcell hb _ _ (block_lt_of_cell (hcell p hp))).trans (hcell p hp)⟩

set_option maxRecDepth 100000 in
set_option maxHeartbeats 1000000 in
theorem same_any (w : World) (u v : Value) (L : List S2) (hL : L.length ≤ 1000000000000) (hu : IdxS w u L) (hv : IdxS w v L) :
    Calls Tryz.prog 53 #[u, v] w fun e w' => e = .returned (.bool true) ∧ Below w.heap.size w w' := by
  obtain ⟨A, c, rfl, hc⟩ := hu
  obtain ⟨A2, c2, rfl, hc2⟩ := hv
  have HC := hide hc
  have HC2 := hide hc2
  clear hc hc2
  go_enter Tryz.func53, Tryz.ntmps53
  go_wp2_with fail
  go_loopg [5] L.length (fun q iv wr => ∃ j : Nat, iv = .int .i64 (j : Int) ∧ q + j = L.length ∧ Below w.heap.size w wr)
  case atStart => exact ⟨0, rfl, rfl, Below.refl _ _⟩
  case round =>
    obtain ⟨j, rfl, hq, hb⟩ := hrel
    have hj : j ≤ L.length := by omega
    have HQ := hide hq
    have HB := hide hb
    clear hq hb
    by_cases hlt : j < L.length
    · have hji : (j : Int) < (L.length : Int) := by omega
      obtain ⟨g, hA, hcell⟩ := HC.out (by omega)
      obtain ⟨g2, hA2, hcell2⟩ := HC2.out (by omega)
      subst hA hA2
      have a := hcell j hlt
      have b := hcell2 j hlt
      have a2 := (bcell HB.out _ _ (block_lt_of_cell a)).trans a
      have b2 := (bcell HB.out _ _ (block_lt_of_cell b)).trans b
      clear a b hcell hcell2 HC HC2
      go_upto_region 6 with (fail)
      go_region
      go_wp2_with fail
      go_roundg (gk - 1)
      case measure => have := HQ.out; omega
      case rel => exact ⟨j + 1, by go_num, by have := HQ.out; omega, HB.out.drew⟩
    · have hji : ¬ (j : Int) < (L.length : Int) := by omega
      go_wp2_with fail
      go_ret
      exact ⟨rfl, HB.out⟩
set_option maxRecDepth 100000 in
theorem same_nil (w : World) : Calls Tryz.prog 53 #[.slice none 0 0, .slice none 0 0] w fun e w' => e = .returned (.bool true) ∧ Below w.heap.size w w' := by
  refine same_any w _ _ [] (by simp) ⟨none, 0, rfl, fun h => absurd h (by simp)⟩ ⟨none, 0, rfl, fun h => absurd h (by simp)⟩
end Go.Proofs.YtblfinpfcpglcaaGreatDoor
