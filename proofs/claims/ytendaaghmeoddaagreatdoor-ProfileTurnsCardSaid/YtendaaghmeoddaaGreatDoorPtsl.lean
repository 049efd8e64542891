/- Slices of points: rows that a call owns; slices.Clone, slices.Grow, slices.Concat and slices.Reverse at points. -/
import Derived.Test.YtendaaghmeoddaaGreatDoorPturnl
import Derived.Deep.AppendLies
import Derived.Lib.AppendZerosOnto
namespace Go.Proofs.YtendaaghmeoddaaGreatDoor
open Go.RowKit MLab

/-- The cells of points. -/
def ptl (L : List S2) : List Value := L.flatMap fun p => [.int .i64 p.1, .int .i64 p.2]
theorem ptl_nil : ptl [] = [] := rfl
theorem ptl_cons (p : S2) (L : List S2) : ptl (p :: L) = .int .i64 p.1 :: .int .i64 p.2 :: ptl L := rfl
theorem ptl_append (L M : List S2) : ptl (L ++ M) = ptl L ++ ptl M := List.flatMap_append
theorem ptl_length : ∀ L, (ptl L).length = L.length * 2
  | [] => rfl
  | p :: L => by rw [ptl_cons, List.length_cons, List.length_cons, ptl_length L, List.length_cons]; omega
theorem ptl_get : ∀ (L : List S2) (i : Nat) (p : S2), L[i]? = some p → (ptl L)[i * 2]? = some (.int .i64 p.1) ∧ (ptl L)[i * 2 + 1]? = some (.int .i64 p.2)
  | [], i, p, h => by simp at h
  | q :: L, 0, p, h => by simp at h; subst h; exact ⟨rfl, rfl⟩
  | q :: L, i + 1, p, h => by
    have h2 := ptl_get L i p (by simpa using h)
    rw [ptl_cons, show (i + 1) * 2 = i * 2 + 1 + 1 by omega, show i * 2 + 1 + 1 + 1 = (i * 2 + 1) + 1 + 1 by omega]
    simpa using h2
theorem ptl_one : ∀ (L : List S2), ∀ u ∈ ptl L, u.oneCell' = true
  | [], u, h => by simp [ptl] at h
  | p :: L, u, h => by
    rw [ptl_cons, List.mem_cons, List.mem_cons] at h
    rcases h with rfl | rfl | h
    · rfl
    · rfl
    · exact ptl_one L u h
theorem ptl_cell : ∀ (L : List S2) (j : Nat) (u : Value), (ptl L)[j]? = some u → ∃ i p, L[i]? = some p ∧ ((j = i * 2 ∧ u = .int .i64 p.1) ∨ (j = i * 2 + 1 ∧ u = .int .i64 p.2))
  | [], j, u, h => by simp [ptl] at h
  | q :: L, 0, u, h => ⟨0, q, rfl, .inl ⟨rfl, by rw [ptl_cons] at h; simpa using h.symm⟩⟩
  | q :: L, 1, u, h => ⟨0, q, rfl, .inr ⟨rfl, by rw [ptl_cons] at h; simpa using h.symm⟩⟩
  | q :: L, j + 2, u, h => by
    rw [ptl_cons] at h
    obtain ⟨i, p, hi, h2⟩ := ptl_cell L j u (by simpa using h)
    refine ⟨i + 1, p, by simpa using hi, ?_⟩
    rcases h2 with ⟨rfl, rfl⟩ | ⟨rfl, rfl⟩
    · exact .inl ⟨by omega, rfl⟩
    · exact .inr ⟨by omega, rfl⟩

/-- At this address lie these points. -/
def PtsA (w : World) (a : Addr) (L : List S2) : Prop := ∀ j u, (ptl L)[j]? = some u → w.cell? (a.add j) = some u
theorem PtsA.of {w : World} {b off : Nat} {L : List S2} (h : ∀ i p, L[i]? = some p → w.cell? ⟨b, off + i * 2, none⟩ = some (.int .i64 p.1) ∧ w.cell? ⟨b, off + i * 2 + 1, none⟩ = some (.int .i64 p.2)) : PtsA w ⟨b, off, none⟩ L := fun j u hj => by
  obtain ⟨i, p, hi, ⟨rfl, rfl⟩ | ⟨rfl, rfl⟩⟩ := ptl_cell L j u hj
  · rw [Addr.add_lit]; exact (h i p hi).1
  · rw [Addr.add_lit]; exact (h i p hi).2
theorem PtsA.below {w w' : World} {a : Addr} {L : List S2} (h : PtsA w a L) (hb : Below w.heap.size w w') : PtsA w' a L := fun j u hj => (hb.cell (p := a.add j) (block_lt_of_cell (h j u hj))).trans (h j u hj)
theorem PtsA.drop {w : World} {b off : Nat} {L : List S2} (h : PtsA w ⟨b, off, none⟩ L) (k : Nat) : PtsA w ⟨b, off + k * 2, none⟩ (L.drop k) := fun j u hj => by
  obtain ⟨i, p, hi, h2⟩ := ptl_cell _ j u hj
  rw [List.getElem?_drop] at hi
  obtain ⟨g0, g1⟩ := ptl_get L (k + i) p hi
  rcases h2 with ⟨rfl, rfl⟩ | ⟨rfl, rfl⟩
  · have := h _ _ g0
    rw [Addr.add_lit] at this ⊢
    rw [show off + k * 2 + i * 2 = off + (k + i) * 2 by omega]; exact this
  · have := h _ _ g1
    rw [Addr.add_lit] at this ⊢
    rw [show off + k * 2 + (i * 2 + 1) = off + ((k + i) * 2 + 1) by omega]; exact this
theorem PtsA.take {w : World} {a : Addr} {L : List S2} (h : PtsA w a L) (k : Nat) : PtsA w a (L.take k) := fun j u hj => by
  obtain ⟨i, p, hi, h2⟩ := ptl_cell _ j u hj
  rw [List.getElem?_take] at hi
  split at hi
  · obtain ⟨g0, g1⟩ := ptl_get L i p hi
    rcases h2 with ⟨rfl, rfl⟩ | ⟨rfl, rfl⟩
    · exact h _ _ g0
    · exact h _ _ g1
  · cases hi
theorem own_pts {w : World} {base n : Nat} {t : TypeId} {v : Value} {L : List S2} (h : w.ownsRow base t 2 v n (ptl L)) : Pts w v L := by
  have hn : n = L.length := by have := h.1; rw [ptl_length] at this; omega
  subst hn
  rcases h.2 with ⟨rfl, h0⟩ | ⟨g, cap, cur, rfl, hb, hgg, hn, hcap, hsz, htake⟩
  · exact ⟨none, 0, by rw [h0], fun h => absurd h (by omega)⟩
  · refine ⟨_, cap, rfl, fun _ => ⟨g, 0, rfl, fun i p hi => ?_⟩⟩
    obtain ⟨g0, g1⟩ := ptl_get L i p hi
    have key : ∀ j u, (ptl L)[j]? = some u → w.cell? ⟨g, 0 + j, none⟩ = some u := fun j u hu => by
      rw [Nat.zero_add, cell_of_row w g j cur t (0, 0) hgg]
      rw [← htake, List.getElem?_take] at hu
      split at hu
      · simpa using hu
      · cases hu
    exact ⟨key _ _ g0, key _ _ g1⟩
theorem info_pt : (Tryz.prog.info? 24).map (fun i => (i.zero, i.size, i.bytes)) = some (some (.agg #[.int .i64 0, .int .i64 0]), 2, 16) := by kernel_rfl

set_option maxRecDepth 100000 in
set_option maxHeartbeats 2000000 in
theorem clone37_any (w : World) (a : Addr) (c : Nat) (L : List S2) (hv : PtsA w a L) (hL : L.length ≤ 1000000) :
    Calls Tryz.prog 34 #[.slice (some a) L.length c] w fun e w' => (∃ u, e = .returned u ∧ w'.ownsRow w.heap.size 24 2 u L.length (ptl L)) ∧ Below w.heap.size w w' := by
  have HV := hide hv
  have q22 : ∀ (w : World) (a : Option Addr) (n c n' c' : Nat), (binOp .eql 22 (.slice a n c) (.slice none n' c')).run Tryz.prog w = .ok (.bool a.isNone) w := fun w a n c n' c' => Lib.run_eql_slice_nil w _ _ a n c n' c' Tryz.underlying22
  obtain ⟨i0, hi, hz0, hz1, hz2⟩ := info_parts (info_pt)
  clear hv
  go_enter Tryz.func34, Tryz.ntmps34
  go_wp2_with (at_builtin; refine wpList_append_own _ rfl _ _ 22 rfl w.heap.size 24 i0 (.agg #[.int .i64 0, .int .i64 0]) 2 16 Tryz.underlying22 hi hz0 hz1 hz2 rfl (by decide) _ _ _ rfl (World.ownsRow_made w #[] 0 (Nat.le_refl _) (Nat.zero_le _) (by simp)) a L.length c (ptl L) rfl ?d1 ?d2 ?d3 ?d4 ?d5 ?d6 ?_)
  case d1 => exact ptl_length L
  case d2 => intro j u hj; exact Lib.cell?_alloc_some _ (HV.out j u hj)
  case d3 => exact ptl_one L
  case d4 => unfold maxLen; omega
  case d5 => omega
  case d6 => simp
  intro v' w1 hown hgrow _
  have HO := hide hown
  have HG := hide hgrow
  clear hown hgrow
  go_wp2_with fail
  go_ret
  exact ⟨⟨v', rfl, by simpa using HO.out⟩, ((Below.refl _ w).alloc (Nat.le_refl _) _).grown HG.out (by simp) (by intro k hk; simp [Value.ownBlock] at hk; omega)⟩

set_option maxRecDepth 100000 in
set_option maxHeartbeats 2000000 in
theorem grow37_any (w : World) (n : Nat) (h0 : 0 < n) (hn : n ≤ 1000000) :
    Calls Tryz.prog 67 #[.slice none 0 0, .int .i64 (n : Int)] w fun e w' => (∃ g cap, e = .returned (.slice (some ⟨g, 0, none⟩) 0 cap) ∧ w'.ownsRow w.heap.size 24 2 (.slice (some ⟨g, 0, none⟩) 0 cap) 0 []) ∧ Below w.heap.size w w' := by
  obtain ⟨i0, hi, hz0, hz1, hz2⟩ := info_parts (info_pt)
  have h1 : ¬ ((n : Int) < 0) := by omega
  have h2 : IntKind.i64.wrap (n : Int) = (n : Int) := IntWalk.i64_in _ (by omega)
  have h4 : (0 : Int) < (n : Int) := by omega
  have hrz : ∀ ty, (Builtin.append_ #[22, 3] ty #[.slice none 0 0, .int .i64 (n : Int)]).run Tryz.prog w =
      .ok (.slice (some ⟨w.heap.size, 0, none⟩) n (grownCap w n 0 24)) (w.drew.alloc (.cells (#[] ++ Builtin.zeroCells (Value.agg #[.int .i64 0, .int .i64 0]).cells n ++ Builtin.zeroCells (Value.agg #[.int .i64 0, .int .i64 0]).cells (grownCap w n 0 24 - n)) 24)) := fun ty => by
    have h := Lib.run_append_grow_zeros w 22 3 ty 24 i0 _ .i64 .i64 Tryz.underlying22 Tryz.underlying3 hi hz0 none 0 0 [] (run_firstCells_none w.drew i0.size 0 0 0) n h0 (by rw [hz1]; decide) (by omega) (by omega) (by rw [hz2]; omega)
      (by rw [hz2]; exact growslice_fits (by omega) (by omega))
    simpa using h
  have hGn : n ≤ grownCap w n 0 24 := grownCap_ge w _ _ _
  have hGm : grownCap w n 0 24 ≤ maxLen := grownCap_le_maxLen w n 0 24 (by unfold maxLen; omega)
  obtain ⟨G, hG⟩ : ∃ G, G = grownCap w n 0 24 := ⟨_, rfl⟩
  rw [← hG] at hrz hGn hGm
  obtain ⟨cs, hcs⟩ : ∃ cs, (#[] ++ Builtin.zeroCells (Value.agg #[.int .i64 0, .int .i64 0]).cells n ++ Builtin.zeroCells (Value.agg #[.int .i64 0, .int .i64 0]).cells (G - n)) = cs := ⟨_, rfl⟩
  have hsz : cs.size = G * 2 := by
    rw [← hcs]
    have e : (Value.agg #[.int .i64 0, .int .i64 0]).cells.size = 2 := by kernel_rfl
    simp [Builtin.zeroCells, e]; omega
  rw [hcs] at hrz
  have hG63 : G ≤ 9223372036854775807 := by unfold maxLen at hGm; omega
  have HG := hide hGm
  have HS := hide hsz
  clear hG hcs hi hz0 hz1 hz2 hGm hsz
  go_enter Tryz.func67, Tryz.ntmps67
  go_wp2_with (at_builtin; refine Lib.wpList_append_run _ rfl _ _ _ _ rfl _ _ rfl rfl _ _ (hrz _) ?_)
  go_ret
  refine ⟨⟨_, _, rfl, rfl, .inr ⟨_, _, cs, rfl, Nat.le_refl _, heap_alloc_new w.drew _, by omega, HG.out, HS.out, by simp⟩⟩, (Below.refl _ w).drew.alloc (by simp) _⟩

theorem bel_grow {w w1 w2 : World} {v : Value} {t : TypeId} {n : Nat} {xs : List Value} (hb : Below w.heap.size w w1) (ho : w1.ownsRow w.heap.size t 2 v n xs) (hg : w1.grownBy w2 v.ownBlock) : Below w.heap.size w w2 :=
  hb.grown hg hb.size (fun k e => (ho.lt k e).1)
theorem bel_grow2 {base : Nat} {w w1 w2 : World} {v : Value} {t : TypeId} {n : Nat} {xs : List Value} {o : Obj} (hb : Below base w w1) (ho : w1.ownsRow base t 2 v n xs) (hz : base ≤ w1.heap.size) (hg : (w1.alloc o).grownBy w2 v.ownBlock) : Below base w w2 :=
  (hb.alloc hz o).grown hg (by simp; omega) (fun k e => (ho.lt k e).1)

set_option maxRecDepth 100000 in
set_option maxHeartbeats 4000000 in
theorem conc37_any (w : World) (B c c1 c2 n1 n2 : Nat) (t : TypeId) (a1 a2 : Addr) (L M : List S2) (e1 : n1 = L.length) (e2 : n2 = M.length) (hB : Blk w B t #[.slice (some a1) n1 c1, .slice (some a2) n2 c2]) (h1 : PtsA w a1 L) (h2 : PtsA w a2 M) (h0 : 0 < L.length + M.length) (hL : L.length ≤ 1000) (hM : M.length ≤ 1000) :
    Calls Tryz.prog 33 #[.slice (some ⟨B, 0, none⟩) 2 c] w fun e w' => (∃ u, e = .returned u ∧ Pts w' u (L ++ M)) ∧ Below w.heap.size w w' := by
  subst e1 e2
  have HA := hide h1
  have HC := hide h2
  obtain ⟨i0, hi, hz0, hz1, hz2⟩ := info_parts (info_pt)
  have b0 := Blk.cell hB 0
  have b1 := Blk.cell hB 1
  have hbl := hB.lt
  have HK := hide hB
  obtain ⟨N, hN⟩ : ∃ N, L.length + M.length = N := ⟨_, rfl⟩
  have hN0 : 0 < N := by omega
  have hN1 : N ≤ 1000000 := by omega
  have hw1 : IntKind.i64.wrap (L.length : Int) = (L.length : Int) := IntWalk.i64_in _ (by omega)
  have hw2 : IntKind.i64.wrap ((L.length : Int) + (M.length : Int)) = (N : Int) := (IntWalk.i64_in _ (by omega)).trans (by omega)
  have hn1 : ¬ (L.length : Int) < 0 := by omega
  have hn2 : ¬ (N : Int) < 0 := by omega
  have HN := hide hN
  clear h1 h2 hB hN h0
  go_enter Tryz.func33, Tryz.ntmps33
  go_wp2_with fail
  go_loopg [3, 5, 11] 2 (fun q zv sv iv wr => w = wr ∧ ((q = 2 ∧ iv = .int .i64 0 ∧ zv = .int .i64 0) ∨ (q = 1 ∧ iv = .int .i64 1 ∧ zv = .int .i64 (L.length : Int)) ∨ (q = 0 ∧ iv = .int .i64 2 ∧ zv = .int .i64 (N : Int))))
  case atStart => exact ⟨rfl, .inl ⟨rfl, rfl, rfl⟩⟩
  case round =>
    obtain ⟨rfl, h | h | h⟩ := hrel
    · obtain ⟨hq, rfl, rfl⟩ := h
      have HQ := hide hq
      clear hq
      go_wp2_with fail
      go_roundg (gk - 1)
      case measure => have := HQ.out; omega
      case rel => exact ⟨rfl, .inr (.inl ⟨by have := HQ.out; omega, by go_num, by go_num⟩)⟩
    · obtain ⟨hq, rfl, rfl⟩ := h
      have HQ := hide hq
      clear hq
      go_wp2_with fail
      go_roundg (gk - 1)
      case measure => have := HQ.out; omega
      case rel => exact ⟨rfl, .inr (.inr ⟨by have := HQ.out; omega, by go_num, by go_num⟩)⟩
    · obtain ⟨hq, rfl, rfl⟩ := h
      clear hq
      go_wp2_with fail
      refine (grow37_any _ N hN0 hN1).mono ?_
      rintro e w1 ⟨⟨g, cap, rfl, hown⟩, hb⟩
      have HB := hide hb
      have HO := hide hown
      have HC0 := hide b0
      have HC1 := hide b1
      clear b0 b1 hb hown
      go_wp2_with fail
      go_loopg [6, 8, 27] 2 (fun q nv sv iv wr => Below w.heap.size w wr ∧ ((q = 2 ∧ iv = .int .i64 0 ∧ wr.ownsRow w.heap.size 24 2 nv 0 (ptl [])) ∨ (q = 1 ∧ iv = .int .i64 1 ∧ wr.ownsRow w.heap.size 24 2 nv L.length (ptl L)) ∨ (q = 0 ∧ iv = .int .i64 2 ∧ wr.ownsRow w.heap.size 24 2 nv N (ptl (L ++ M)))))
      case atStart => exact ⟨HB.out, .inl ⟨rfl, rfl, HO.out⟩⟩
      case round =>
        obtain ⟨hb, h | h | h⟩ := hrel
        · obtain ⟨hq, rfl, hown⟩ := h
          have HQ := hide hq
          have HB := hide hb
          have f0 := (bcell hb _ _ hbl).trans HC0.out
          have f1 := (bcell hb _ _ hbl).trans HC1.out
          clear hq hb
          go_wp2_with (at_builtin; refine wpList_append_own _ rfl _ _ 22 rfl w.heap.size 24 i0 (.agg #[.int .i64 0, .int .i64 0]) 2 16 Tryz.underlying22 hi hz0 hz1 hz2 rfl (by decide) _ _ _ rfl hown a1 L.length c1 (ptl L) rfl ?d1 ?d2 ?d3 ?d4 ?d5 ?d6 ?_)
          case d1 => exact ptl_length L
          case d2 => exact (HA.out.below HB.out)
          case d3 => exact ptl_one L
          case d4 => unfold maxLen; omega
          case d5 => omega
          case d6 => exact HB.out.size
          intro v' w2 hown' hgrow _
          rw [ptl_nil, List.nil_append] at hown'
          have HB2 := hide (bel_grow HB.out hown hgrow)
          have HO2 := hide hown'
          clear hown hown' hgrow f0 f1
          go_wp2_with fail
          go_roundg (gk - 1)
          case measure => have := HQ.out; omega
          case rel => exact ⟨HB2.out, .inr (.inl ⟨by have := HQ.out; omega, by go_num, HO2.out⟩)⟩
        · obtain ⟨hq, rfl, hown⟩ := h
          have HQ := hide hq
          have HB := hide hb
          have f0 := (bcell hb _ _ hbl).trans HC0.out
          have f1 := (bcell hb _ _ hbl).trans HC1.out
          clear hq hb
          go_wp2_with (at_builtin; refine wpList_append_own _ rfl _ _ 22 rfl w.heap.size 24 i0 (.agg #[.int .i64 0, .int .i64 0]) 2 16 Tryz.underlying22 hi hz0 hz1 hz2 rfl (by decide) _ _ _ rfl hown a2 M.length c2 (ptl M) rfl ?d1 ?d2 ?d3 ?d4 ?d5 ?d6 ?_)
          case d1 => exact ptl_length M
          case d2 => exact (HC.out.below HB.out)
          case d3 => exact ptl_one M
          case d4 => unfold maxLen; omega
          case d5 => omega
          case d6 => exact HB.out.size
          intro v' w2 hown' hgrow _
          rw [HN.out, ← ptl_append] at hown'
          have HB2 := hide (bel_grow HB.out hown hgrow)
          have HO2 := hide hown'
          clear hown hown' hgrow f0 f1
          go_wp2_with fail
          go_roundg (gk - 1)
          case measure => have := HQ.out; omega
          case rel => exact ⟨HB2.out, .inr (.inr ⟨by have := HQ.out; omega, by go_num, HO2.out⟩)⟩
        · obtain ⟨hq, rfl, hown⟩ := h
          have HB := hide hb
          have HO := hide hown
          clear hq hb hown
          go_wp2_with fail
          go_ret
          exact ⟨⟨_, rfl, own_pts HO.out⟩, HB.out⟩

/-- A row of cap points, of which the first n are known. -/
def OwnP (w : World) (g cap n : Nat) (d : Nat → S2) : Prop := ∃ f, w.rowIs g 24 (cap * 2) f ∧ ∀ p, p < n → f (p * 2) = .int .i64 (d p).1 ∧ f (p * 2 + 1) = .int .i64 (d p).2
theorem ownp_of {w : World} {base g cap n : Nat} {L : List S2} (h : w.ownsRow base 24 2 (.slice (some ⟨g, 0, none⟩) n cap) n (ptl L)) (hn : 0 < n) : n = L.length ∧ base ≤ g ∧ n ≤ cap ∧ cap ≤ maxLen ∧ OwnP w g cap n (gP L) := by
  have hn : n = L.length := by have := h.1; rw [ptl_length] at this; omega
  rcases h.2 with ⟨_, h0⟩ | ⟨g', cap', cur, hv, hb, hgg, hn', hcap, hsz, htake⟩
  · omega
  · cases hv
    refine ⟨hn, hb, hn', hcap, fun p => cur[p]?.getD undef, ⟨cur, hgg, hsz, fun i hi => ?_⟩, fun p hp => ?_⟩
    · show cur[i]? = some (cur[i]?.getD undef)
      rw [Array.getElem?_eq_getElem (by omega)]; rfl
    · obtain ⟨g0, g1⟩ := ptl_get L p _ (gP_eq (by omega))
      rw [← htake, List.getElem?_take, if_pos (by omega)] at g0 g1
      have h0 : cur[p * 2]? = some (.int .i64 (gP L p).1) := by simpa using g0
      have h1 : cur[p * 2 + 1]? = some (.int .i64 (gP L p).2) := by simpa using g1
      exact ⟨by show cur[p * 2]?.getD undef = _; rw [h0]; rfl, by show cur[p * 2 + 1]?.getD undef = _; rw [h1]; rfl⟩
theorem of_ownp {w : World} {base g cap n : Nat} {d : Nat → S2} {L : List S2} (h : OwnP w g cap n d) (hb : base ≤ g) (hn : n ≤ cap) (hcap : cap ≤ maxLen) (hL : n = L.length) (hd : ∀ p, p < n → d p = gP L p) :
    w.ownsRow base 24 2 (.slice (some ⟨g, 0, none⟩) n cap) n (ptl L) := by
  obtain ⟨f, ⟨c, hgg, hsz, hc⟩, hf⟩ := h
  refine ⟨by rw [ptl_length, hL], .inr ⟨g, cap, c, rfl, hb, hgg, hn, hcap, hsz, ?_⟩⟩
  apply List.ext_getElem?
  intro p
  by_cases hp : p < n * 2
  · rw [List.getElem?_take, if_pos hp, Array.getElem?_toList, hc p (by omega)]
    obtain ⟨f0, f1⟩ := hf (p / 2) (by omega)
    rw [hd _ (by omega)] at f0 f1
    obtain ⟨g0, g1⟩ := ptl_get L (p / 2) _ (gP_eq (by omega))
    rcases Nat.mod_two_eq_zero_or_one p with h2 | h2
    · rw [show p / 2 * 2 = p by omega] at f0 g0
      rw [f0, g0]
    · rw [show p / 2 * 2 + 1 = p by omega] at f1 g1
      rw [f1, g1]
  · rw [List.getElem?_eq_none (by simp; omega), List.getElem?_eq_none (by rw [ptl_length]; omega)]
theorem OwnP.cell {w : World} {g cap n : Nat} {d : Nat → S2} (h : OwnP w g cap n d) (hn : n ≤ cap) {p : Nat} (hp : p < n) : w.cell? ⟨g, p * 2, none⟩ = some (.int .i64 (d p).1) ∧ w.cell? ⟨g, p * 2 + 1, none⟩ = some (.int .i64 (d p).2) := by
  obtain ⟨f, hr, hf⟩ := h
  rw [hr.cell (by omega), hr.cell (by omega), (hf p hp).1, (hf p hp).2]; exact ⟨rfl, rfl⟩
theorem OwnP.congr {w : World} {g cap n : Nat} {d e : Nat → S2} (h : OwnP w g cap n d) (he : ∀ p, p < n → e p = d p) : OwnP w g cap n e := by
  obtain ⟨f, hr, hf⟩ := h
  exact ⟨f, hr, fun p hp => by rw [he p hp]; exact hf p hp⟩
theorem OwnP.frozen {w : World} {g cap n : Nat} {d : Nat → S2} (h : OwnP w g cap n d) (p : Nat) : w.frozen? ⟨g, p, none⟩ = false := by
  obtain ⟨f, hr, _⟩ := h
  exact hr.frozen p
theorem OwnP.lt {w : World} {g cap n : Nat} {d : Nat → S2} (h : OwnP w g cap n d) : g < w.heap.size := by
  obtain ⟨f, hr, _⟩ := h
  exact hr.lt
theorem OwnP.drew {w : World} {g cap n : Nat} {d : Nat → S2} (h : OwnP w g cap n d) : OwnP w.drew g cap n d := h
theorem OwnP.set {w : World} {g cap n : Nat} {d : Nat → S2} (h : OwnP w g cap n d) (k : Nat) (x : S2) : OwnP ((w.setCell ⟨g, k * 2, none⟩ (.int .i64 x.1)).setCell ⟨g, k * 2 + 1, none⟩ (.int .i64 x.2)) g cap n (fun p => if p = k then x else d p) := by
  obtain ⟨f, hr, hf⟩ := h
  refine ⟨_, (hr.set (k * 2) _).set (k * 2 + 1) _, fun p hp => ?_⟩
  by_cases e1 : p = k
  · subst e1; simp
  · have a1 : ¬ p * 2 = k * 2 := by omega
    have a2 : ¬ p * 2 = k * 2 + 1 := by omega
    have a3 : ¬ p * 2 + 1 = k * 2 := by omega
    simp [e1, a1, a2, a3, hf p hp]

/-- Behind k swaps. -/
def rvk (L : List S2) (k p : Nat) : S2 := if p < k ∨ L.length < p + 1 + k then gP L (L.length - 1 - p) else gP L p

set_option maxRecDepth 100000 in
set_option maxHeartbeats 4000000 in
theorem rev37_any (w : World) (base g cap n : Nat) (L : List S2) (hO : w.ownsRow base 24 2 (.slice (some ⟨g, 0, none⟩) n cap) n (ptl L)) (h0 : 0 < n) (hL : n ≤ 1000) :
    Calls Tryz.prog 35 #[.slice (some ⟨g, 0, none⟩) n cap] w fun e w' => e = .returned (.tuple #[]) ∧ w'.ownsRow base 24 2 (.slice (some ⟨g, 0, none⟩) n cap) n (ptl L.reverse) ∧ Below g w w' := by
  obtain ⟨hn, hbase, hcap, hmax, hown⟩ := ownp_of hO h0
  have HO := hide hown
  have HN := hide hn
  have HM := hide hmax
  have hw1 : IntKind.i64.wrap ((n : Int) - 1) = ((n - 1 : Nat) : Int) := (IntWalk.i64_in _ (by omega)).trans (by omega)
  clear hO hown hn hmax
  go_enter Tryz.func35, Tryz.ntmps35
  go_wp2_with fail
  go_loopg [2, 3] n (fun q iv jv wr => ∃ k m : Nat, iv = .int .i64 (k : Int) ∧ jv = .int .i64 (m : Int) ∧ k + m + 1 = n ∧ q = n - k ∧ k ≤ m + 1 ∧ OwnP wr g cap n (rvk L k) ∧ Below g w wr)
  case atStart => exact ⟨0, n - 1, rfl, rfl, by omega, by omega, by omega, HO.out.congr fun p hp => by
    have := HN.out
    unfold rvk; rw [if_neg (by omega)], Below.refl _ _⟩
  case round =>
    obtain ⟨k, m, rfl, rfl, hkm, hq, hle, ho, hb⟩ := hrel
    have HQ := hide hq
    have HO := hide ho
    have HB := hide hb
    clear hq ho hb
    by_cases hlt : k < m
    · have hki : (k : Int) < (m : Int) := by omega
      have hk0 : (0 : Int) ≤ (k : Int) := by omega
      have hm0 : (0 : Int) ≤ (m : Int) := by omega
      have hkn : (k : Int) < (n : Int) := by omega
      have hmn : (m : Int) < (n : Int) := by omega
      have hkn2 : k < n := by omega
      have hmn2 : m < n := by omega
      have hw2 : IntKind.i64.wrap ((k : Int) + 1) = ((k + 1 : Nat) : Int) := (IntWalk.i64_in _ (by omega)).trans (by omega)
      have hw3 : IntKind.i64.wrap ((m : Int) - 1) = ((m - 1 : Nat) : Int) := (IntWalk.i64_in _ (by omega)).trans (by omega)
      obtain ⟨c0, c1⟩ := HO.out.cell hcap hkn2
      obtain ⟨d0, d1⟩ := HO.out.cell hcap hmn2
      have fz := HO.out.frozen
      have hne1 : ¬ k = m := by omega
      have hne2 : ¬ m = k := by omega
      obtain ⟨x1, x2, hx⟩ : ∃ u v, rvk L k k = (u, v) := ⟨_, _, rfl⟩
      obtain ⟨y1, y2, hy⟩ : ∃ u v, rvk L k m = (u, v) := ⟨_, _, rfl⟩
      rw [hx] at c0 c1
      rw [hy] at d0 d1
      have HX := hide hx
      have HY := hide hy
      have HKM := hide hkm
      clear hx hy hkm
      go_upto_region 3 with (fail)
      go_region
      have HO2 := hide (((HO.out.set k (y1, y2)).set m (x1, x2)).drew.congr (e := rvk L (k + 1)) fun p hp => by
        have hn := HN.out
        have hkm := HKM.out
        have hx := HX.out
        have hy := HY.out
        show _ = if p = m then (x1, x2) else if p = k then (y1, y2) else rvk L k p
        rw [← hx, ← hy]
        unfold rvk
        by_cases h1 : p = m
        · subst h1
          rw [if_pos rfl, if_pos (by omega), if_neg (by omega)]; congr 1; omega
        · rw [if_neg h1]
          by_cases h2 : p = k
          · subst h2
            rw [if_pos rfl, if_pos (by omega), if_neg (by omega)]; congr 1; omega
          · rw [if_neg h2]
            by_cases h3 : p < k ∨ L.length < p + 1 + k
            · rw [if_pos h3, if_pos (by omega)]
            · rw [if_neg h3, if_neg (by omega)])
      have HB2 := hide (((((HB.out.setCell (p := ⟨g, k * 2, none⟩) (Nat.le_refl _) (.int .i64 y1)).setCell (p := ⟨g, k * 2 + 1, none⟩) (Nat.le_refl _) (.int .i64 y2)).setCell (p := ⟨g, m * 2, none⟩) (Nat.le_refl _) (.int .i64 x1)).setCell (p := ⟨g, m * 2 + 1, none⟩) (Nat.le_refl _) (.int .i64 x2)).drew)
      clear c0 c1 d0 d1 fz
      go_wp2_with fail
      go_roundg (gk - 1)
      case measure => have := HQ.out; omega
      case rel => exact ⟨k + 1, m - 1, by go_num, by go_num, by have := HKM.out; omega, by have := HQ.out; omega, by omega, HO2.out, HB2.out⟩
    · have hki : ¬ (k : Int) < (m : Int) := by omega
      have hn := HN.out
      have HR := hide (of_ownp (L := L.reverse) HO.out hbase hcap HM.out (by rw [List.length_reverse]; exact hn) fun p hp => by
        rw [rev_at (by omega)]
        unfold rvk
        by_cases h : p < k ∨ L.length < p + 1 + k
        · rw [if_pos h]
        · rw [if_neg h]; congr 1; omega)
      clear hn
      go_wp2_with fail
      go_end0
      exact ⟨rfl, HR.out, HB.out⟩
end Go.Proofs.YtendaaghmeoddaaGreatDoor
