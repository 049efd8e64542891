/- plan.Curve, plan.Worst. -/
import Derived.Test.YtaccdkbofhlbkaaGreatDoorPllots
namespace Go.Proofs.YtaccdkbofhlbkaaGreatDoor
open Go.RowKit Go.Shelf MLab
attribute [local go_sem] Oper.semAt_some

theorem info_rat : (Tryz.prog.info? 26).map (fun i => (i.zero, i.size, i.bytes)) = some (some (.string ⟨#[]⟩), 1, 16) := by kernel_rfl
/-- The cells of a list of texts of numbers. -/
def rcl (L : List Rat) : List Value := L.map fun q => .string ⟨(RT q).toArray⟩
theorem rcl_snoc (L : List Rat) (q : Rat) : rcl L ++ [.string ⟨(RT q).toArray⟩] = rcl (L ++ [q]) := by simp [rcl]
theorem strs_of_row {w : World} {base n : Nat} {v : Value} {L : List Rat} (h : w.ownsRow base 26 1 v n (rcl L)) (hn : n = L.length) : Strs w v (L.map RT) := by
  subst hn
  rcases h.2 with ⟨rfl, h0⟩ | ⟨g, cap, cur, rfl, hb, hgg, hn, hcap, hsz, htake⟩
  · exact ⟨none, 0, by rw [List.length_map, h0], fun h => absurd h (by rw [List.length_map, h0]; omega)⟩
  · refine ⟨some ⟨g, 0, none⟩, cap, by simp, fun h0 => ⟨g, 0, rfl, fun p l hp => ?_⟩⟩
    obtain ⟨q, hq, rfl⟩ : ∃ q, L[p]? = some q ∧ RT q = l := by simpa using hp
    have hpl : p < L.length := (List.getElem?_eq_some_iff.1 hq).1
    have h1 : (rcl L)[p]? = some (.string ⟨(RT q).toArray⟩) := by simp [rcl, hq]
    rw [← htake, List.getElem?_take, if_pos (by omega)] at h1
    have h2 : cur[p]? = some (.string ⟨(RT q).toArray⟩) := by simpa using h1
    refine ⟨⟨(RT q).toArray⟩, (Blk.cell (t := 26) (cs := cur) hgg (0 + p)).trans ?_, rfl⟩
    rw [Nat.zero_add]; exact h2

set_option maxRecDepth 100000 in
set_option maxHeartbeats 4000000 in
theorem curve_bad (w : World) (N C lot : Int) (h : ckI N C lot ≠ 0) :
    Calls Tryz.prog 30 #[.agg #[.int .i64 N, .int .i64 C], .int .i64 lot] w fun e w' => e = .returned (.tuple #[.slice none 0 0, .int .i64 (ckI N C lot)]) ∧ Below w.heap.size w w' := by
  have HC := hide (fun W => listed_any W N C lot)
  obtain ⟨z, hz⟩ : ∃ z, ckI N C lot = z := ⟨_, rfl⟩
  rw [hz] at HC h ⊢
  clear hz
  have HB := allocs_below w [.cells #[.int .i64 N, .int .i64 C] 30, .cells #[.int .i64 lot] 3, .cells #[.slice none 0 0] 55, .cells #[.int .i64 0] 27]
  have K_p : Blk (allocs w [.cells #[.int .i64 N, .int .i64 C] 30, .cells #[.int .i64 lot] 3, .cells #[.slice none 0 0] 55, .cells #[.int .i64 0] 27]) (w.heap.size + 0) 30 #[.int .i64 N, .int .i64 C] := allocs_at w [.cells #[.int .i64 N, .int .i64 C] 30, .cells #[.int .i64 lot] 3, .cells #[.slice none 0 0] 55, .cells #[.int .i64 0] 27] 0 rfl
  have K_l : Blk (allocs w [.cells #[.int .i64 N, .int .i64 C] 30, .cells #[.int .i64 lot] 3, .cells #[.slice none 0 0] 55, .cells #[.int .i64 0] 27]) (w.heap.size + 1) 3 #[.int .i64 lot] := allocs_at w [.cells #[.int .i64 N, .int .i64 C] 30, .cells #[.int .i64 lot] 3, .cells #[.slice none 0 0] 55, .cells #[.int .i64 0] 27] 1 rfl
  have K_r : Blk (allocs w [.cells #[.int .i64 N, .int .i64 C] 30, .cells #[.int .i64 lot] 3, .cells #[.slice none 0 0] 55, .cells #[.int .i64 0] 27]) (w.heap.size + 2) 55 #[.slice none 0 0] := allocs_at w [.cells #[.int .i64 N, .int .i64 C] 30, .cells #[.int .i64 lot] 3, .cells #[.slice none 0 0] 55, .cells #[.int .i64 0] 27] 2 rfl
  have K_e : Blk (allocs w [.cells #[.int .i64 N, .int .i64 C] 30, .cells #[.int .i64 lot] 3, .cells #[.slice none 0 0] 55, .cells #[.int .i64 0] 27]) (w.heap.size + 3) 27 #[.int .i64 0] := allocs_at w [.cells #[.int .i64 N, .int .i64 C] 30, .cells #[.int .i64 lot] 3, .cells #[.slice none 0 0] 55, .cells #[.int .i64 0] 27] 3 rfl
  unfold allocs at HB K_p K_l K_r K_e
  simp only [List.foldl_cons, List.foldl_nil] at HB K_p K_l K_r K_e
  rw [Nat.add_zero] at K_p
  go_enter Tryz.func30, Tryz.ntmps30
  go_upto_region 1 with (fail)
  generalize ((((w.alloc (.cells #[.int .i64 N, .int .i64 C] 30)).alloc (.cells #[.int .i64 lot] 3)).alloc (.cells #[.slice none 0 0] 55)).alloc (.cells #[.int .i64 0] 27)) = w0 at *
  replace K_p := hide K_p
  replace K_l := hide K_l
  replace K_r := hide K_r
  replace K_e := hide K_e
  replace HB := hide HB
  have p0 := (Blk.cell K_p.out 0).trans (rfl : _ = some (Value.int .i64 N))
  have p1 := (Blk.cell K_p.out 1).trans (rfl : _ = some (Value.int .i64 C))
  have l0 := (Blk.cell K_l.out 0).trans (rfl : _ = some (Value.int .i64 lot))
  go_wp2_with fail
  refine (HC.out _).mono ?_
  rintro e w1 ⟨rfl, hb⟩
  clear p0 p1 l0
  replace K_p := hide (Blk.below K_p.out hb (Blk.lt K_p.out))
  replace K_l := hide (Blk.below K_l.out hb (Blk.lt K_l.out))
  replace K_r := hide (Blk.below K_r.out hb (Blk.lt K_r.out))
  replace K_e := hide (Blk.below K_e.out hb (Blk.lt K_e.out))
  replace HB := hide (HB.out.trans (hb.mono HB.out.size))
  clear hb
  have r0 := (Blk.cell K_r.out 0).trans (rfl : _ = some (Value.slice none 0 0))
  have rf0 := Blk.frozen K_r.out 0
  have e0 := (Blk.cell K_e.out 0).trans (rfl : _ = some (Value.int .i64 0))
  have ef0 := Blk.frozen K_e.out 0
  go_wp2_with fail
  have k0_r : Blk (w1.setCell ⟨(w.heap.size + 2), 0, none⟩ (.slice none 0 0)) (w.heap.size + 2) 55 #[.slice none 0 0] := K_r.out.set_ 0 (.slice none 0 0)
  have k0_e : Blk (w1.setCell ⟨(w.heap.size + 2), 0, none⟩ (.slice none 0 0)) (w.heap.size + 3) 27 #[.int .i64 0] := K_e.out.far (p := ⟨(w.heap.size + 2), 0, none⟩) (by show (w.heap.size + 3) ≠ (w.heap.size + 2); omega) (.slice none 0 0)
  have k1_r : Blk ((w1.setCell ⟨(w.heap.size + 2), 0, none⟩ (.slice none 0 0)).setCell ⟨(w.heap.size + 3), 0, none⟩ (.int .i64 z)) (w.heap.size + 2) 55 #[.slice none 0 0] := k0_r.far (p := ⟨(w.heap.size + 3), 0, none⟩) (by show (w.heap.size + 2) ≠ (w.heap.size + 3); omega) (.int .i64 z)
  have c1_r : ((w1.setCell ⟨(w.heap.size + 2), 0, none⟩ (.slice none 0 0)).setCell ⟨(w.heap.size + 3), 0, none⟩ (.int .i64 z)).cell? ⟨(w.heap.size + 2), 0, none⟩ = some (.slice none 0 0) := (Blk.cell k1_r 0).trans rfl
  have k1_e : Blk ((w1.setCell ⟨(w.heap.size + 2), 0, none⟩ (.slice none 0 0)).setCell ⟨(w.heap.size + 3), 0, none⟩ (.int .i64 z)) (w.heap.size + 3) 27 #[.int .i64 z] := k0_e.set_ 0 (.int .i64 z)
  have c1_e : ((w1.setCell ⟨(w.heap.size + 2), 0, none⟩ (.slice none 0 0)).setCell ⟨(w.heap.size + 3), 0, none⟩ (.int .i64 z)).cell? ⟨(w.heap.size + 3), 0, none⟩ = some (.int .i64 z) := (Blk.cell k1_e 0).trans rfl
  exact bodyPost_ret (v := .tuple #[.slice none 0 0, .int .i64 z]) (by simp [results, Tryz.results30, go_sem, c1_r, c1_e]) rfl ⟨rfl, ((HB.out.setCell (p := ⟨(w.heap.size + 2), 0, none⟩) (by show w.heap.size ≤ (w.heap.size + 2); omega) (.slice none 0 0)).setCell (p := ⟨(w.heap.size + 3), 0, none⟩) (by show w.heap.size ≤ (w.heap.size + 3); omega) (.int .i64 z))⟩

set_option maxRecDepth 100000 in
set_option maxHeartbeats 4000000 in
theorem worst_bad (w : World) (N C lot : Int) (h : ckI N C lot ≠ 0) :
    Calls Tryz.prog 38 #[.agg #[.int .i64 N, .int .i64 C], .int .i64 lot] w fun e w' => e = .returned (.tuple #[.int .i64 0, .string ⟨#[]⟩, .int .i64 (ckI N C lot)]) ∧ Below w.heap.size w w' := by
  have HC := hide (fun W => listed_any W N C lot)
  obtain ⟨z, hz⟩ : ∃ z, ckI N C lot = z := ⟨_, rfl⟩
  rw [hz] at HC h ⊢
  clear hz
  have HB := allocs_below w [.cells #[.int .i64 N, .int .i64 C] 30, .cells #[.int .i64 lot] 3, .cells #[.int .i64 0] 3, .cells #[.string ⟨#[]⟩] 26, .cells #[.int .i64 0] 27]
  have K_p : Blk (allocs w [.cells #[.int .i64 N, .int .i64 C] 30, .cells #[.int .i64 lot] 3, .cells #[.int .i64 0] 3, .cells #[.string ⟨#[]⟩] 26, .cells #[.int .i64 0] 27]) (w.heap.size + 0) 30 #[.int .i64 N, .int .i64 C] := allocs_at w [.cells #[.int .i64 N, .int .i64 C] 30, .cells #[.int .i64 lot] 3, .cells #[.int .i64 0] 3, .cells #[.string ⟨#[]⟩] 26, .cells #[.int .i64 0] 27] 0 rfl
  have K_l : Blk (allocs w [.cells #[.int .i64 N, .int .i64 C] 30, .cells #[.int .i64 lot] 3, .cells #[.int .i64 0] 3, .cells #[.string ⟨#[]⟩] 26, .cells #[.int .i64 0] 27]) (w.heap.size + 1) 3 #[.int .i64 lot] := allocs_at w [.cells #[.int .i64 N, .int .i64 C] 30, .cells #[.int .i64 lot] 3, .cells #[.int .i64 0] 3, .cells #[.string ⟨#[]⟩] 26, .cells #[.int .i64 0] 27] 1 rfl
  have K_a : Blk (allocs w [.cells #[.int .i64 N, .int .i64 C] 30, .cells #[.int .i64 lot] 3, .cells #[.int .i64 0] 3, .cells #[.string ⟨#[]⟩] 26, .cells #[.int .i64 0] 27]) (w.heap.size + 2) 3 #[.int .i64 0] := allocs_at w [.cells #[.int .i64 N, .int .i64 C] 30, .cells #[.int .i64 lot] 3, .cells #[.int .i64 0] 3, .cells #[.string ⟨#[]⟩] 26, .cells #[.int .i64 0] 27] 2 rfl
  have K_x : Blk (allocs w [.cells #[.int .i64 N, .int .i64 C] 30, .cells #[.int .i64 lot] 3, .cells #[.int .i64 0] 3, .cells #[.string ⟨#[]⟩] 26, .cells #[.int .i64 0] 27]) (w.heap.size + 3) 26 #[.string ⟨#[]⟩] := allocs_at w [.cells #[.int .i64 N, .int .i64 C] 30, .cells #[.int .i64 lot] 3, .cells #[.int .i64 0] 3, .cells #[.string ⟨#[]⟩] 26, .cells #[.int .i64 0] 27] 3 rfl
  have K_e : Blk (allocs w [.cells #[.int .i64 N, .int .i64 C] 30, .cells #[.int .i64 lot] 3, .cells #[.int .i64 0] 3, .cells #[.string ⟨#[]⟩] 26, .cells #[.int .i64 0] 27]) (w.heap.size + 4) 27 #[.int .i64 0] := allocs_at w [.cells #[.int .i64 N, .int .i64 C] 30, .cells #[.int .i64 lot] 3, .cells #[.int .i64 0] 3, .cells #[.string ⟨#[]⟩] 26, .cells #[.int .i64 0] 27] 4 rfl
  unfold allocs at HB K_p K_l K_a K_x K_e
  simp only [List.foldl_cons, List.foldl_nil] at HB K_p K_l K_a K_x K_e
  rw [Nat.add_zero] at K_p
  go_enter Tryz.func38, Tryz.ntmps38
  go_upto_region 1 with (fail)
  generalize (((((w.alloc (.cells #[.int .i64 N, .int .i64 C] 30)).alloc (.cells #[.int .i64 lot] 3)).alloc (.cells #[.int .i64 0] 3)).alloc (.cells #[.string ⟨#[]⟩] 26)).alloc (.cells #[.int .i64 0] 27)) = w0 at *
  replace K_p := hide K_p
  replace K_l := hide K_l
  replace K_a := hide K_a
  replace K_x := hide K_x
  replace K_e := hide K_e
  replace HB := hide HB
  have p0 := (Blk.cell K_p.out 0).trans (rfl : _ = some (Value.int .i64 N))
  have p1 := (Blk.cell K_p.out 1).trans (rfl : _ = some (Value.int .i64 C))
  have l0 := (Blk.cell K_l.out 0).trans (rfl : _ = some (Value.int .i64 lot))
  go_wp2_with fail
  refine (HC.out _).mono ?_
  rintro e w1 ⟨rfl, hb⟩
  clear p0 p1 l0
  replace K_p := hide (Blk.below K_p.out hb (Blk.lt K_p.out))
  replace K_l := hide (Blk.below K_l.out hb (Blk.lt K_l.out))
  replace K_a := hide (Blk.below K_a.out hb (Blk.lt K_a.out))
  replace K_x := hide (Blk.below K_x.out hb (Blk.lt K_x.out))
  replace K_e := hide (Blk.below K_e.out hb (Blk.lt K_e.out))
  replace HB := hide (HB.out.trans (hb.mono HB.out.size))
  clear hb
  have a0 := (Blk.cell K_a.out 0).trans (rfl : _ = some (Value.int .i64 0))
  have af0 := Blk.frozen K_a.out 0
  have x0 := (Blk.cell K_x.out 0).trans (rfl : _ = some (Value.string ⟨#[]⟩))
  have xf0 := Blk.frozen K_x.out 0
  have e0 := (Blk.cell K_e.out 0).trans (rfl : _ = some (Value.int .i64 0))
  have ef0 := Blk.frozen K_e.out 0
  go_wp2_with fail
  have k0_a : Blk (w1.setCell ⟨(w.heap.size + 2), 0, none⟩ (.int .i64 0)) (w.heap.size + 2) 3 #[.int .i64 0] := K_a.out.set_ 0 (.int .i64 0)
  have k0_x : Blk (w1.setCell ⟨(w.heap.size + 2), 0, none⟩ (.int .i64 0)) (w.heap.size + 3) 26 #[.string ⟨#[]⟩] := K_x.out.far (p := ⟨(w.heap.size + 2), 0, none⟩) (by show (w.heap.size + 3) ≠ (w.heap.size + 2); omega) (.int .i64 0)
  have k0_e : Blk (w1.setCell ⟨(w.heap.size + 2), 0, none⟩ (.int .i64 0)) (w.heap.size + 4) 27 #[.int .i64 0] := K_e.out.far (p := ⟨(w.heap.size + 2), 0, none⟩) (by show (w.heap.size + 4) ≠ (w.heap.size + 2); omega) (.int .i64 0)
  have k1_a : Blk ((w1.setCell ⟨(w.heap.size + 2), 0, none⟩ (.int .i64 0)).setCell ⟨(w.heap.size + 3), 0, none⟩ (.string ⟨#[]⟩)) (w.heap.size + 2) 3 #[.int .i64 0] := k0_a.far (p := ⟨(w.heap.size + 3), 0, none⟩) (by show (w.heap.size + 2) ≠ (w.heap.size + 3); omega) (.string ⟨#[]⟩)
  have k1_x : Blk ((w1.setCell ⟨(w.heap.size + 2), 0, none⟩ (.int .i64 0)).setCell ⟨(w.heap.size + 3), 0, none⟩ (.string ⟨#[]⟩)) (w.heap.size + 3) 26 #[.string ⟨#[]⟩] := k0_x.set_ 0 (.string ⟨#[]⟩)
  have k1_e : Blk ((w1.setCell ⟨(w.heap.size + 2), 0, none⟩ (.int .i64 0)).setCell ⟨(w.heap.size + 3), 0, none⟩ (.string ⟨#[]⟩)) (w.heap.size + 4) 27 #[.int .i64 0] := k0_e.far (p := ⟨(w.heap.size + 3), 0, none⟩) (by show (w.heap.size + 4) ≠ (w.heap.size + 3); omega) (.string ⟨#[]⟩)
  have k2_a : Blk (((w1.setCell ⟨(w.heap.size + 2), 0, none⟩ (.int .i64 0)).setCell ⟨(w.heap.size + 3), 0, none⟩ (.string ⟨#[]⟩)).setCell ⟨(w.heap.size + 4), 0, none⟩ (.int .i64 z)) (w.heap.size + 2) 3 #[.int .i64 0] := k1_a.far (p := ⟨(w.heap.size + 4), 0, none⟩) (by show (w.heap.size + 2) ≠ (w.heap.size + 4); omega) (.int .i64 z)
  have c2_a : (((w1.setCell ⟨(w.heap.size + 2), 0, none⟩ (.int .i64 0)).setCell ⟨(w.heap.size + 3), 0, none⟩ (.string ⟨#[]⟩)).setCell ⟨(w.heap.size + 4), 0, none⟩ (.int .i64 z)).cell? ⟨(w.heap.size + 2), 0, none⟩ = some (.int .i64 0) := (Blk.cell k2_a 0).trans rfl
  have k2_x : Blk (((w1.setCell ⟨(w.heap.size + 2), 0, none⟩ (.int .i64 0)).setCell ⟨(w.heap.size + 3), 0, none⟩ (.string ⟨#[]⟩)).setCell ⟨(w.heap.size + 4), 0, none⟩ (.int .i64 z)) (w.heap.size + 3) 26 #[.string ⟨#[]⟩] := k1_x.far (p := ⟨(w.heap.size + 4), 0, none⟩) (by show (w.heap.size + 3) ≠ (w.heap.size + 4); omega) (.int .i64 z)
  have c2_x : (((w1.setCell ⟨(w.heap.size + 2), 0, none⟩ (.int .i64 0)).setCell ⟨(w.heap.size + 3), 0, none⟩ (.string ⟨#[]⟩)).setCell ⟨(w.heap.size + 4), 0, none⟩ (.int .i64 z)).cell? ⟨(w.heap.size + 3), 0, none⟩ = some (.string ⟨#[]⟩) := (Blk.cell k2_x 0).trans rfl
  have k2_e : Blk (((w1.setCell ⟨(w.heap.size + 2), 0, none⟩ (.int .i64 0)).setCell ⟨(w.heap.size + 3), 0, none⟩ (.string ⟨#[]⟩)).setCell ⟨(w.heap.size + 4), 0, none⟩ (.int .i64 z)) (w.heap.size + 4) 27 #[.int .i64 z] := k1_e.set_ 0 (.int .i64 z)
  have c2_e : (((w1.setCell ⟨(w.heap.size + 2), 0, none⟩ (.int .i64 0)).setCell ⟨(w.heap.size + 3), 0, none⟩ (.string ⟨#[]⟩)).setCell ⟨(w.heap.size + 4), 0, none⟩ (.int .i64 z)).cell? ⟨(w.heap.size + 4), 0, none⟩ = some (.int .i64 z) := (Blk.cell k2_e 0).trans rfl
  exact bodyPost_ret (v := .tuple #[.int .i64 0, .string ⟨#[]⟩, .int .i64 z]) (by simp [results, Tryz.results38, go_sem, c2_a, c2_x, c2_e]) rfl ⟨rfl, (((HB.out.setCell (p := ⟨(w.heap.size + 2), 0, none⟩) (by show w.heap.size ≤ (w.heap.size + 2); omega) (.int .i64 0)).setCell (p := ⟨(w.heap.size + 3), 0, none⟩) (by show w.heap.size ≤ (w.heap.size + 3); omega) (.string ⟨#[]⟩)).setCell (p := ⟨(w.heap.size + 4), 0, none⟩) (by show w.heap.size ≤ (w.heap.size + 4); omega) (.int .i64 z))⟩

set_option maxRecDepth 100000 in
set_option maxHeartbeats 8000000 in
theorem curve_any (w : World) (N C lot : Nat) (h1N : 1 ≤ N) (hC : C ≤ N) (hNl : N ≤ lot) (hl : lot ≤ 64) (hs : Std w) :
    Calls Tryz.prog 30 #[.agg #[.int .i64 (N : Int), .int .i64 (C : Int)], .int .i64 (lot : Int)] w fun e w' => ∃ v, e = .returned (.tuple #[v, .int .i64 0]) ∧ Strs w' v (((List.range (lot + 1)).map (dC N C lot)).map RT) ∧ Below w.heap.size w w' := by
  have HS := hide hs
  have HC := hide (fun W => listed_any W (N : Int) (C : Int) (lot : Int))
  have hck : ckI (N : Int) (C : Int) (lot : Int) = 0 := by unfold ckI; rw [ckL_zero.2 (by omega)]; simp; omega
  rw [hck] at HC
  clear hck hs
  have HB := allocs_below w [.cells #[.int .i64 (N : Int), .int .i64 (C : Int)] 30, .cells #[.int .i64 (lot : Int)] 3, .cells #[.slice none 0 0] 55, .cells #[.int .i64 0] 27]
  have K_p : Blk (allocs w [.cells #[.int .i64 (N : Int), .int .i64 (C : Int)] 30, .cells #[.int .i64 (lot : Int)] 3, .cells #[.slice none 0 0] 55, .cells #[.int .i64 0] 27]) (w.heap.size + 0) 30 #[.int .i64 (N : Int), .int .i64 (C : Int)] := allocs_at w [.cells #[.int .i64 (N : Int), .int .i64 (C : Int)] 30, .cells #[.int .i64 (lot : Int)] 3, .cells #[.slice none 0 0] 55, .cells #[.int .i64 0] 27] 0 rfl
  have K_l : Blk (allocs w [.cells #[.int .i64 (N : Int), .int .i64 (C : Int)] 30, .cells #[.int .i64 (lot : Int)] 3, .cells #[.slice none 0 0] 55, .cells #[.int .i64 0] 27]) (w.heap.size + 1) 3 #[.int .i64 (lot : Int)] := allocs_at w [.cells #[.int .i64 (N : Int), .int .i64 (C : Int)] 30, .cells #[.int .i64 (lot : Int)] 3, .cells #[.slice none 0 0] 55, .cells #[.int .i64 0] 27] 1 rfl
  have K_r : Blk (allocs w [.cells #[.int .i64 (N : Int), .int .i64 (C : Int)] 30, .cells #[.int .i64 (lot : Int)] 3, .cells #[.slice none 0 0] 55, .cells #[.int .i64 0] 27]) (w.heap.size + 2) 55 #[.slice none 0 0] := allocs_at w [.cells #[.int .i64 (N : Int), .int .i64 (C : Int)] 30, .cells #[.int .i64 (lot : Int)] 3, .cells #[.slice none 0 0] 55, .cells #[.int .i64 0] 27] 2 rfl
  have K_e : Blk (allocs w [.cells #[.int .i64 (N : Int), .int .i64 (C : Int)] 30, .cells #[.int .i64 (lot : Int)] 3, .cells #[.slice none 0 0] 55, .cells #[.int .i64 0] 27]) (w.heap.size + 3) 27 #[.int .i64 0] := allocs_at w [.cells #[.int .i64 (N : Int), .int .i64 (C : Int)] 30, .cells #[.int .i64 (lot : Int)] 3, .cells #[.slice none 0 0] 55, .cells #[.int .i64 0] 27] 3 rfl
  unfold allocs at HB K_p K_l K_r K_e
  simp only [List.foldl_cons, List.foldl_nil] at HB K_p K_l K_r K_e
  rw [Nat.add_zero] at K_p
  refine (callsIn_wide (n := 6)).1 ?_
  refine callsIn_of_wp_marks Tryz.func30 rfl trivial ?_ rfl
  simp only [Tryz.ntmps30, List.size_toArray, List.length_cons, List.length_nil, Nat.reduceAdd, Nat.reduceSub, Array.replicate_succ, Array.replicate_zero, List.push_toArray, List.append_toArray, List.nil_append, List.cons_append]
  refine wpIn_wide.2 ?_
  go_upto_region 1 with (fail)
  generalize ((((w.alloc (.cells #[.int .i64 (N : Int), .int .i64 (C : Int)] 30)).alloc (.cells #[.int .i64 (lot : Int)] 3)).alloc (.cells #[.slice none 0 0] 55)).alloc (.cells #[.int .i64 0] 27)) = w0 at *
  replace K_p := hide K_p
  replace K_l := hide K_l
  replace K_r := hide K_r
  replace K_e := hide K_e
  replace HB := hide HB
  have p0 := (Blk.cell K_p.out 0).trans (rfl : _ = some (Value.int .i64 (N : Int)))
  have p1 := (Blk.cell K_p.out 1).trans (rfl : _ = some (Value.int .i64 (C : Int)))
  have l0 := (Blk.cell K_l.out 0).trans (rfl : _ = some (Value.int .i64 (lot : Int)))
  go_wp2_with fail
  refine (HC.out _).mono ?_
  rintro e w1 ⟨rfl, hb⟩
  clear p0 p1 l0
  replace K_p := hide (Blk.below K_p.out hb (Blk.lt K_p.out))
  replace K_l := hide (Blk.below K_l.out hb (Blk.lt K_l.out))
  replace K_r := hide (Blk.below K_r.out hb (Blk.lt K_r.out))
  replace K_e := hide (Blk.below K_e.out hb (Blk.lt K_e.out))
  replace HB := hide (HB.out.trans (hb.mono HB.out.size))
  clear hb
  have p0 := (Blk.cell K_p.out 0).trans (rfl : _ = some (Value.int .i64 (N : Int)))
  have p1 := (Blk.cell K_p.out 1).trans (rfl : _ = some (Value.int .i64 (C : Int)))
  have l0 := (Blk.cell K_l.out 0).trans (rfl : _ = some (Value.int .i64 (lot : Int)))
  go_upto_region 5 with (fail)
  clear p0 p1 l0
  have lt_o_p : w.heap.size < w1.heap.size := Blk.lt K_p.out
  have lt_o_l : (w.heap.size + 1) < w1.heap.size := Blk.lt K_l.out
  have lt_o_r : (w.heap.size + 2) < w1.heap.size := Blk.lt K_r.out
  have lt_o_e : (w.heap.size + 3) < w1.heap.size := Blk.lt K_e.out
  replace K_p := K_p.out.alloc (.cells #[.slice none 0 0] 55)
  replace K_l := K_l.out.alloc (.cells #[.slice none 0 0] 55)
  replace K_r := K_r.out.alloc (.cells #[.slice none 0 0] 55)
  replace K_e := K_e.out.alloc (.cells #[.slice none 0 0] 55)
  replace HB := HB.out.alloc HB.out.size (.cells #[.slice none 0 0] 55)
  have K_o := Blk.new w1 55 #[.slice none 0 0]
  generalize w1.alloc (.cells #[.slice none 0 0] 55) = wo0 at *
  replace K_p := hide K_p
  replace K_l := hide K_l
  replace K_r := hide K_r
  replace K_e := hide K_e
  replace K_o := hide K_o
  replace HB := hide HB
  have l0 := (Blk.cell K_l.out 0).trans (rfl : _ = some (Value.int .i64 (lot : Int)))
  go_wp2_with fail
  refine (lots_any _ _ _ _).mono ?_
  rintro e w8 ⟨rfl, rfl⟩
  go_wp2_with fail
  clear l0
  have lt_s_p : w.heap.size < wo0.heap.size := Blk.lt K_p.out
  have lt_s_l : (w.heap.size + 1) < wo0.heap.size := Blk.lt K_l.out
  have lt_s_r : (w.heap.size + 2) < wo0.heap.size := Blk.lt K_r.out
  have lt_s_e : (w.heap.size + 3) < wo0.heap.size := Blk.lt K_e.out
  have lt_s_o : w1.heap.size < wo0.heap.size := Blk.lt K_o.out
  replace K_p := K_p.out.alloc (.cells #[.int .i64 (lot : Int)] 3)
  replace K_l := K_l.out.alloc (.cells #[.int .i64 (lot : Int)] 3)
  replace K_r := K_r.out.alloc (.cells #[.int .i64 (lot : Int)] 3)
  replace K_e := K_e.out.alloc (.cells #[.int .i64 (lot : Int)] 3)
  replace K_o := K_o.out.alloc (.cells #[.int .i64 (lot : Int)] 3)
  replace HB := HB.out.alloc HB.out.size (.cells #[.int .i64 (lot : Int)] 3)
  have K_s := Blk.new wo0 3 #[.int .i64 (lot : Int)]
  have hwsz := World.size_alloc wo0 (.cells #[.int .i64 (lot : Int)] 3)
  generalize wo0.alloc (.cells #[.int .i64 (lot : Int)] 3) = ws at *
  replace K_p := hide K_p
  replace K_l := hide K_l
  replace K_r := hide K_r
  replace K_e := hide K_e
  replace K_o := hide K_o
  replace K_s := hide K_s
  replace HB := hide HB
  have lt_f_p : w.heap.size < ws.heap.size := Blk.lt K_p.out
  have lt_f_l : (w.heap.size + 1) < ws.heap.size := Blk.lt K_l.out
  have lt_f_r : (w.heap.size + 2) < ws.heap.size := Blk.lt K_r.out
  have lt_f_e : (w.heap.size + 3) < ws.heap.size := Blk.lt K_e.out
  have lt_f_o : w1.heap.size < ws.heap.size := Blk.lt K_o.out
  have lt_f_s : wo0.heap.size < ws.heap.size := Blk.lt K_s.out
  replace K_p := K_p.out.alloc (.cells #[.func (.func 72) #[] #[.pointer (some ⟨w.heap.size, 0, none⟩), .pointer (some ⟨(w.heap.size + 1), 0, none⟩)]] 106)
  replace K_l := K_l.out.alloc (.cells #[.func (.func 72) #[] #[.pointer (some ⟨w.heap.size, 0, none⟩), .pointer (some ⟨(w.heap.size + 1), 0, none⟩)]] 106)
  replace K_r := K_r.out.alloc (.cells #[.func (.func 72) #[] #[.pointer (some ⟨w.heap.size, 0, none⟩), .pointer (some ⟨(w.heap.size + 1), 0, none⟩)]] 106)
  replace K_e := K_e.out.alloc (.cells #[.func (.func 72) #[] #[.pointer (some ⟨w.heap.size, 0, none⟩), .pointer (some ⟨(w.heap.size + 1), 0, none⟩)]] 106)
  replace K_o := K_o.out.alloc (.cells #[.func (.func 72) #[] #[.pointer (some ⟨w.heap.size, 0, none⟩), .pointer (some ⟨(w.heap.size + 1), 0, none⟩)]] 106)
  replace K_s := K_s.out.alloc (.cells #[.func (.func 72) #[] #[.pointer (some ⟨w.heap.size, 0, none⟩), .pointer (some ⟨(w.heap.size + 1), 0, none⟩)]] 106)
  replace HB := HB.out.alloc HB.out.size (.cells #[.func (.func 72) #[] #[.pointer (some ⟨w.heap.size, 0, none⟩), .pointer (some ⟨(w.heap.size + 1), 0, none⟩)]] 106)
  have K_f := Blk.new ws 106 #[.func (.func 72) #[] #[.pointer (some ⟨w.heap.size, 0, none⟩), .pointer (some ⟨(w.heap.size + 1), 0, none⟩)]]
  generalize ws.alloc (.cells #[.func (.func 72) #[] #[.pointer (some ⟨w.heap.size, 0, none⟩), .pointer (some ⟨(w.heap.size + 1), 0, none⟩)]] 106) = wf at *
  replace K_p := hide K_p
  replace K_l := hide K_l
  replace K_r := hide K_r
  replace K_e := hide K_e
  replace K_o := hide K_o
  replace K_s := hide K_s
  replace K_f := hide K_f
  replace HB := hide HB
  rw [hwsz] at K_f
  clear hwsz
  have kR := K_r.out
  have kE := K_e.out
  have kO := K_o.out
  have ho1 : w.heap.size ≤ w1.heap.size := by omega
  obtain ⟨s0, hi, hz0, hz1, hz2⟩ := info_parts info_rat
  have hsz0 : w.heap.size ≤ wf.heap.size := HB.out.size
  have hbl0 : Blks wf (blC wo0.heap.size (wo0.heap.size + 1) w.heap.size (w.heap.size + 1) N C lot) := by
    intro x hx
    simp only [blC, List.mem_cons, List.not_mem_nil, or_false] at hx
    rcases hx with rfl | rfl | rfl | rfl
    · exact K_s.out
    · exact K_f.out
    · exact K_p.out
    · exact K_l.out
  refine (wpIn_wide (n := 6)).1 ?_
  refine wpIn_rangeFunc_ownG rfl (by omega) (gf := 116) (lb := #[.pointer (some ⟨wo0.heap.size, 0, none⟩), .pointer (some ⟨(wo0.heap.size + 1), 0, none⟩)]) rfl trivial (enters_of Tryz.func116 (by kernel_rfl) rfl)
    (lotsC_stops 5 (by omega) wo0.heap.size (wo0.heap.size + 1) w.heap.size (w.heap.size + 1) N C lot h1N hC hNl hl w HS.out wf HB.out hbl0) KpB.trans (KpB.put hsz0) (Below.refl _ _) (fun _ => rfl)
    (fun pre W => (∃ v, Boxed W w1.heap.size 55 v ∧ W.ownsRow w.heap.size 26 1 v pre.length (rcl (pre.map (dC N C lot)))) ∧ Blks W ((blC wo0.heap.size (wo0.heap.size + 1) w.heap.size (w.heap.size + 1) N C lot) ++ [((w.heap.size + 2), 55, #[.slice none 0 0]), ((w.heap.size + 3), 27, #[.int .i64 0])]) ∧ Below w.heap.size w W)
    (fun _ _ _ => False)
    (fun pre X Y row hs hg hr => ?own)
    (fun _ _ _ _ _ hs _ _ => hs)
    ?start
    (fun x => { tmps := #[.agg #[.int .i64 (N : Int), .int .i64 (C : Int)], .int .i64 (lot : Int), .pointer (some ⟨w.heap.size, 0, none⟩), .pointer (some ⟨(w.heap.size + 1), 0, none⟩), .pointer (some ⟨(w.heap.size + 2), 0, none⟩), .pointer (some ⟨(w.heap.size + 3), 0, none⟩), .int .i64 0, .pointer (some ⟨w1.heap.size, 0, none⟩), .string ⟨(RT (dC N C lot x)).toArray⟩, .int .i64 0, .agg #[.int .i64 (N : Int), .int .i64 (C : Int)], .int .i64 (lot : Int), .int .i64 0, .int .i64 0, .bool false, undef, .int .i64 (lot : Int), .func (.func 72) #[] #[.pointer (some ⟨w.heap.size, 0, none⟩), .pointer (some ⟨(w.heap.size + 1), 0, none⟩)], .func (.func 116) #[] #[.pointer (some ⟨wo0.heap.size, 0, none⟩), .pointer (some ⟨(wo0.heap.size + 1), 0, none⟩)], .string ⟨(RT (dC N C lot x)).toArray⟩, .int .i64 0, undef, undef, undef, undef, undef, undef, undef, undef], defers := [] }) ?assign ?body ?done ?stop
  case own =>
    obtain ⟨⟨v, h1, h2⟩, h3, h4⟩ := hs
    obtain ⟨h5, h6⟩ : Boxed Y w1.heap.size 55 v ∧ Y.ownsRow w.heap.size 26 1 v pre.length (rcl (pre.map (dC N C lot))) := by
      obtain ⟨v2, a1, a2, a3⟩ := (holdsRow_own (β := Unit) w.heap.size w1.heap.size 55 26 1 (fun _ => pre.length) (fun _ => rcl (pre.map (dC N C lot))) (fun _ u => u = v)) () X Y row ⟨v, h1, h2, rfl⟩ hg (fun r e => (hr r e).2)
      subst a3
      exact ⟨a1, a2⟩
    exact ⟨⟨v, h5, h6⟩, (Blks.own (β := Unit) wf.heap.size _) () X Y row h3 hg hr, (ownFrom_below (β := Unit) (Nat.le_refl _) hsz0) () X Y row h4 hg hr⟩
  case start =>
    refine ⟨⟨_, kO, World.ownsRow_nil _ _ _ _⟩, ?_, HB.out⟩
    intro x hx
    rcases List.mem_append.1 hx with hx | hx
    · exact hbl0 x hx
    · simp only [List.mem_cons, List.not_mem_nil, or_false] at hx
      rcases hx with rfl | rfl
      · exact kR
      · exact kE
  case assign =>
    intro l x W K hK
    simp only [encC]
    gi_wp2
    exact hK
  case body =>
    rintro l pre x W ⟨⟨v, hv, hrow⟩, hbk, hB⟩ hlt
    have hc := hv.cell
    have HBK := hide hbk
    have HBB := hide hB
    have hWs : w.heap.size ≤ W.heap.size := hB.size
    clear hbk hB
    gi_wp2_with (gi_at_builtin; refine wpListIn_append_own _ rfl _ _ 55 rfl w.heap.size 26 s0 (.string ⟨#[]⟩) 1 16 Tryz.underlying55 hi hz0 hz1 hz2 rfl (by decide) _ _ _ rfl (hrow.alloc _) ⟨W.heap.size, 0, none⟩ 1 1 [.string ⟨(RT (dC N C lot x)).toArray⟩] rfl rfl (cell_one_new _ _ _) (by simp [Value.oneCell']) (by unfold maxLen; omega) (by omega) (by simp; omega) ?_; intro v' w9 hown' hgrow _; obtain ⟨g', cap', rfl⟩ := ownsRow_succ hown'; have happ := Blks.appended HBK.out (O := w1.heap.size) (by intro y hy; simp [blC] at hy; rcases hy with rfl | rfl | rfl | rfl | rfl | rfl <;> simp) (by intro y hy; simp [blC] at hy; rcases hy with rfl | rfl | rfl | rfl | rfl | rfl <;> (simp; omega)) hrow hgrow (.slice (some ⟨g', 0, none⟩) (pre.length + 1) cap'); obtain ⟨hv1, hv2, hr2, hk2, hb2⟩ := hv.appended (by decide) hrow hWs ho1 hown' hgrow; have hc1 := hv1.cell; have hf1 := hv1.frozen)
    rw [rcl_snoc] at hr2
    refine ⟨hk2.from _, ⟨hb2, fun _ => fun y hy => happ y (List.mem_append_left _ hy)⟩, ⟨_, hv2, by simpa using hr2⟩, happ, HBB.out.trans hb2⟩
  case done =>
    rintro E ys W hE rfl ⟨⟨v, hv, hrow⟩, hbk, hB⟩ hK
    rw [List.length_range] at hrow
    obtain ⟨g, cap, rfl⟩ := ownsRow_succ hrow
    have HBX := hide hB
    have HKX := hide hK
    have kr : Blk W ((w.heap.size + 2)) 55 #[.slice none 0 0] := hbk _ (List.mem_append_right _ (.head _))
    have ke : Blk W ((w.heap.size + 3)) 27 #[.int .i64 0] := hbk _ (List.mem_append_right _ (.tail _ (.head _)))
    have hst := strs_of_row (L := (List.range (lot + 1)).map (dC N C lot)) hrow (by simp)
    have HST := hide hst
    have HRW := hide hrow
    have cO := hv.cell
    have cR := Blk.cell kr 0
    have fR := Blk.frozen kr 0
    have cE := Blk.cell ke 0
    have fE := Blk.frozen ke 0
    clear hB hK hbk hst hrow
    go_wp2_with fail
    have d1 : Blk (W.setCell ⟨(w.heap.size + 2), 0, none⟩ (.slice (some ⟨g, 0, none⟩) (lot + 1) cap)) ((w.heap.size + 2)) 55 #[.slice (some ⟨g, 0, none⟩) (lot + 1) cap] := kr.set_ 0 (.slice (some ⟨g, 0, none⟩) (lot + 1) cap)
    have d2 : Blk (W.setCell ⟨(w.heap.size + 2), 0, none⟩ (.slice (some ⟨g, 0, none⟩) (lot + 1) cap)) ((w.heap.size + 3)) 27 #[.int .i64 0] := ke.far (p := ⟨(w.heap.size + 2), 0, none⟩) (by show (w.heap.size + 3) ≠ (w.heap.size + 2); omega) (.slice (some ⟨g, 0, none⟩) (lot + 1) cap)
    obtain ⟨W3, hW3⟩ : ∃ W3, ((W.setCell ⟨(w.heap.size + 2), 0, none⟩ (.slice (some ⟨g, 0, none⟩) (lot + 1) cap)).setCell ⟨(w.heap.size + 3), 0, none⟩ (.int .i64 0)) = W3 := ⟨_, rfl⟩
    have d3 : Blk W3 ((w.heap.size + 2)) 55 #[.slice (some ⟨g, 0, none⟩) (lot + 1) cap] := by rw [← hW3]; exact d1.far (p := ⟨(w.heap.size + 3), 0, none⟩) (by show (w.heap.size + 2) ≠ (w.heap.size + 3); omega) (.int .i64 0)
    have d4 : Blk W3 ((w.heap.size + 3)) 27 #[.int .i64 0] := by rw [← hW3]; exact d2.set_ 0 (.int .i64 0)
    have hK' : W3.heap[E]? = some (.deferred (some [])) := by rw [← hW3]; exact ((KeepsOthers.setCell _ _ _).trans (KeepsOthers.setCell _ _ _)).same E _ HKX.out rfl
    have HB3 : Below w.heap.size w W3 := by rw [← hW3]; exact (HBX.out.setCell (p := ⟨(w.heap.size + 2), 0, none⟩) (by show w.heap.size ≤ (w.heap.size + 2); omega) _).setCell (p := ⟨(w.heap.size + 3), 0, none⟩) (by show w.heap.size ≤ (w.heap.size + 3); omega) _
    have HR3 : W3.ownsRow w.heap.size 26 1 (.slice (some ⟨g, 0, none⟩) (lot + 1) cap) (lot + 1) (rcl ((List.range (lot + 1)).map (dC N C lot))) := by
      rw [← hW3]
      exact (HRW.out.kept (grownBy_setCell' W _ _) (.inr (Blk.not_row kr (by decide) HRW.out).symm)).kept (grownBy_setCell' _ _ _) (.inr (Blk.not_row d2 (by decide) (HRW.out.kept (grownBy_setCell' W _ _) (.inr (Blk.not_row kr (by decide) HRW.out).symm))).symm)
    try simp only [Nat.add_assoc, Nat.reduceAdd]
    rw [hW3]
    refine ⟨by simp, .inl ⟨_, _, rfl, run_takeDeferred hK', ?_⟩⟩
    have h6 := cell_kept (Blk.cell d3 0) (grownBy_putObj' _ E (.deferred none)) (fun r e => by cases e; exact ⟨_, hK', rfl⟩)
    have h7 := cell_kept (Blk.cell d4 0) (grownBy_putObj' _ E (.deferred none)) (fun r e => by cases e; exact ⟨_, hK', rfl⟩)
    refine ⟨.tuple #[.slice (some ⟨g, 0, none⟩) (lot + 1) cap, .int .i64 0], ?_, _, rfl, strs_of_row (ownsRow_putObj HR3 _ hK' rfl) (by simp), HB3.trans (belowK_b (w := w) (Nat.le_refl _) W3 E _ _ (by omega) hK' rfl rfl)⟩
    simp [results, Tryz.results30, go_sem, h6, h7]
  case stop =>
    rintro E c2 pre W _ _ h _
    exact h.elim


/-- The greatest number so far and its place; how many there were. -/
def mxS (D : Nat → Rat) (l : List Nat) : Option (Rat × Nat) × Nat := l.foldl (fun s x => ((match s.1 with | none => some (D x, s.2) | some b => if b.1 < D x then some (D x, s.2) else some b), s.2 + 1)) (none, 0)
theorem mxS_snoc (D : Nat → Rat) (l : List Nat) (x : Nat) : mxS D (l ++ [x]) = ((match (mxS D l).1 with | none => some (D x, (mxS D l).2) | some b => if b.1 < D x then some (D x, (mxS D l).2) else some b), (mxS D l).2 + 1) := by simp [mxS]
theorem mxS_len (D : Nat → Rat) (l : List Nat) : (mxS D l).2 = l.length := by
  suffices h : ∀ (l : List Nat) (s : Option (Rat × Nat) × Nat), (l.foldl (fun s x => ((match s.1 with | none => some (D x, s.2) | some b => if b.1 < D x then some (D x, s.2) else some b), s.2 + 1)) s).2 = s.2 + l.length by
    have := h l (none, 0); rwa [Nat.zero_add] at this
  intro l
  induction l with
  | nil => intro s; rfl
  | cons x l ih => intro s; rw [List.foldl_cons, ih]; simp; omega
theorem mxS_upto (D : Nat → Rat) : ∀ n, (mxS D (List.range (n + 1))).1 = some (wstF D n)
  | 0 => rfl
  | n + 1 => by
    rw [List.range_succ, mxS_snoc, mxS_len, List.length_range, mxS_upto D n]
    rw [show wstF D (n + 1) = if (wstF D n).1 < D (n + 1) then (D (n + 1), n + 1) else wstF D n from rfl]
    show (if (wstF D n).1 < D (n + 1) then some (D (n + 1), n + 1) else some (wstF D n)) = _
    split <;> rfl
theorem mxS_sz {D : Nat → Rat} {m : Nat} (h : ∀ j, Sz m m (D j)) : ∀ (l : List Nat) (b : Rat × Nat), (mxS D l).1 = some b → Sz m m b.1 := by
  suffices k : ∀ (l : List Nat) (s : Option (Rat × Nat) × Nat), (∀ b, s.1 = some b → Sz m m b.1) → ∀ b, (l.foldl (fun s x => ((match s.1 with | none => some (D x, s.2) | some b => if b.1 < D x then some (D x, s.2) else some b), s.2 + 1)) s).1 = some b → Sz m m b.1 from fun l b e => k l (none, 0) (fun _ e => by cases e) b e
  intro l
  induction l with
  | nil => exact fun s hs b e => hs b e
  | cons x l ih =>
    intro s hs b e
    rw [List.foldl_cons] at e
    refine ih _ ?_ b e
    intro b2 e2
    rcases s with ⟨_ | s, n⟩
    · cases e2; exact h x
    · simp only at e2
      split at e2
      · cases e2; exact h x
      · cases e2; exact hs _ rfl
def mxT : Option (Rat × Nat) → ByteArray
  | none => ⟨#[45, 49]⟩
  | some b => ⟨(RT b.1).toArray⟩
def mxA : Option (Rat × Nat) → Int
  | none => 0
  | some b => (b.2 : Int)
theorem rt_m1 : RT (-1) = [45, 49] := by decide +kernel
/-- The number with which the new one is compared. -/
def mxQ : Option (Rat × Nat) → Rat
  | none => -1
  | some b => b.1
theorem mxT_data (s : Option (Rat × Nat)) : (mxT s).data.toList = RT (mxQ s) := by
  rcases s with _ | b
  · exact rt_m1.symm
  · rfl
theorem dW_nn (N C lot k : Nat) : 0 ≤ dW N C lot k := outQ_nn _ _ _ _
theorem keepsFrom_drew (B : Nat) (W : World) : KeepsFrom B W W.drew := ⟨Nat.le_refl _, fun _ _ _ h _ => h⟩
theorem kf_set {B : Nat} {W X : World} (h : KeepsFrom B W X) (p : Addr) (v : Value) : KeepsFrom B W (X.setCell p v) := h.trans ((KeepsOthers.setCell X p v).from B)
theorem dW_sz {N C lot : Nat} (h1 : 1 ≤ N) (hC : C ≤ N) (hNl : N ≤ lot) (hl : lot ≤ 64) (k : Nat) : Sz 23 23 (dW N C lot k) := by
  unfold dW
  obtain ⟨k, hk, hm⟩ : ∃ m, m ≤ lot ∧ min k lot = m := ⟨_, Nat.min_le_right _ _, rfl⟩
  rw [hm]
  clear hm
  have h1 := outN_lt (b := k) (g := lot - k) hC
  have h2 := bin64 (n := k + (lot - k)) (k := N) (by omega)
  have h3 : k * bin (k + (lot - k)) N ≤ 64 * 10 ^ 20 := Nat.mul_le_mul (by omega) (by omega)
  have h4 : bin (k + (lot - k)) N * (k + (lot - k)) ≤ 10 ^ 20 * 64 := Nat.mul_le_mul (by omega) (by omega)
  exact divi_sz (by have := bin_pos (n := k + (lot - k)) (k := N) (by omega); exact Nat.ne_of_gt (Nat.mul_pos this (by omega))) (by omega) (by omega)

set_option maxRecDepth 100000 in
set_option maxHeartbeats 8000000 in
theorem worst_any (w : World) (N C lot : Nat) (h1N : 1 ≤ N) (hC : C ≤ N) (hNl : N ≤ lot) (hl : lot ≤ 64) (hs : Std w) :
    Calls Tryz.prog 38 #[.agg #[.int .i64 (N : Int), .int .i64 (C : Int)], .int .i64 (lot : Int)] w fun e w' => e = .returned (.tuple #[.int .i64 (((wstF (dW N C lot) lot).2 : Nat) : Int), .string ⟨(RT (wstF (dW N C lot) lot).1).toArray⟩, .int .i64 0]) ∧ Below w.heap.size w w' := by
  have HS := hide hs
  have HC := hide (fun W => listed_any W (N : Int) (C : Int) (lot : Int))
  have hck : ckI (N : Int) (C : Int) (lot : Int) = 0 := by unfold ckI; rw [ckL_zero.2 (by omega)]; simp; omega
  rw [hck] at HC
  clear hck hs
  have HB := allocs_below w [.cells #[.int .i64 (N : Int), .int .i64 (C : Int)] 30, .cells #[.int .i64 (lot : Int)] 3, .cells #[.int .i64 0] 3, .cells #[.string ⟨#[]⟩] 26, .cells #[.int .i64 0] 27]
  have K_p : Blk (allocs w [.cells #[.int .i64 (N : Int), .int .i64 (C : Int)] 30, .cells #[.int .i64 (lot : Int)] 3, .cells #[.int .i64 0] 3, .cells #[.string ⟨#[]⟩] 26, .cells #[.int .i64 0] 27]) (w.heap.size + 0) 30 #[.int .i64 (N : Int), .int .i64 (C : Int)] := allocs_at w [.cells #[.int .i64 (N : Int), .int .i64 (C : Int)] 30, .cells #[.int .i64 (lot : Int)] 3, .cells #[.int .i64 0] 3, .cells #[.string ⟨#[]⟩] 26, .cells #[.int .i64 0] 27] 0 rfl
  have K_l : Blk (allocs w [.cells #[.int .i64 (N : Int), .int .i64 (C : Int)] 30, .cells #[.int .i64 (lot : Int)] 3, .cells #[.int .i64 0] 3, .cells #[.string ⟨#[]⟩] 26, .cells #[.int .i64 0] 27]) (w.heap.size + 1) 3 #[.int .i64 (lot : Int)] := allocs_at w [.cells #[.int .i64 (N : Int), .int .i64 (C : Int)] 30, .cells #[.int .i64 (lot : Int)] 3, .cells #[.int .i64 0] 3, .cells #[.string ⟨#[]⟩] 26, .cells #[.int .i64 0] 27] 1 rfl
  have K_a : Blk (allocs w [.cells #[.int .i64 (N : Int), .int .i64 (C : Int)] 30, .cells #[.int .i64 (lot : Int)] 3, .cells #[.int .i64 0] 3, .cells #[.string ⟨#[]⟩] 26, .cells #[.int .i64 0] 27]) (w.heap.size + 2) 3 #[.int .i64 0] := allocs_at w [.cells #[.int .i64 (N : Int), .int .i64 (C : Int)] 30, .cells #[.int .i64 (lot : Int)] 3, .cells #[.int .i64 0] 3, .cells #[.string ⟨#[]⟩] 26, .cells #[.int .i64 0] 27] 2 rfl
  have K_x : Blk (allocs w [.cells #[.int .i64 (N : Int), .int .i64 (C : Int)] 30, .cells #[.int .i64 (lot : Int)] 3, .cells #[.int .i64 0] 3, .cells #[.string ⟨#[]⟩] 26, .cells #[.int .i64 0] 27]) (w.heap.size + 3) 26 #[.string ⟨#[]⟩] := allocs_at w [.cells #[.int .i64 (N : Int), .int .i64 (C : Int)] 30, .cells #[.int .i64 (lot : Int)] 3, .cells #[.int .i64 0] 3, .cells #[.string ⟨#[]⟩] 26, .cells #[.int .i64 0] 27] 3 rfl
  have K_e : Blk (allocs w [.cells #[.int .i64 (N : Int), .int .i64 (C : Int)] 30, .cells #[.int .i64 (lot : Int)] 3, .cells #[.int .i64 0] 3, .cells #[.string ⟨#[]⟩] 26, .cells #[.int .i64 0] 27]) (w.heap.size + 4) 27 #[.int .i64 0] := allocs_at w [.cells #[.int .i64 (N : Int), .int .i64 (C : Int)] 30, .cells #[.int .i64 (lot : Int)] 3, .cells #[.int .i64 0] 3, .cells #[.string ⟨#[]⟩] 26, .cells #[.int .i64 0] 27] 4 rfl
  unfold allocs at HB K_p K_l K_a K_x K_e
  simp only [List.foldl_cons, List.foldl_nil] at HB K_p K_l K_a K_x K_e
  rw [Nat.add_zero] at K_p
  refine (callsIn_wide (n := 6)).1 ?_
  refine callsIn_of_wp_marks Tryz.func38 rfl trivial ?_ rfl
  simp only [Tryz.ntmps38, List.size_toArray, List.length_cons, List.length_nil, Nat.reduceAdd, Nat.reduceSub, Array.replicate_succ, Array.replicate_zero, List.push_toArray, List.append_toArray, List.nil_append, List.cons_append]
  refine wpIn_wide.2 ?_
  go_upto_region 1 with (fail)
  generalize (((((w.alloc (.cells #[.int .i64 (N : Int), .int .i64 (C : Int)] 30)).alloc (.cells #[.int .i64 (lot : Int)] 3)).alloc (.cells #[.int .i64 0] 3)).alloc (.cells #[.string ⟨#[]⟩] 26)).alloc (.cells #[.int .i64 0] 27)) = w0 at *
  replace K_p := hide K_p
  replace K_l := hide K_l
  replace K_a := hide K_a
  replace K_x := hide K_x
  replace K_e := hide K_e
  replace HB := hide HB
  have p0 := (Blk.cell K_p.out 0).trans (rfl : _ = some (Value.int .i64 (N : Int)))
  have p1 := (Blk.cell K_p.out 1).trans (rfl : _ = some (Value.int .i64 (C : Int)))
  have l0 := (Blk.cell K_l.out 0).trans (rfl : _ = some (Value.int .i64 (lot : Int)))
  go_wp2_with fail
  refine (HC.out _).mono ?_
  rintro e w1 ⟨rfl, hb⟩
  clear p0 p1 l0
  replace K_p := hide (Blk.below K_p.out hb (Blk.lt K_p.out))
  replace K_l := hide (Blk.below K_l.out hb (Blk.lt K_l.out))
  replace K_a := hide (Blk.below K_a.out hb (Blk.lt K_a.out))
  replace K_x := hide (Blk.below K_x.out hb (Blk.lt K_x.out))
  replace K_e := hide (Blk.below K_e.out hb (Blk.lt K_e.out))
  replace HB := hide (HB.out.trans (hb.mono HB.out.size))
  clear hb
  have p0 := (Blk.cell K_p.out 0).trans (rfl : _ = some (Value.int .i64 (N : Int)))
  have p1 := (Blk.cell K_p.out 1).trans (rfl : _ = some (Value.int .i64 (C : Int)))
  have l0 := (Blk.cell K_l.out 0).trans (rfl : _ = some (Value.int .i64 (lot : Int)))
  go_upto_region 5 with (fail)
  clear p0 p1 l0
  have lt_b_p : w.heap.size < w1.heap.size := Blk.lt K_p.out
  have lt_b_l : (w.heap.size + 1) < w1.heap.size := Blk.lt K_l.out
  have lt_b_a : (w.heap.size + 2) < w1.heap.size := Blk.lt K_a.out
  have lt_b_x : (w.heap.size + 3) < w1.heap.size := Blk.lt K_x.out
  have lt_b_e : (w.heap.size + 4) < w1.heap.size := Blk.lt K_e.out
  replace K_p := K_p.out.alloc (.cells #[.string ⟨#[45, 49]⟩] 26)
  replace K_l := K_l.out.alloc (.cells #[.string ⟨#[45, 49]⟩] 26)
  replace K_a := K_a.out.alloc (.cells #[.string ⟨#[45, 49]⟩] 26)
  replace K_x := K_x.out.alloc (.cells #[.string ⟨#[45, 49]⟩] 26)
  replace K_e := K_e.out.alloc (.cells #[.string ⟨#[45, 49]⟩] 26)
  replace HB := HB.out.alloc HB.out.size (.cells #[.string ⟨#[45, 49]⟩] 26)
  have K_b := Blk.new w1 26 #[.string ⟨#[45, 49]⟩]
  have hwo0 := World.size_alloc w1 (.cells #[.string ⟨#[45, 49]⟩] 26)
  generalize w1.alloc (.cells #[.string ⟨#[45, 49]⟩] 26) = wo0 at *
  replace K_p := hide K_p
  replace K_l := hide K_l
  replace K_a := hide K_a
  replace K_x := hide K_x
  replace K_e := hide K_e
  replace K_b := hide K_b
  replace HB := hide HB
  have lt_t_p : w.heap.size < wo0.heap.size := Blk.lt K_p.out
  have lt_t_l : (w.heap.size + 1) < wo0.heap.size := Blk.lt K_l.out
  have lt_t_a : (w.heap.size + 2) < wo0.heap.size := Blk.lt K_a.out
  have lt_t_x : (w.heap.size + 3) < wo0.heap.size := Blk.lt K_x.out
  have lt_t_e : (w.heap.size + 4) < wo0.heap.size := Blk.lt K_e.out
  have lt_t_b : w1.heap.size < wo0.heap.size := Blk.lt K_b.out
  replace K_p := K_p.out.alloc (.cells #[.int .i64 0] 3)
  replace K_l := K_l.out.alloc (.cells #[.int .i64 0] 3)
  replace K_a := K_a.out.alloc (.cells #[.int .i64 0] 3)
  replace K_x := K_x.out.alloc (.cells #[.int .i64 0] 3)
  replace K_e := K_e.out.alloc (.cells #[.int .i64 0] 3)
  replace K_b := K_b.out.alloc (.cells #[.int .i64 0] 3)
  replace HB := HB.out.alloc HB.out.size (.cells #[.int .i64 0] 3)
  have K_t := Blk.new wo0 3 #[.int .i64 0]
  have hwo1 := World.size_alloc wo0 (.cells #[.int .i64 0] 3)
  generalize wo0.alloc (.cells #[.int .i64 0] 3) = wo1 at *
  replace K_p := hide K_p
  replace K_l := hide K_l
  replace K_a := hide K_a
  replace K_x := hide K_x
  replace K_e := hide K_e
  replace K_b := hide K_b
  replace K_t := hide K_t
  replace HB := hide HB
  rw [hwo0] at K_t
  have lt_n_p : w.heap.size < wo1.heap.size := Blk.lt K_p.out
  have lt_n_l : (w.heap.size + 1) < wo1.heap.size := Blk.lt K_l.out
  have lt_n_a : (w.heap.size + 2) < wo1.heap.size := Blk.lt K_a.out
  have lt_n_x : (w.heap.size + 3) < wo1.heap.size := Blk.lt K_x.out
  have lt_n_e : (w.heap.size + 4) < wo1.heap.size := Blk.lt K_e.out
  have lt_n_b : w1.heap.size < wo1.heap.size := Blk.lt K_b.out
  have lt_n_t : (w1.heap.size + 1) < wo1.heap.size := Blk.lt K_t.out
  replace K_p := K_p.out.alloc (.cells #[.int .i64 0] 3)
  replace K_l := K_l.out.alloc (.cells #[.int .i64 0] 3)
  replace K_a := K_a.out.alloc (.cells #[.int .i64 0] 3)
  replace K_x := K_x.out.alloc (.cells #[.int .i64 0] 3)
  replace K_e := K_e.out.alloc (.cells #[.int .i64 0] 3)
  replace K_b := K_b.out.alloc (.cells #[.int .i64 0] 3)
  replace K_t := K_t.out.alloc (.cells #[.int .i64 0] 3)
  replace HB := HB.out.alloc HB.out.size (.cells #[.int .i64 0] 3)
  have K_n := Blk.new wo1 3 #[.int .i64 0]
  generalize wo1.alloc (.cells #[.int .i64 0] 3) = wo2 at *
  replace K_p := hide K_p
  replace K_l := hide K_l
  replace K_a := hide K_a
  replace K_x := hide K_x
  replace K_e := hide K_e
  replace K_b := hide K_b
  replace K_t := hide K_t
  replace K_n := hide K_n
  replace HB := hide HB
  rw [hwo1, hwo0] at K_n
  have l0 := (Blk.cell K_l.out 0).trans (rfl : _ = some (Value.int .i64 (lot : Int)))
  go_wp2_with fail
  refine (lots_any _ _ _ _).mono ?_
  rintro e w8 ⟨rfl, rfl⟩
  go_wp2_with fail
  clear l0
  have lt_s_p : w.heap.size < wo2.heap.size := Blk.lt K_p.out
  have lt_s_l : (w.heap.size + 1) < wo2.heap.size := Blk.lt K_l.out
  have lt_s_a : (w.heap.size + 2) < wo2.heap.size := Blk.lt K_a.out
  have lt_s_x : (w.heap.size + 3) < wo2.heap.size := Blk.lt K_x.out
  have lt_s_e : (w.heap.size + 4) < wo2.heap.size := Blk.lt K_e.out
  have lt_s_b : w1.heap.size < wo2.heap.size := Blk.lt K_b.out
  have lt_s_t : (w1.heap.size + 1) < wo2.heap.size := Blk.lt K_t.out
  have lt_s_n : ((w1.heap.size + 1) + 1) < wo2.heap.size := Blk.lt K_n.out
  replace K_p := K_p.out.alloc (.cells #[.int .i64 (lot : Int)] 3)
  replace K_l := K_l.out.alloc (.cells #[.int .i64 (lot : Int)] 3)
  replace K_a := K_a.out.alloc (.cells #[.int .i64 (lot : Int)] 3)
  replace K_x := K_x.out.alloc (.cells #[.int .i64 (lot : Int)] 3)
  replace K_e := K_e.out.alloc (.cells #[.int .i64 (lot : Int)] 3)
  replace K_b := K_b.out.alloc (.cells #[.int .i64 (lot : Int)] 3)
  replace K_t := K_t.out.alloc (.cells #[.int .i64 (lot : Int)] 3)
  replace K_n := K_n.out.alloc (.cells #[.int .i64 (lot : Int)] 3)
  replace HB := HB.out.alloc HB.out.size (.cells #[.int .i64 (lot : Int)] 3)
  have K_s := Blk.new wo2 3 #[.int .i64 (lot : Int)]
  have hwsz := World.size_alloc wo2 (.cells #[.int .i64 (lot : Int)] 3)
  generalize wo2.alloc (.cells #[.int .i64 (lot : Int)] 3) = ws at *
  replace K_p := hide K_p
  replace K_l := hide K_l
  replace K_a := hide K_a
  replace K_x := hide K_x
  replace K_e := hide K_e
  replace K_b := hide K_b
  replace K_t := hide K_t
  replace K_n := hide K_n
  replace K_s := hide K_s
  replace HB := hide HB
  have lt_f_p : w.heap.size < ws.heap.size := Blk.lt K_p.out
  have lt_f_l : (w.heap.size + 1) < ws.heap.size := Blk.lt K_l.out
  have lt_f_a : (w.heap.size + 2) < ws.heap.size := Blk.lt K_a.out
  have lt_f_x : (w.heap.size + 3) < ws.heap.size := Blk.lt K_x.out
  have lt_f_e : (w.heap.size + 4) < ws.heap.size := Blk.lt K_e.out
  have lt_f_b : w1.heap.size < ws.heap.size := Blk.lt K_b.out
  have lt_f_t : (w1.heap.size + 1) < ws.heap.size := Blk.lt K_t.out
  have lt_f_n : ((w1.heap.size + 1) + 1) < ws.heap.size := Blk.lt K_n.out
  have lt_f_s : wo2.heap.size < ws.heap.size := Blk.lt K_s.out
  replace K_p := K_p.out.alloc (.cells #[.func (.func 87) #[] #[.pointer (some ⟨w.heap.size, 0, none⟩), .pointer (some ⟨(w.heap.size + 1), 0, none⟩)]] 106)
  replace K_l := K_l.out.alloc (.cells #[.func (.func 87) #[] #[.pointer (some ⟨w.heap.size, 0, none⟩), .pointer (some ⟨(w.heap.size + 1), 0, none⟩)]] 106)
  replace K_a := K_a.out.alloc (.cells #[.func (.func 87) #[] #[.pointer (some ⟨w.heap.size, 0, none⟩), .pointer (some ⟨(w.heap.size + 1), 0, none⟩)]] 106)
  replace K_x := K_x.out.alloc (.cells #[.func (.func 87) #[] #[.pointer (some ⟨w.heap.size, 0, none⟩), .pointer (some ⟨(w.heap.size + 1), 0, none⟩)]] 106)
  replace K_e := K_e.out.alloc (.cells #[.func (.func 87) #[] #[.pointer (some ⟨w.heap.size, 0, none⟩), .pointer (some ⟨(w.heap.size + 1), 0, none⟩)]] 106)
  replace K_b := K_b.out.alloc (.cells #[.func (.func 87) #[] #[.pointer (some ⟨w.heap.size, 0, none⟩), .pointer (some ⟨(w.heap.size + 1), 0, none⟩)]] 106)
  replace K_t := K_t.out.alloc (.cells #[.func (.func 87) #[] #[.pointer (some ⟨w.heap.size, 0, none⟩), .pointer (some ⟨(w.heap.size + 1), 0, none⟩)]] 106)
  replace K_n := K_n.out.alloc (.cells #[.func (.func 87) #[] #[.pointer (some ⟨w.heap.size, 0, none⟩), .pointer (some ⟨(w.heap.size + 1), 0, none⟩)]] 106)
  replace K_s := K_s.out.alloc (.cells #[.func (.func 87) #[] #[.pointer (some ⟨w.heap.size, 0, none⟩), .pointer (some ⟨(w.heap.size + 1), 0, none⟩)]] 106)
  replace HB := HB.out.alloc HB.out.size (.cells #[.func (.func 87) #[] #[.pointer (some ⟨w.heap.size, 0, none⟩), .pointer (some ⟨(w.heap.size + 1), 0, none⟩)]] 106)
  have K_f := Blk.new ws 106 #[.func (.func 87) #[] #[.pointer (some ⟨w.heap.size, 0, none⟩), .pointer (some ⟨(w.heap.size + 1), 0, none⟩)]]
  generalize ws.alloc (.cells #[.func (.func 87) #[] #[.pointer (some ⟨w.heap.size, 0, none⟩), .pointer (some ⟨(w.heap.size + 1), 0, none⟩)]] 106) = wf at *
  replace K_p := hide K_p
  replace K_l := hide K_l
  replace K_a := hide K_a
  replace K_x := hide K_x
  replace K_e := hide K_e
  replace K_b := hide K_b
  replace K_t := hide K_t
  replace K_n := hide K_n
  replace K_s := hide K_s
  replace K_f := hide K_f
  replace HB := hide HB
  clear hwo0 hwo1
  rw [hwsz] at K_f
  clear hwsz
  have kA := K_a.out
  have kX := K_x.out
  have kE := K_e.out
  have kBB := K_b.out
  have kT := K_t.out
  have kN := K_n.out
  have ho1 : w.heap.size ≤ w1.heap.size := by omega
  have hos : w1.heap.size + 1 + 1 < wo2.heap.size := by omega
  have hsz0 : w.heap.size ≤ wf.heap.size := HB.out.size
  have hbl0 : Blks wf (blW wo2.heap.size (wo2.heap.size + 1) w.heap.size (w.heap.size + 1) N C lot) := by
    intro x hx
    simp only [blW, List.mem_cons, List.not_mem_nil, or_false] at hx
    rcases hx with rfl | rfl | rfl | rfl
    · exact K_s.out
    · exact K_f.out
    · exact K_p.out
    · exact K_l.out
  refine (wpIn_wide (n := 6)).1 ?_
  refine wpIn_rangeFunc_ownG rfl (by omega) (gf := 116) (lb := #[.pointer (some ⟨wo2.heap.size, 0, none⟩), .pointer (some ⟨(wo2.heap.size + 1), 0, none⟩)]) rfl trivial (enters_of Tryz.func116 (by kernel_rfl) rfl)
    (lotsW_stops 5 (by omega) wo2.heap.size (wo2.heap.size + 1) w.heap.size (w.heap.size + 1) N C lot h1N hC hNl hl w HS.out wf HB.out hbl0) KpB.trans (KpB.put hsz0) (Below.refl _ _) (fun _ => rfl)
    (fun pre W => Boxed W (w1.heap.size) 26 (.string (mxT (mxS (dW N C lot) pre).1)) ∧ Boxed W ((w1.heap.size + 1)) 3 (.int .i64 (mxA (mxS (dW N C lot) pre).1)) ∧ Boxed W (((w1.heap.size + 1) + 1)) 3 (.int .i64 ((pre.length : Nat) : Int)) ∧ Blks W ((blW wo2.heap.size (wo2.heap.size + 1) w.heap.size (w.heap.size + 1) N C lot) ++ [((w.heap.size + 2), 3, #[.int .i64 0]), ((w.heap.size + 3), 26, #[.string ⟨#[]⟩]), ((w.heap.size + 4), 27, #[.int .i64 0])]) ∧ Below w.heap.size w W)
    (fun _ _ _ => False)
    (fun pre X Y row hs hg hr => ?own)
    (fun _ _ _ _ _ hs _ _ => hs)
    ?start
    (fun x => { tmps := #[.agg #[.int .i64 (N : Int), .int .i64 (C : Int)], .int .i64 (lot : Int), .pointer (some ⟨w.heap.size, 0, none⟩), .pointer (some ⟨(w.heap.size + 1), 0, none⟩), .pointer (some ⟨(w.heap.size + 2), 0, none⟩), .pointer (some ⟨(w.heap.size + 3), 0, none⟩), .pointer (some ⟨(w.heap.size + 4), 0, none⟩), .int .i64 0, .pointer (some ⟨w1.heap.size, 0, none⟩), .pointer (some ⟨(w1.heap.size + 1), 0, none⟩), .pointer (some ⟨((w1.heap.size + 1) + 1), 0, none⟩), .string ⟨(RT (dW N C lot x)).toArray⟩, .int .i64 0, undef, undef, .agg #[.int .i64 (N : Int), .int .i64 (C : Int)], .int .i64 (lot : Int), .int .i64 0, .int .i64 0, .bool false, undef, .int .i64 (lot : Int), .func (.func 87) #[] #[.pointer (some ⟨w.heap.size, 0, none⟩), .pointer (some ⟨(w.heap.size + 1), 0, none⟩)], .func (.func 116) #[] #[.pointer (some ⟨wo2.heap.size, 0, none⟩), .pointer (some ⟨(wo2.heap.size + 1), 0, none⟩)], .string ⟨(RT (dW N C lot x)).toArray⟩, .int .i64 0, undef, undef, undef, undef, undef, undef, undef, undef, undef, undef, undef, undef, undef, undef, undef, undef, undef, undef, undef, undef], defers := [] }) ?assign ?body ?done ?stop
  case own =>
    obtain ⟨h1, h2, h3, h4, h5⟩ := hs
    exact ⟨(boxed_own (β := Unit) _ _ (fun _ => _)) () X Y row h1 hg (fun r e => (hr r e).2), (boxed_own (β := Unit) _ _ (fun _ => _)) () X Y row h2 hg (fun r e => (hr r e).2), (boxed_own (β := Unit) _ _ (fun _ => _)) () X Y row h3 hg (fun r e => (hr r e).2), (Blks.own (β := Unit) wf.heap.size _) () X Y row h4 hg hr, (ownFrom_below (β := Unit) (Nat.le_refl _) hsz0) () X Y row h5 hg hr⟩
  case start =>
    refine ⟨kBB, kT, kN, ?_, HB.out⟩
    intro x hx
    rcases List.mem_append.1 hx with hx | hx
    · exact hbl0 x hx
    · simp only [List.mem_cons, List.not_mem_nil, or_false] at hx
      rcases hx with rfl | rfl | rfl
      · exact kA
      · exact kX
      · exact kE
  case assign =>
    intro l x W K hK
    simp only [encW]
    gi_wp2
    exact hK
  case body =>
    rintro l pre x W ⟨bB, bT, bN, hbk, hB⟩ hlt
    have hzd := dW_sz h1N hC hNl hl
    have hq0 := dW_nn N C lot x
    have HBK := hide hbk
    have HBB := hide hB
    have hWs : w.heap.size ≤ W.heap.size := hB.size
    have hln := mxS_len (dW N C lot) pre
    have hsn := mxS_snoc (dW N C lot) pre x
    rw [hln] at hsn
    obtain ⟨st, hst⟩ : ∃ st, (mxS (dW N C lot) pre).1 = st := ⟨_, rfl⟩
    have hqs : Sz 23 23 (mxQ st) := by
        rcases st with _ | b
        · exact ⟨by decide, by decide⟩
        · exact mxS_sz hzd pre b hst
    rw [hst] at bB bT hsn
    have HF := hide (cmpS_any W ⟨(RT (dW N C lot x)).toArray⟩ (mxT st) (dW N C lot x) (mxQ st) 23 rfl (mxT_data st) (by omega) (hzd x) hqs (HS.out.below hB (Nat.le_refl _)))
    have hss := sgn_pos (p := dW N C lot x) (q := mxQ st)
    obtain ⟨sg, hsg⟩ : ∃ s, sgn (dW N C lot x) (mxQ st) = s := ⟨_, rfl⟩
    rw [hsg] at HF hss
    obtain ⟨q, hq⟩ : ∃ q, dW N C lot x = q := ⟨_, rfl⟩
    rw [hq] at HF hss hsn hq0 ⊢
    have HSN := hide hsn
    have HLT := hide hlt
    have HQ0 := hide hq0
    clear hq0 hzd hqs hst hsg hq hsn hln hbk hB hlt
    have cB := bB.cell
    have fB := bB.frozen
    gi_wp2
    refine ⟨trivial, (CallsIn.inRound l (callsIn_wide.2 HF.out)).mono ?_⟩
    rintro e w5 ⟨rfl, hb⟩
    replace bB := bB.kept (grown_of_below hb none) (by simp)
    replace bT := bT.kept (grown_of_below hb none) (by simp)
    replace bN := bN.kept (grown_of_below hb none) (by simp)
    have HK5 := hide (HBK.out.below hb)
    have HB5 := hide (HBB.out.trans (hb.mono hWs))
    have HBQ := hide hb
    clear hb cB fB HF
    have cB := bB.cell
    have fB := bB.frozen
    have cT := bT.cell
    have fT := bT.frozen
    have cN := bN.cell
    have fN := bN.frozen
    have hwn : IntKind.i64.wrap (((pre.length : Nat) : Int) + 1) = ((pre.length + 1 : Nat) : Int) := (IntWalk.i64_in _ (by have := HLT.out; omega)).trans (by omega)
    obtain ⟨m, hm⟩ : ∃ m, pre.length = m := ⟨_, rfl⟩
    rw [hm] at cN hwn bN HSN
    have HM := hide hm
    clear hm
    obtain ⟨m1, hm1⟩ : ∃ k : Nat, m + 1 = k := ⟨_, rfl⟩
    rw [hm1] at hwn
    have HM1 := hide hm1
    clear hm1
    by_cases hdb : mxQ st < q
    · have hs0 : 0 < sg := hss.2 hdb
      have HDB := hide hdb
      clear hss hdb
      have hmx : Tryz.prog.follows .mixedOrders = true := by kernel_rfl
      gi_wp2
      gi_region_o
      all_goals gi_wp2
      all_goals (try go_bits)
      all_goals
        have hn1 : (mxS (dW N C lot) (pre ++ [x])).1 = some (q, m) := by
          rw [HSN.out]
          rcases st with _ | b
          · rfl
          · exact if_pos HDB.out
        have hl1 : (pre ++ [x]).length = m1 := by rw [List.length_append, List.length_singleton, HM.out, HM1.out]
        have hbf := ((HK5.out.set (b := w1.heap.size) (by intro y hy; simp [blW] at hy; rcases hy with rfl | rfl | rfl | rfl | rfl | rfl | rfl <;> (simp; omega)) 0 (.string ⟨(RT q).toArray⟩)).set (b := (w1.heap.size + 1)) (by intro y hy; simp [blW] at hy; rcases hy with rfl | rfl | rfl | rfl | rfl | rfl | rfl <;> (simp; omega)) 0 (.int .i64 (m : Int))).set (b := ((w1.heap.size + 1) + 1)) (by intro y hy; simp [blW] at hy; rcases hy with rfl | rfl | rfl | rfl | rfl | rfl | rfl <;> (simp; omega)) 0 (.int .i64 (m1 : Int))
        refine ⟨(kf_set (kf_set (kf_set (keepsFromB HBQ.out) _ _) _ _) _ _).trans (keepsFrom_drew _ _), ⟨((((HBQ.out.mono hWs).setCell (p := ⟨w1.heap.size, 0, none⟩) (by show w.heap.size ≤ w1.heap.size; omega) _).setCell (p := ⟨(w1.heap.size + 1), 0, none⟩) (by show w.heap.size ≤ (w1.heap.size + 1); omega) _).setCell (p := ⟨((w1.heap.size + 1) + 1), 0, none⟩) (by show w.heap.size ≤ ((w1.heap.size + 1) + 1); omega) _).drew, fun _ => fun y hy => hbf y (List.mem_append_left _ hy)⟩, ?_, ?_, ?_, hbf, (((HB5.out.setCell (p := ⟨w1.heap.size, 0, none⟩) (by show w.heap.size ≤ w1.heap.size; omega) _).setCell (p := ⟨(w1.heap.size + 1), 0, none⟩) (by show w.heap.size ≤ (w1.heap.size + 1); omega) _).setCell (p := ⟨((w1.heap.size + 1) + 1), 0, none⟩) (by show w.heap.size ≤ ((w1.heap.size + 1) + 1); omega) _).drew⟩
        · rw [hn1]; exact ((bB.set _).other (by omega) _).other (by omega) _
        · rw [hn1]; exact ((bT.other (by omega) _).set _).other (by omega) _
        · rw [hl1]; exact ((bN.other (by omega) _).other (by omega) _).set _
    · have hs0 : ¬ 0 < sg := fun h => hdb (hss.1 h)
      have HDB := hide hdb
      clear hss hdb
      gi_wp2
      all_goals (try go_bits)
      have hn1 : (mxS (dW N C lot) (pre ++ [x])).1 = st := by
        rw [HSN.out]
        rcases st with _ | b
        · exact absurd (show (-1 : Rat) < q from by have := HQ0.out; grind) HDB.out
        · exact if_neg HDB.out
      have hl1 : (pre ++ [x]).length = m1 := by rw [List.length_append, List.length_singleton, HM.out, HM1.out]
      have hbf := HK5.out.set (b := ((w1.heap.size + 1) + 1)) (by intro y hy; simp [blW] at hy; rcases hy with rfl | rfl | rfl | rfl | rfl | rfl | rfl <;> (simp; omega)) 0 (.int .i64 (m1 : Int))
      refine ⟨kf_set (keepsFromB HBQ.out) _ _, ⟨(HBQ.out.mono hWs).setCell (p := ⟨((w1.heap.size + 1) + 1), 0, none⟩) (by show w.heap.size ≤ ((w1.heap.size + 1) + 1); omega) _, fun _ => fun y hy => hbf y (List.mem_append_left _ hy)⟩, ?_, ?_, ?_, hbf, HB5.out.setCell (p := ⟨((w1.heap.size + 1) + 1), 0, none⟩) (by show w.heap.size ≤ ((w1.heap.size + 1) + 1); omega) _⟩
      · rw [hn1]; exact bB.other (by omega) _
      · rw [hn1]; exact bT.other (by omega) _
      · rw [hl1]; exact bN.set _
  case done =>
    rintro E ys W hE rfl ⟨bB, bT, bN, hbk, hB⟩ hK
    rw [mxS_upto] at bB bT
    obtain ⟨q, hq⟩ : ∃ q, wstF (dW N C lot) lot = q := ⟨_, rfl⟩
    rw [hq] at bB bT
    simp only [mxT, mxA] at bB bT
    obtain ⟨s, hs⟩ : ∃ s : ByteArray, (⟨(RT q.1).toArray⟩ : ByteArray) = s := ⟨_, rfl⟩
    obtain ⟨z, hz⟩ : ∃ z : Int, ((q.2 : Nat) : Int) = z := ⟨_, rfl⟩
    rw [hs] at bB
    rw [hz] at bT
    have hrv : Value.tuple #[.int .i64 (((wstF (dW N C lot) lot).2 : Nat) : Int), .string ⟨(RT (wstF (dW N C lot) lot).1).toArray⟩, .int .i64 0] = .tuple #[.int .i64 z, .string s, .int .i64 0] := by rw [hq, hs, hz]
    have HRV := hide hrv
    clear hrv hq hs hz
    have ka : Blk W ((w.heap.size + 2)) 3 #[.int .i64 0] := hbk _ (List.mem_append_right _ (.head _))
    have kx : Blk W ((w.heap.size + 3)) 26 #[.string ⟨#[]⟩] := hbk _ (List.mem_append_right _ (.tail _ (.head _)))
    have ke : Blk W ((w.heap.size + 4)) 27 #[.int .i64 0] := hbk _ (List.mem_append_right _ (.tail _ (.tail _ (.head _))))
    have cB := bB.cell
    have cT := bT.cell
    have cA := Blk.cell ka 0
    have fA := Blk.frozen ka 0
    have cX := Blk.cell kx 0
    have fX := Blk.frozen kx 0
    have cE := Blk.cell ke 0
    have fE := Blk.frozen ke 0
    have HBX := hide hB
    have HKX := hide hK
    clear hB hK hbk
    go_upto_region 16 with (fail)
    go_region
    go_wp2_with fail
    obtain ⟨W3, hW3⟩ : ∃ W3, ((((W.setCell ⟨(w.heap.size + 2), 0, none⟩ (.int .i64 z)).setCell ⟨(w.heap.size + 3), 0, none⟩ (.string s)).setCell ⟨(w.heap.size + 4), 0, none⟩ (.int .i64 0)).drew) = W3 := ⟨_, rfl⟩
    have hK3 : W3.heap[E]? = some (.deferred (some [])) := by rw [← hW3]; exact (((KeepsOthers.setCell _ _ _).trans (KeepsOthers.setCell _ _ _)).trans (KeepsOthers.setCell _ _ _)).same E _ HKX.out rfl
    have d6 : Blk W3 ((w.heap.size + 2)) 3 #[.int .i64 z] := by rw [← hW3]; exact ((ka.set_ 0 (.int .i64 z)).far (p := ⟨(w.heap.size + 3), 0, none⟩) (by show (w.heap.size + 2) ≠ (w.heap.size + 3); omega) _).far (p := ⟨(w.heap.size + 4), 0, none⟩) (by show (w.heap.size + 2) ≠ (w.heap.size + 4); omega) _
    have d7 : Blk W3 ((w.heap.size + 3)) 26 #[.string s] := by rw [← hW3]; exact ((kx.far (p := ⟨(w.heap.size + 2), 0, none⟩) (by show (w.heap.size + 3) ≠ (w.heap.size + 2); omega) _).set_ 0 (.string s)).far (p := ⟨(w.heap.size + 4), 0, none⟩) (by show (w.heap.size + 3) ≠ (w.heap.size + 4); omega) _
    have d8 : Blk W3 ((w.heap.size + 4)) 27 #[.int .i64 0] := by rw [← hW3]; exact ((ke.far (p := ⟨(w.heap.size + 2), 0, none⟩) (by show (w.heap.size + 4) ≠ (w.heap.size + 2); omega) _).far (p := ⟨(w.heap.size + 3), 0, none⟩) (by show (w.heap.size + 4) ≠ (w.heap.size + 3); omega) _).set_ 0 (.int .i64 0)
    have HB3 : Below w.heap.size w W3 := by rw [← hW3]; exact (((HBX.out.setCell (p := ⟨(w.heap.size + 2), 0, none⟩) (by show w.heap.size ≤ (w.heap.size + 2); omega) _).setCell (p := ⟨(w.heap.size + 3), 0, none⟩) (by show w.heap.size ≤ (w.heap.size + 3); omega) _).setCell (p := ⟨(w.heap.size + 4), 0, none⟩) (by show w.heap.size ≤ (w.heap.size + 4); omega) _).drew
    try simp only [Nat.add_assoc, Nat.reduceAdd]
    rw [hW3]
    refine ⟨by simp, .inl ⟨_, _, rfl, run_takeDeferred hK3, ?_⟩⟩
    have h6 := cell_kept (Blk.cell d6 0) (grownBy_putObj' _ E (.deferred none)) (fun r e => by cases e; exact ⟨_, hK3, rfl⟩)
    have h7 := cell_kept (Blk.cell d7 0) (grownBy_putObj' _ E (.deferred none)) (fun r e => by cases e; exact ⟨_, hK3, rfl⟩)
    have h8 := cell_kept (Blk.cell d8 0) (grownBy_putObj' _ E (.deferred none)) (fun r e => by cases e; exact ⟨_, hK3, rfl⟩)
    refine ⟨.tuple #[.int .i64 z, .string s, .int .i64 0], ?_, by rw [← HRV.out], HB3.trans (belowK_b (w := w) (Nat.le_refl _) W3 E _ _ (by omega) hK3 rfl rfl)⟩
    simp [results, Tryz.results38, go_sem, h6, h7, h8]
  case stop =>
    rintro E c2 pre W _ _ h _
    exact h.elim

end Go.Proofs.YtaccdkbofhlbkaaGreatDoor
