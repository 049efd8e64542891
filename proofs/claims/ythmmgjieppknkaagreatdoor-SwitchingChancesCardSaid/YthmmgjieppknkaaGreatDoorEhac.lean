/- Contracts and plain laws that the statements of this seat share (part Ehac). -/
import Derived.Test.YthmmgjieppknkaaGreatDoorEhab
import Derived.Test.YthmmgjieppknkaaGreatDoorKaa
import Derived.Test.YthmmgjieppknkaaGreatDoorKab
import Derived.Test.YthmmgjieppknkaaGreatDoorKac
import Derived.Test.YthmmgjieppknkaaGreatDoorKad
import Derived.Test.YthmmgjieppknkaaGreatDoorKag
import Derived.Test.YthmmgjieppknkaaGreatDoorKai
import Derived.Test.YthmmgjieppknkaaGreatDoorKak
import Derived.Test.YthmmgjieppknkaaGreatDoorKal
import Derived.Test.YthmmgjieppknkaaGreatDoorKam
import Derived.Test.YthmmgjieppknkaaGreatDoorKas
import Derived.Test.YthmmgjieppknkaaGreatDoorKat
import Derived.Test.YthmmgjieppknkaaGreatDoorKau
import Derived.Test.YthmmgjieppknkaaGreatDoorKax
import Derived.Deep.QuietTactic
import Derived.BigQuiet
import Derived.ProofKit
namespace Go.Proofs.YthmmgjieppknkaaGreatDoor
open Go.RowKit MLab
theorem StN.begun (B : Nat) (w : World) (m : Nat) : StN B w (.agg #[.int .i64 (m : Int), .int .i64 0, .slice none 0 0, .int .i64 0]) (swB m) := ⟨_, rfl, SlL.nil w, FrV.zero _ _ _⟩
theorem StV.begun (w : World) (m : Nat) : StV w (.agg #[.int .i64 (m : Int), .int .i64 0, .slice none 0 0, .int .i64 0]) (swB m) := ⟨_, rfl, SlL.nil w⟩
end Go.Proofs.YthmmgjieppknkaaGreatDoor

namespace Go.Proofs.YthmmgjieppknkaaGreatDoor
open Go.RowKit MLab
set_option maxRecDepth 100000 in
set_option maxHeartbeats 2000000 in
theorem rrej_any (w : World) (v : Value) (l : List Bool) (hv : SlL w v (bcl l)) (hl : l.length ≤ 1000000) :
    Calls Tryz.prog 99 #[v] w fun e w' => e = .returned (.bool (l.contains false)) ∧ Below w.heap.size w w' := by
  obtain ⟨A, c, rfl, -, hc⟩ := hv
  rw [bcl_len] at hc ⊢
  have HC := hide hc
  have HS := hide (fun (j : Nat) (h2 : l[j]? = some false) => (List.contains_iff_mem.2 (List.mem_of_getElem? h2) : l.contains false = true))
  have HNO := hide (fun (h : ∀ i, i < l.length → l[i]? = some true) => (by rw [contains_idx, idxF_none (firstF_none h)]; rfl : l.contains false = false))
  obtain ⟨N, hN⟩ : ∃ N, l.length = N := ⟨_, rfl⟩
  rw [hN] at HC HNO hl ⊢
  have HNN := hide hN
  obtain ⟨B, hB⟩ : ∃ B, l.contains false = B := ⟨_, rfl⟩
  rw [hB] at HS HNO ⊢
  clear hc hN hB
  go_enter Tryz.func99, Tryz.ntmps99
  go_wp2_with fail
  go_loopg [3] N (fun z iv wr => ∃ j : Nat, iv = .int .i64 (j : Int) ∧ z + j = N ∧ Below w.heap.size w wr ∧ ∀ i, i < j → l[i]? = some true)
  case atStart => exact ⟨0, rfl, rfl, Below.refl _ _, fun i hi => absurd hi (by omega)⟩
  case round =>
    obtain ⟨j, rfl, hq, hb, hr⟩ := hrel
    have HQ := hide hq
    have HB := hide hb
    have HR := hide hr
    have hj : j ≤ N := by omega
    clear hq hb hr
    by_cases hlt : j < N
    · have hji : (j : Int) < (N : Int) := by omega
      have hj0 : (0 : Int) ≤ (j : Int) := by omega
      obtain ⟨g, og, rfl, hcell⟩ := HC.out (by omega)
      obtain ⟨b, hx⟩ : ∃ b, l[j]? = some b := ⟨_, List.getElem?_eq_getElem (by rw [HNN.out]; exact hlt)⟩
      have a := hcell j _ (bcl_at hx)
      have a2 := (bcell HB.out _ _ (block_lt_of_cell a)).trans a
      have HX := hide hx
      clear a hcell hx HC
      cases b with
      | false =>
        go_wp2_with fail
        go_ret
        rw [HS.out j HX.out]
        exact ⟨rfl, HB.out⟩
      | true =>
        go_wp2_with fail
        go_roundg (gk - 1)
        case measure => have := HQ.out; omega
        case rel => exact ⟨j + 1, by go_num, by have := HQ.out; omega, HB.out, fun i hi => by
          rcases (by omega : i < j ∨ i = j) with h | h
          · exact HR.out i h
          · subst h; exact HX.out⟩
    · have hji : ¬ (j : Int) < (N : Int) := by omega
      have hjN : j = N := by omega
      subst hjN
      go_wp2_with fail
      go_ret
      rw [HNO.out HR.out]
      exact ⟨rfl, HB.out⟩
set_option maxRecDepth 100000 in
set_option maxHeartbeats 2000000 in
theorem rlast_any (w : World) (v : Value) (l : List Bool) (ok : Bool) (hv : SlL w v (bcl l)) (hl : l.length ≤ 4) :
    Calls Tryz.prog 100 #[v, .bool ok] w fun e w' => ∃ u, e = .returned u ∧ SlL w' u (bcl (lastB l ok)) ∧ FrV w.heap.size u ∧ Below w.heap.size w w' := by
  obtain ⟨i0, hi, hz0, hz1, hz2⟩ := info_parts info_bool
  have HV := hide hv
  have hll : (l ++ [ok]).length = l.length + 1 := by simp
  have hlb : lastB l ok = (l ++ [ok]).drop (l.length + 1 - 4) := by unfold lastB; rw [hll]
  have HLB := hide hlb
  clear hlb hv
  obtain ⟨N, hN⟩ : ∃ N, l.length = N := ⟨_, rfl⟩
  rw [hN] at hl hll HLB
  have HN := hide hN
  have HLL := hide hll
  clear hN hll
  go_enter Tryz.func100, Tryz.ntmps100
  go_wp2_with (at_builtin; refine wpList_append_sl _ rfl _ _ 27 rfl w.heap.size 4 i0 (.bool false) 1 Tryz.underlying27 hi hz0 hz1 hz2 rfl _ 0 [] rfl (own_empty w _) _ (bcl l) rfl (HV.out.below ((Below.refl _ _).alloc (Nat.le_refl _) _)) (bcl_one l) ?la1 ?la2 ?la3 ?_)
  try (case la1 => (rw [bcl_len, HN.out]; simp [maxLen]; omega))
  try (case la2 => (rw [bcl_len, HN.out]; omega))
  try (case la3 => (simp))
  intro v6 w6 ho6 hg6
  rw [bcl_len, HN.out] at ho6
  try rw [List.nil_append] at ho6
  try rw [Nat.zero_add] at ho6
  have hb6 : Below w.heap.size w w6 := ((Below.refl _ _).alloc (Nat.le_refl _) _).grown hg6 (by simp) (fun k e => ((own_empty w 4).lt k e).1)
  have HB6 := hide hb6
  have HO6 := hide ho6
  have hbs := hb6.size
  clear hg6 hb6 ho6
  have ho7 := HO6.out.alloc (.cells #[.bool ok] 4)
  go_wp2_with (at_builtin; refine wpList_append_sl _ rfl _ _ 27 rfl w.heap.size 4 i0 (.bool false) 1 Tryz.underlying27 hi hz0 hz1 hz2 rfl _ N (bcl l) rfl ho7 _ [.bool ok] rfl (SlL.one _ _ _) ?lb0 ?lb1 ?lb2 ?lb3 ?_)
  try (case lb0 => (intro x hx; simp at hx; subst hx; rfl))
  try (case lb1 => (simp [maxLen]; omega))
  try (case lb2 => (simp; omega))
  try (case lb3 => (simp; omega))
  intro v7 w7 ho8 hg8
  have hb8 : Below w.heap.size w w7 := (HB6.out.alloc hbs _).grown hg8 (by simp; omega) (fun k e => (ho7.lt k e).1)
  have HB8 := hide hb8
  have hsl := SlL.of_row ho8 (by rw [List.length_append, bcl_len, HN.out]; rfl)
  rw [bcl_snoc] at hsl
  obtain ⟨g, cap, rfl, hcap, hgb⟩ : ∃ g cap, v7 = .slice (some ⟨g, 0, none⟩) (N + 1) cap ∧ N + 1 ≤ cap ∧ w.heap.size ≤ g := by
    rcases ho8.2 with ⟨_, h⟩ | ⟨g, cap, cur, h, h2, _, h3, _⟩
    · simp at h
    · exact ⟨g, cap, h, h3, h2⟩
  have HSL := hide hsl
  obtain ⟨M, hM⟩ : ∃ M, N + 1 = M := ⟨_, rfl⟩
  rw [hM] at HSL HLB hcap
  have HM := hide hM
  by_cases h4 : 4 < M
  · have h4i : (4 : Int) < (M : Int) := by omega
    obtain rfl : M = 5 := by omega
    have hw : IntKind.i64.wrap ((5 : Int) - 4) = 1 := IntWalk.i64_in _ (by omega)
    have hcn : ¬ cap = 1 := by omega
    have HRES := hide (show SlL w7 (.slice (some ⟨g, 0 + 1, none⟩) 4 (cap - 1)) (bcl (lastB l ok)) by
      rw [HLB.out, bcl_drop]; exact HSL.out.drop (k := 1) (by omega))
    rw [hM]
    clear hg8 hb8 ho8 hsl hM ho7
    go_wp2_with fail
    go_ret
    exact ⟨_, rfl, HRES.out, FrV.of _ _ _ hgb, HB8.out⟩
  · have h4i : ¬ (4 : Int) < (M : Int) := by omega
    have HRES := hide (show SlL w7 (.slice (some ⟨g, 0, none⟩) M cap) (bcl (lastB l ok)) by
      rw [HLB.out, show M - 4 = 0 by omega, List.drop_zero]; exact HSL.out)
    rw [hM]
    clear hg8 hb8 ho8 hsl hM ho7
    go_wp2_with fail
    go_ret
    exact ⟨_, rfl, HRES.out, FrV.of _ _ _ hgb, HB8.out⟩
set_option maxRecDepth 100000 in
set_option maxHeartbeats 4000000 in
theorem rgoes_any (w : World) (x : Sw) (ok : Bool) (v : Value) (hv : SlL w v (bcl x.last)) (hx : RightS x) :
    Calls Tryz.prog 59 #[.agg #[.int .i64 (x.mode : Int), .int .i64 (x.run : Int), v, .int .i64 (x.rej : Int)], .bool ok] w fun e w' => ∃ u, e = .returned u ∧ StN w.heap.size w' u (goesS x ok) ∧ Below w.heap.size w w' := by
  have HV := hide hv
  obtain ⟨A, N, c, rfl⟩ := hv.shape3
  clear hv
  rcases right_cases hx with ⟨rn, l, rfl, h1, h2, h3⟩ | ⟨rn, d, rfl, h1, h2⟩ | rfl | rfl
  · clear hx
    have HL := hide (fun (W : World) (b : Bool) (h : SlL W (.slice A N c) (bcl l)) => rlast_any W _ l b h h2)
    have HJ := hide (fun (W : World) (h : SlL W (.slice A N c) (bcl l)) => rrej_any W _ l h (by omega))
    simp only at HV
    clear h2 h3
    show Calls Tryz.prog 59 #[.agg #[.int .i64 0, .int .i64 (rn : Int), .slice A N c, .int .i64 0], .bool ok] w _
    cases ok with
    | false =>
      by_cases hc : l.contains false = true
      · have hr : goesS ⟨0, rn, l, 0⟩ false = swB 1 := by unfold goesS; rw [if_pos rfl, if_pos ⟨rfl, hc⟩]
        rw [hr]
        rw [hc] at HJ
        clear hr hc h1 HL
        have HB := allocs_below w [.cells #[.int .i64 0, .int .i64 (rn : Int), .slice A N c, .int .i64 0] 34, .cells #[.int .i64 0, .int .i64 0, .slice none 0 0, .int .i64 0] 34]
        have K_x : Blk (allocs w [.cells #[.int .i64 0, .int .i64 (rn : Int), .slice A N c, .int .i64 0] 34, .cells #[.int .i64 0, .int .i64 0, .slice none 0 0, .int .i64 0] 34]) (w.heap.size + 0) 34 #[.int .i64 0, .int .i64 (rn : Int), .slice A N c, .int .i64 0] := allocs_at w [.cells #[.int .i64 0, .int .i64 (rn : Int), .slice A N c, .int .i64 0] 34, .cells #[.int .i64 0, .int .i64 0, .slice none 0 0, .int .i64 0] 34] 0 rfl
        have K_r : Blk (allocs w [.cells #[.int .i64 0, .int .i64 (rn : Int), .slice A N c, .int .i64 0] 34, .cells #[.int .i64 0, .int .i64 0, .slice none 0 0, .int .i64 0] 34]) (w.heap.size + 1) 34 #[.int .i64 0, .int .i64 0, .slice none 0 0, .int .i64 0] := allocs_at w [.cells #[.int .i64 0, .int .i64 (rn : Int), .slice A N c, .int .i64 0] 34, .cells #[.int .i64 0, .int .i64 0, .slice none 0 0, .int .i64 0] 34] 1 rfl
        unfold allocs at HB K_x K_r
        simp only [List.foldl_cons, List.foldl_nil] at HB K_x K_r
        rw [Nat.add_zero] at K_x
        go_enter Tryz.func59, Tryz.ntmps59
        go_upto_region 1 with (fail)
        generalize ((w.alloc (.cells #[.int .i64 0, .int .i64 (rn : Int), .slice A N c, .int .i64 0] 34)).alloc (.cells #[.int .i64 0, .int .i64 0, .slice none 0 0, .int .i64 0] 34)) = w0 at *
        replace K_x := hide K_x
        replace K_r := hide K_r
        replace HB := hide HB
        have x0 := (Blk.cell K_x.out 0).trans (rfl : _ = some (Value.int .i64 0))
        have x1 := (Blk.cell K_x.out 1).trans (rfl : _ = some (Value.int .i64 (rn : Int)))
        have x2 := (Blk.cell K_x.out 2).trans (rfl : _ = some (Value.slice A N c))
        have x3 := (Blk.cell K_x.out 3).trans (rfl : _ = some (Value.int .i64 0))
        go_wp2_with fail
        refine (HJ.out _ (HV.out.below HB.out)).mono ?_
        rintro e w1 ⟨rfl, hb⟩
        clear x0 x1 x2 x3
        replace K_x := hide (Blk.below K_x.out hb (Blk.lt K_x.out))
        replace K_r := hide (Blk.below K_r.out hb (Blk.lt K_r.out))
        replace HB := hide (HB.out.trans (hb.mono HB.out.size))
        clear hb
        have r0 := (Blk.cell K_r.out 0).trans (rfl : _ = some (Value.int .i64 0))
        have rf0 := Blk.frozen K_r.out 0
        have r1 := (Blk.cell K_r.out 1).trans (rfl : _ = some (Value.int .i64 0))
        have rf1 := Blk.frozen K_r.out 1
        have r2 := (Blk.cell K_r.out 2).trans (rfl : _ = some (Value.slice none 0 0))
        have rf2 := Blk.frozen K_r.out 2
        have r3 := (Blk.cell K_r.out 3).trans (rfl : _ = some (Value.int .i64 0))
        have rf3 := Blk.frozen K_r.out 3
        go_wp2_with fail
        have rc0 := (Blk.cell ((((K_r.out.set_ 0 (.int .i64 1)).set_ 1 (.int .i64 0)).set_ 2 (.slice none 0 0)).set_ 3 (.int .i64 0)) 0).trans (rfl : _ = some (Value.int .i64 1))
        have rc1 := (Blk.cell ((((K_r.out.set_ 0 (.int .i64 1)).set_ 1 (.int .i64 0)).set_ 2 (.slice none 0 0)).set_ 3 (.int .i64 0)) 1).trans (rfl : _ = some (Value.int .i64 0))
        have rc2 := (Blk.cell ((((K_r.out.set_ 0 (.int .i64 1)).set_ 1 (.int .i64 0)).set_ 2 (.slice none 0 0)).set_ 3 (.int .i64 0)) 2).trans (rfl : _ = some (Value.slice none 0 0))
        have rc3 := (Blk.cell ((((K_r.out.set_ 0 (.int .i64 1)).set_ 1 (.int .i64 0)).set_ 2 (.slice none 0 0)).set_ 3 (.int .i64 0)) 3).trans (rfl : _ = some (Value.int .i64 0))
        exact bodyPost_ret (v := .agg #[.int .i64 1, .int .i64 0, .slice none 0 0, .int .i64 0]) (by simp [results, Tryz.results59, go_sem, rc0, rc1, rc2, rc3]) rfl ⟨_, rfl, StN.begun _ _ 1, ((((HB.out.setCell (p := ⟨(w.heap.size + 1), 0, none⟩) (by show w.heap.size ≤ (w.heap.size + 1); omega) (.int .i64 1)).setCell (p := ⟨(w.heap.size + 1), 1, none⟩) (by show w.heap.size ≤ (w.heap.size + 1); omega) (.int .i64 0)).setCell (p := ⟨(w.heap.size + 1), 2, none⟩) (by show w.heap.size ≤ (w.heap.size + 1); omega) (.slice none 0 0)).setCell (p := ⟨(w.heap.size + 1), 3, none⟩) (by show w.heap.size ≤ (w.heap.size + 1); omega) (.int .i64 0))⟩
      · have hr : goesS ⟨0, rn, l, 0⟩ false = ⟨0, 0, lastB l false, 0⟩ := by
          unfold goesS
          rw [if_pos rfl, if_neg (by rintro ⟨_, h⟩; exact hc h)]
          simp only [Bool.false_eq_true, if_false]
          rw [if_neg (by omega)]
        rw [hr]
        clear hr
        rw [show l.contains false = false by simpa using hc] at HJ
        clear hc
        clear h1
        have HB := allocs_below w [.cells #[.int .i64 0, .int .i64 (rn : Int), .slice A N c, .int .i64 0] 34, .cells #[.int .i64 0, .int .i64 0, .slice none 0 0, .int .i64 0] 34]
        have K_x : Blk (allocs w [.cells #[.int .i64 0, .int .i64 (rn : Int), .slice A N c, .int .i64 0] 34, .cells #[.int .i64 0, .int .i64 0, .slice none 0 0, .int .i64 0] 34]) (w.heap.size + 0) 34 #[.int .i64 0, .int .i64 (rn : Int), .slice A N c, .int .i64 0] := allocs_at w [.cells #[.int .i64 0, .int .i64 (rn : Int), .slice A N c, .int .i64 0] 34, .cells #[.int .i64 0, .int .i64 0, .slice none 0 0, .int .i64 0] 34] 0 rfl
        have K_r : Blk (allocs w [.cells #[.int .i64 0, .int .i64 (rn : Int), .slice A N c, .int .i64 0] 34, .cells #[.int .i64 0, .int .i64 0, .slice none 0 0, .int .i64 0] 34]) (w.heap.size + 1) 34 #[.int .i64 0, .int .i64 0, .slice none 0 0, .int .i64 0] := allocs_at w [.cells #[.int .i64 0, .int .i64 (rn : Int), .slice A N c, .int .i64 0] 34, .cells #[.int .i64 0, .int .i64 0, .slice none 0 0, .int .i64 0] 34] 1 rfl
        unfold allocs at HB K_x K_r
        simp only [List.foldl_cons, List.foldl_nil] at HB K_x K_r
        rw [Nat.add_zero] at K_x
        go_enter Tryz.func59, Tryz.ntmps59
        go_upto_region 1 with (fail)
        generalize ((w.alloc (.cells #[.int .i64 0, .int .i64 (rn : Int), .slice A N c, .int .i64 0] 34)).alloc (.cells #[.int .i64 0, .int .i64 0, .slice none 0 0, .int .i64 0] 34)) = w0 at *
        replace K_x := hide K_x
        replace K_r := hide K_r
        replace HB := hide HB
        have x0 := (Blk.cell K_x.out 0).trans (rfl : _ = some (Value.int .i64 0))
        have x1 := (Blk.cell K_x.out 1).trans (rfl : _ = some (Value.int .i64 (rn : Int)))
        have x2 := (Blk.cell K_x.out 2).trans (rfl : _ = some (Value.slice A N c))
        have x3 := (Blk.cell K_x.out 3).trans (rfl : _ = some (Value.int .i64 0))
        go_wp2_with fail
        refine (HJ.out _ (HV.out.below HB.out)).mono ?_
        rintro e w1 ⟨rfl, hb⟩
        clear x0 x1 x2 x3
        replace K_x := hide (Blk.below K_x.out hb (Blk.lt K_x.out))
        replace K_r := hide (Blk.below K_r.out hb (Blk.lt K_r.out))
        replace HB := hide (HB.out.trans (hb.mono HB.out.size))
        clear hb
        have x0 := (Blk.cell K_x.out 0).trans (rfl : _ = some (Value.int .i64 0))
        have x1 := (Blk.cell K_x.out 1).trans (rfl : _ = some (Value.int .i64 (rn : Int)))
        have x2 := (Blk.cell K_x.out 2).trans (rfl : _ = some (Value.slice A N c))
        have x3 := (Blk.cell K_x.out 3).trans (rfl : _ = some (Value.int .i64 0))
        go_wp2_with fail
        refine (HL.out _ false (HV.out.below HB.out)).mono ?_
        rintro e wl ⟨u, rfl, hsl, hfr, hb⟩
        obtain ⟨A9, N9, c9, rfl⟩ := hsl.shape3
        have HSL := hide hsl
        have HFR := hide (hfr.mono HB.out.size)
        clear hsl hfr
        clear x0 x1 x2 x3
        replace K_x := hide (Blk.below K_x.out hb (Blk.lt K_x.out))
        replace K_r := hide (Blk.below K_r.out hb (Blk.lt K_r.out))
        replace HB := hide (HB.out.trans (hb.mono HB.out.size))
        clear hb
        go_upto_region 6 with (fail)
        have hbs_y : w.heap.size ≤ wl.heap.size := HB.out.size
        have lt_y_x : w.heap.size < wl.heap.size := Blk.lt K_x.out
        have lt_y_r : (w.heap.size + 1) < wl.heap.size := Blk.lt K_r.out
        replace K_x := K_x.out.alloc (.cells #[.int .i64 0, .int .i64 0, .slice A9 N9 c9, .int .i64 0] 34)
        replace K_r := K_r.out.alloc (.cells #[.int .i64 0, .int .i64 0, .slice A9 N9 c9, .int .i64 0] 34)
        replace HB := HB.out.alloc HB.out.size (.cells #[.int .i64 0, .int .i64 0, .slice A9 N9 c9, .int .i64 0] 34)
        have K_y := Blk.new wl 34 #[.int .i64 0, .int .i64 0, .slice A9 N9 c9, .int .i64 0]
        have HSL2 := hide (HSL.out.below ((Below.refl wl.heap.size wl).alloc (Nat.le_refl _) (.cells #[.int .i64 0, .int .i64 0, .slice A9 N9 c9, .int .i64 0] 34)))
        generalize wl.alloc (.cells #[.int .i64 0, .int .i64 0, .slice A9 N9 c9, .int .i64 0] 34) = wy at *
        replace K_x := hide K_x
        replace K_r := hide K_r
        replace K_y := hide K_y
        replace HB := hide HB
        have y0 := (Blk.cell K_y.out 0).trans (rfl : _ = some (Value.int .i64 0))
        have y1 := (Blk.cell K_y.out 1).trans (rfl : _ = some (Value.int .i64 0))
        have y2 := (Blk.cell K_y.out 2).trans (rfl : _ = some (Value.slice A9 N9 c9))
        have y3 := (Blk.cell K_y.out 3).trans (rfl : _ = some (Value.int .i64 0))
        have r0 := (Blk.cell K_r.out 0).trans (rfl : _ = some (Value.int .i64 0))
        have rf0 := Blk.frozen K_r.out 0
        have r1 := (Blk.cell K_r.out 1).trans (rfl : _ = some (Value.int .i64 0))
        have rf1 := Blk.frozen K_r.out 1
        have r2 := (Blk.cell K_r.out 2).trans (rfl : _ = some (Value.slice none 0 0))
        have rf2 := Blk.frozen K_r.out 2
        have r3 := (Blk.cell K_r.out 3).trans (rfl : _ = some (Value.int .i64 0))
        have rf3 := Blk.frozen K_r.out 3
        go_wp2_with fail
        have rc0 := (Blk.cell ((((K_r.out.set_ 0 (.int .i64 0)).set_ 1 (.int .i64 0)).set_ 2 (.slice A9 N9 c9)).set_ 3 (.int .i64 0)) 0).trans (rfl : _ = some (Value.int .i64 0))
        have rc1 := (Blk.cell ((((K_r.out.set_ 0 (.int .i64 0)).set_ 1 (.int .i64 0)).set_ 2 (.slice A9 N9 c9)).set_ 3 (.int .i64 0)) 1).trans (rfl : _ = some (Value.int .i64 0))
        have rc2 := (Blk.cell ((((K_r.out.set_ 0 (.int .i64 0)).set_ 1 (.int .i64 0)).set_ 2 (.slice A9 N9 c9)).set_ 3 (.int .i64 0)) 2).trans (rfl : _ = some (Value.slice A9 N9 c9))
        have rc3 := (Blk.cell ((((K_r.out.set_ 0 (.int .i64 0)).set_ 1 (.int .i64 0)).set_ 2 (.slice A9 N9 c9)).set_ 3 (.int .i64 0)) 3).trans (rfl : _ = some (Value.int .i64 0))
        exact bodyPost_ret (v := .agg #[.int .i64 0, .int .i64 0, .slice A9 N9 c9, .int .i64 0]) (by simp [results, Tryz.results59, go_sem, rc0, rc1, rc2, rc3]) rfl ⟨_, rfl, ⟨_, rfl, HSL2.out.own K_r.out zs_nobool (only_setCell (only_setCell (only_setCell (only_setCell (only_refl _ (some ((w.heap.size + 1)))) (p := ⟨(w.heap.size + 1), 0, none⟩) (Or.inl rfl) _) (p := ⟨(w.heap.size + 1), 1, none⟩) (Or.inl rfl) _) (p := ⟨(w.heap.size + 1), 2, none⟩) (Or.inl rfl) _) (p := ⟨(w.heap.size + 1), 3, none⟩) (Or.inl rfl) _), HFR.out⟩, ((((HB.out.setCell (p := ⟨(w.heap.size + 1), 0, none⟩) (by show w.heap.size ≤ (w.heap.size + 1); omega) (.int .i64 0)).setCell (p := ⟨(w.heap.size + 1), 1, none⟩) (by show w.heap.size ≤ (w.heap.size + 1); omega) (.int .i64 0)).setCell (p := ⟨(w.heap.size + 1), 2, none⟩) (by show w.heap.size ≤ (w.heap.size + 1); omega) (.slice A9 N9 c9)).setCell (p := ⟨(w.heap.size + 1), 3, none⟩) (by show w.heap.size ≤ (w.heap.size + 1); omega) (.int .i64 0))⟩
    | true =>
      by_cases ht : rn + 1 = 10
      · have hr : goesS ⟨0, rn, l, 0⟩ true = swB 2 := by
          unfold goesS
          rw [if_pos rfl, if_neg (by simp)]
          simp only [if_true]
          rw [if_pos ht]
        rw [hr]
        clear hr
        have hwr : IntKind.i64.wrap ((rn : Int) + 1) = ((rn + 1 : Nat) : Int) := (IntWalk.i64_in _ (by omega)).trans (by omega)
        obtain ⟨rq, hrq⟩ : ∃ z, rn + 1 = z := ⟨_, rfl⟩
        rw [hrq] at hwr ht
        have HR1 := hide hrq
        subst ht
        clear hrq
        clear HJ
        clear h1
        have HB := allocs_below w [.cells #[.int .i64 0, .int .i64 (rn : Int), .slice A N c, .int .i64 0] 34, .cells #[.int .i64 0, .int .i64 0, .slice none 0 0, .int .i64 0] 34]
        have K_x : Blk (allocs w [.cells #[.int .i64 0, .int .i64 (rn : Int), .slice A N c, .int .i64 0] 34, .cells #[.int .i64 0, .int .i64 0, .slice none 0 0, .int .i64 0] 34]) (w.heap.size + 0) 34 #[.int .i64 0, .int .i64 (rn : Int), .slice A N c, .int .i64 0] := allocs_at w [.cells #[.int .i64 0, .int .i64 (rn : Int), .slice A N c, .int .i64 0] 34, .cells #[.int .i64 0, .int .i64 0, .slice none 0 0, .int .i64 0] 34] 0 rfl
        have K_r : Blk (allocs w [.cells #[.int .i64 0, .int .i64 (rn : Int), .slice A N c, .int .i64 0] 34, .cells #[.int .i64 0, .int .i64 0, .slice none 0 0, .int .i64 0] 34]) (w.heap.size + 1) 34 #[.int .i64 0, .int .i64 0, .slice none 0 0, .int .i64 0] := allocs_at w [.cells #[.int .i64 0, .int .i64 (rn : Int), .slice A N c, .int .i64 0] 34, .cells #[.int .i64 0, .int .i64 0, .slice none 0 0, .int .i64 0] 34] 1 rfl
        unfold allocs at HB K_x K_r
        simp only [List.foldl_cons, List.foldl_nil] at HB K_x K_r
        rw [Nat.add_zero] at K_x
        go_enter Tryz.func59, Tryz.ntmps59
        go_upto_region 1 with (fail)
        generalize ((w.alloc (.cells #[.int .i64 0, .int .i64 (rn : Int), .slice A N c, .int .i64 0] 34)).alloc (.cells #[.int .i64 0, .int .i64 0, .slice none 0 0, .int .i64 0] 34)) = w0 at *
        replace K_x := hide K_x
        replace K_r := hide K_r
        replace HB := hide HB
        have x0 := (Blk.cell K_x.out 0).trans (rfl : _ = some (Value.int .i64 0))
        have x1 := (Blk.cell K_x.out 1).trans (rfl : _ = some (Value.int .i64 (rn : Int)))
        have x2 := (Blk.cell K_x.out 2).trans (rfl : _ = some (Value.slice A N c))
        have x3 := (Blk.cell K_x.out 3).trans (rfl : _ = some (Value.int .i64 0))
        go_wp2_with fail
        refine (HL.out _ true (HV.out.below HB.out)).mono ?_
        rintro e wl ⟨u, rfl, hsl, hfr, hb⟩
        obtain ⟨A9, N9, c9, rfl⟩ := hsl.shape3
        have HSL := hide hsl
        have HFR := hide (hfr.mono HB.out.size)
        clear hsl hfr
        clear x0 x1 x2 x3
        replace K_x := hide (Blk.below K_x.out hb (Blk.lt K_x.out))
        replace K_r := hide (Blk.below K_r.out hb (Blk.lt K_r.out))
        replace HB := hide (HB.out.trans (hb.mono HB.out.size))
        clear hb
        go_upto_region 6 with (fail)
        have hbs_y : w.heap.size ≤ wl.heap.size := HB.out.size
        have lt_y_x : w.heap.size < wl.heap.size := Blk.lt K_x.out
        have lt_y_r : (w.heap.size + 1) < wl.heap.size := Blk.lt K_r.out
        replace K_x := K_x.out.alloc (.cells #[.int .i64 0, .int .i64 0, .slice A9 N9 c9, .int .i64 0] 34)
        replace K_r := K_r.out.alloc (.cells #[.int .i64 0, .int .i64 0, .slice A9 N9 c9, .int .i64 0] 34)
        replace HB := HB.out.alloc HB.out.size (.cells #[.int .i64 0, .int .i64 0, .slice A9 N9 c9, .int .i64 0] 34)
        have K_y := Blk.new wl 34 #[.int .i64 0, .int .i64 0, .slice A9 N9 c9, .int .i64 0]
        have HSL2 := hide (HSL.out.below ((Below.refl wl.heap.size wl).alloc (Nat.le_refl _) (.cells #[.int .i64 0, .int .i64 0, .slice A9 N9 c9, .int .i64 0] 34)))
        generalize wl.alloc (.cells #[.int .i64 0, .int .i64 0, .slice A9 N9 c9, .int .i64 0] 34) = wy at *
        replace K_x := hide K_x
        replace K_r := hide K_r
        replace K_y := hide K_y
        replace HB := hide HB
        have x0 := (Blk.cell K_x.out 0).trans (rfl : _ = some (Value.int .i64 0))
        have x1 := (Blk.cell K_x.out 1).trans (rfl : _ = some (Value.int .i64 (rn : Int)))
        have x2 := (Blk.cell K_x.out 2).trans (rfl : _ = some (Value.slice A N c))
        have x3 := (Blk.cell K_x.out 3).trans (rfl : _ = some (Value.int .i64 0))
        have y0 := (Blk.cell K_y.out 0).trans (rfl : _ = some (Value.int .i64 0))
        have y1 := (Blk.cell K_y.out 1).trans (rfl : _ = some (Value.int .i64 0))
        have y2 := (Blk.cell K_y.out 2).trans (rfl : _ = some (Value.slice A9 N9 c9))
        have y3 := (Blk.cell K_y.out 3).trans (rfl : _ = some (Value.int .i64 0))
        have yf1 := Blk.frozen K_y.out 1
        have KY0 := K_y
        go_upto_region 8 with (fail)
        clear x0 x1 x2 x3 y0 y1 y2 y3 yf1
        replace K_x := K_x.out.far (p := ⟨wl.heap.size, 1, none⟩) (by show w.heap.size ≠ wl.heap.size; omega) (.int .i64 10)
        replace K_r := K_r.out.far (p := ⟨wl.heap.size, 1, none⟩) (by show (w.heap.size + 1) ≠ wl.heap.size; omega) (.int .i64 10)
        replace K_y : Blk (wy.setCell ⟨wl.heap.size, 1, none⟩ (.int .i64 10)) wl.heap.size 34 #[.int .i64 0, .int .i64 10, .slice A9 N9 c9, .int .i64 0] := K_y.out.set_ 1 (.int .i64 10)
        replace HB := HB.out.setCell (p := ⟨wl.heap.size, 1, none⟩) (by show w.heap.size ≤ wl.heap.size; omega) (.int .i64 10)
        have HSL3 := hide (HSL2.out.own KY0.out (fun i b => by match i with | 0 => simp | 1 => simp | 2 => simp | 3 => simp | n + 4 => simp) (only_setCell (only_refl _ (some wl.heap.size)) (p := ⟨wl.heap.size, 1, none⟩) (Or.inl rfl) (.int .i64 10)))
        generalize wy.setCell ⟨wl.heap.size, 1, none⟩ (.int .i64 10) = wz at *
        replace K_x := hide K_x
        replace K_r := hide K_r
        replace K_y := hide K_y
        replace HB := hide HB
        clear KY0
        have y0 := (Blk.cell K_y.out 0).trans (rfl : _ = some (Value.int .i64 0))
        have y1 := (Blk.cell K_y.out 1).trans (rfl : _ = some (Value.int .i64 10))
        have y2 := (Blk.cell K_y.out 2).trans (rfl : _ = some (Value.slice A9 N9 c9))
        have y3 := (Blk.cell K_y.out 3).trans (rfl : _ = some (Value.int .i64 0))
        have r0 := (Blk.cell K_r.out 0).trans (rfl : _ = some (Value.int .i64 0))
        have rf0 := Blk.frozen K_r.out 0
        have r1 := (Blk.cell K_r.out 1).trans (rfl : _ = some (Value.int .i64 0))
        have rf1 := Blk.frozen K_r.out 1
        have r2 := (Blk.cell K_r.out 2).trans (rfl : _ = some (Value.slice none 0 0))
        have rf2 := Blk.frozen K_r.out 2
        have r3 := (Blk.cell K_r.out 3).trans (rfl : _ = some (Value.int .i64 0))
        have rf3 := Blk.frozen K_r.out 3
        go_wp2_with fail
        have rc0 := (Blk.cell ((((K_r.out.set_ 0 (.int .i64 2)).set_ 1 (.int .i64 0)).set_ 2 (.slice none 0 0)).set_ 3 (.int .i64 0)) 0).trans (rfl : _ = some (Value.int .i64 2))
        have rc1 := (Blk.cell ((((K_r.out.set_ 0 (.int .i64 2)).set_ 1 (.int .i64 0)).set_ 2 (.slice none 0 0)).set_ 3 (.int .i64 0)) 1).trans (rfl : _ = some (Value.int .i64 0))
        have rc2 := (Blk.cell ((((K_r.out.set_ 0 (.int .i64 2)).set_ 1 (.int .i64 0)).set_ 2 (.slice none 0 0)).set_ 3 (.int .i64 0)) 2).trans (rfl : _ = some (Value.slice none 0 0))
        have rc3 := (Blk.cell ((((K_r.out.set_ 0 (.int .i64 2)).set_ 1 (.int .i64 0)).set_ 2 (.slice none 0 0)).set_ 3 (.int .i64 0)) 3).trans (rfl : _ = some (Value.int .i64 0))
        exact bodyPost_ret (v := .agg #[.int .i64 2, .int .i64 0, .slice none 0 0, .int .i64 0]) (by simp [results, Tryz.results59, go_sem, rc0, rc1, rc2, rc3]) rfl ⟨_, rfl, StN.begun _ _ 2, ((((HB.out.setCell (p := ⟨(w.heap.size + 1), 0, none⟩) (by show w.heap.size ≤ (w.heap.size + 1); omega) (.int .i64 2)).setCell (p := ⟨(w.heap.size + 1), 1, none⟩) (by show w.heap.size ≤ (w.heap.size + 1); omega) (.int .i64 0)).setCell (p := ⟨(w.heap.size + 1), 2, none⟩) (by show w.heap.size ≤ (w.heap.size + 1); omega) (.slice none 0 0)).setCell (p := ⟨(w.heap.size + 1), 3, none⟩) (by show w.heap.size ≤ (w.heap.size + 1); omega) (.int .i64 0))⟩
      · have hr : goesS ⟨0, rn, l, 0⟩ true = ⟨0, rn + 1, lastB l true, 0⟩ := by
          unfold goesS
          rw [if_pos rfl, if_neg (by simp)]
          simp only [if_true]
          rw [if_neg (by omega)]
        rw [hr]
        clear hr
        have hwr : IntKind.i64.wrap ((rn : Int) + 1) = ((rn + 1 : Nat) : Int) := (IntWalk.i64_in _ (by omega)).trans (by omega)
        obtain ⟨rq, hrq⟩ : ∃ z, rn + 1 = z := ⟨_, rfl⟩
        rw [hrq] at hwr ht
        have HR1 := hide hrq
        rw [hrq]
        have htn : ((rq : Int) == 10) = false := by simp; omega
        clear hrq
        clear HJ
        clear h1
        have HB := allocs_below w [.cells #[.int .i64 0, .int .i64 (rn : Int), .slice A N c, .int .i64 0] 34, .cells #[.int .i64 0, .int .i64 0, .slice none 0 0, .int .i64 0] 34]
        have K_x : Blk (allocs w [.cells #[.int .i64 0, .int .i64 (rn : Int), .slice A N c, .int .i64 0] 34, .cells #[.int .i64 0, .int .i64 0, .slice none 0 0, .int .i64 0] 34]) (w.heap.size + 0) 34 #[.int .i64 0, .int .i64 (rn : Int), .slice A N c, .int .i64 0] := allocs_at w [.cells #[.int .i64 0, .int .i64 (rn : Int), .slice A N c, .int .i64 0] 34, .cells #[.int .i64 0, .int .i64 0, .slice none 0 0, .int .i64 0] 34] 0 rfl
        have K_r : Blk (allocs w [.cells #[.int .i64 0, .int .i64 (rn : Int), .slice A N c, .int .i64 0] 34, .cells #[.int .i64 0, .int .i64 0, .slice none 0 0, .int .i64 0] 34]) (w.heap.size + 1) 34 #[.int .i64 0, .int .i64 0, .slice none 0 0, .int .i64 0] := allocs_at w [.cells #[.int .i64 0, .int .i64 (rn : Int), .slice A N c, .int .i64 0] 34, .cells #[.int .i64 0, .int .i64 0, .slice none 0 0, .int .i64 0] 34] 1 rfl
        unfold allocs at HB K_x K_r
        simp only [List.foldl_cons, List.foldl_nil] at HB K_x K_r
        rw [Nat.add_zero] at K_x
        go_enter Tryz.func59, Tryz.ntmps59
        go_upto_region 1 with (fail)
        generalize ((w.alloc (.cells #[.int .i64 0, .int .i64 (rn : Int), .slice A N c, .int .i64 0] 34)).alloc (.cells #[.int .i64 0, .int .i64 0, .slice none 0 0, .int .i64 0] 34)) = w0 at *
        replace K_x := hide K_x
        replace K_r := hide K_r
        replace HB := hide HB
        have x0 := (Blk.cell K_x.out 0).trans (rfl : _ = some (Value.int .i64 0))
        have x1 := (Blk.cell K_x.out 1).trans (rfl : _ = some (Value.int .i64 (rn : Int)))
        have x2 := (Blk.cell K_x.out 2).trans (rfl : _ = some (Value.slice A N c))
        have x3 := (Blk.cell K_x.out 3).trans (rfl : _ = some (Value.int .i64 0))
        go_wp2_with fail
        refine (HL.out _ true (HV.out.below HB.out)).mono ?_
        rintro e wl ⟨u, rfl, hsl, hfr, hb⟩
        obtain ⟨A9, N9, c9, rfl⟩ := hsl.shape3
        have HSL := hide hsl
        have HFR := hide (hfr.mono HB.out.size)
        clear hsl hfr
        clear x0 x1 x2 x3
        replace K_x := hide (Blk.below K_x.out hb (Blk.lt K_x.out))
        replace K_r := hide (Blk.below K_r.out hb (Blk.lt K_r.out))
        replace HB := hide (HB.out.trans (hb.mono HB.out.size))
        clear hb
        go_upto_region 6 with (fail)
        have hbs_y : w.heap.size ≤ wl.heap.size := HB.out.size
        have lt_y_x : w.heap.size < wl.heap.size := Blk.lt K_x.out
        have lt_y_r : (w.heap.size + 1) < wl.heap.size := Blk.lt K_r.out
        replace K_x := K_x.out.alloc (.cells #[.int .i64 0, .int .i64 0, .slice A9 N9 c9, .int .i64 0] 34)
        replace K_r := K_r.out.alloc (.cells #[.int .i64 0, .int .i64 0, .slice A9 N9 c9, .int .i64 0] 34)
        replace HB := HB.out.alloc HB.out.size (.cells #[.int .i64 0, .int .i64 0, .slice A9 N9 c9, .int .i64 0] 34)
        have K_y := Blk.new wl 34 #[.int .i64 0, .int .i64 0, .slice A9 N9 c9, .int .i64 0]
        have HSL2 := hide (HSL.out.below ((Below.refl wl.heap.size wl).alloc (Nat.le_refl _) (.cells #[.int .i64 0, .int .i64 0, .slice A9 N9 c9, .int .i64 0] 34)))
        generalize wl.alloc (.cells #[.int .i64 0, .int .i64 0, .slice A9 N9 c9, .int .i64 0] 34) = wy at *
        replace K_x := hide K_x
        replace K_r := hide K_r
        replace K_y := hide K_y
        replace HB := hide HB
        have x0 := (Blk.cell K_x.out 0).trans (rfl : _ = some (Value.int .i64 0))
        have x1 := (Blk.cell K_x.out 1).trans (rfl : _ = some (Value.int .i64 (rn : Int)))
        have x2 := (Blk.cell K_x.out 2).trans (rfl : _ = some (Value.slice A N c))
        have x3 := (Blk.cell K_x.out 3).trans (rfl : _ = some (Value.int .i64 0))
        have y0 := (Blk.cell K_y.out 0).trans (rfl : _ = some (Value.int .i64 0))
        have y1 := (Blk.cell K_y.out 1).trans (rfl : _ = some (Value.int .i64 0))
        have y2 := (Blk.cell K_y.out 2).trans (rfl : _ = some (Value.slice A9 N9 c9))
        have y3 := (Blk.cell K_y.out 3).trans (rfl : _ = some (Value.int .i64 0))
        have yf1 := Blk.frozen K_y.out 1
        have KY0 := K_y
        go_upto_region 8 with (fail)
        clear x0 x1 x2 x3 y0 y1 y2 y3 yf1
        replace K_x := K_x.out.far (p := ⟨wl.heap.size, 1, none⟩) (by show w.heap.size ≠ wl.heap.size; omega) (.int .i64 (rq : Int))
        replace K_r := K_r.out.far (p := ⟨wl.heap.size, 1, none⟩) (by show (w.heap.size + 1) ≠ wl.heap.size; omega) (.int .i64 (rq : Int))
        replace K_y : Blk (wy.setCell ⟨wl.heap.size, 1, none⟩ (.int .i64 (rq : Int))) wl.heap.size 34 #[.int .i64 0, .int .i64 (rq : Int), .slice A9 N9 c9, .int .i64 0] := K_y.out.set_ 1 (.int .i64 (rq : Int))
        replace HB := HB.out.setCell (p := ⟨wl.heap.size, 1, none⟩) (by show w.heap.size ≤ wl.heap.size; omega) (.int .i64 (rq : Int))
        have HSL3 := hide (HSL2.out.own KY0.out (fun i b => by match i with | 0 => simp | 1 => simp | 2 => simp | 3 => simp | n + 4 => simp) (only_setCell (only_refl _ (some wl.heap.size)) (p := ⟨wl.heap.size, 1, none⟩) (Or.inl rfl) (.int .i64 (rq : Int))))
        generalize wy.setCell ⟨wl.heap.size, 1, none⟩ (.int .i64 (rq : Int)) = wz at *
        replace K_x := hide K_x
        replace K_r := hide K_r
        replace K_y := hide K_y
        replace HB := hide HB
        clear KY0
        have y0 := (Blk.cell K_y.out 0).trans (rfl : _ = some (Value.int .i64 0))
        have y1 := (Blk.cell K_y.out 1).trans (rfl : _ = some (Value.int .i64 (rq : Int)))
        have y2 := (Blk.cell K_y.out 2).trans (rfl : _ = some (Value.slice A9 N9 c9))
        have y3 := (Blk.cell K_y.out 3).trans (rfl : _ = some (Value.int .i64 0))
        have r0 := (Blk.cell K_r.out 0).trans (rfl : _ = some (Value.int .i64 0))
        have rf0 := Blk.frozen K_r.out 0
        have r1 := (Blk.cell K_r.out 1).trans (rfl : _ = some (Value.int .i64 0))
        have rf1 := Blk.frozen K_r.out 1
        have r2 := (Blk.cell K_r.out 2).trans (rfl : _ = some (Value.slice none 0 0))
        have rf2 := Blk.frozen K_r.out 2
        have r3 := (Blk.cell K_r.out 3).trans (rfl : _ = some (Value.int .i64 0))
        have rf3 := Blk.frozen K_r.out 3
        go_wp2_with fail
        have rc0 := (Blk.cell ((((K_r.out.set_ 0 (.int .i64 0)).set_ 1 (.int .i64 (rq : Int))).set_ 2 (.slice A9 N9 c9)).set_ 3 (.int .i64 0)) 0).trans (rfl : _ = some (Value.int .i64 0))
        have rc1 := (Blk.cell ((((K_r.out.set_ 0 (.int .i64 0)).set_ 1 (.int .i64 (rq : Int))).set_ 2 (.slice A9 N9 c9)).set_ 3 (.int .i64 0)) 1).trans (rfl : _ = some (Value.int .i64 (rq : Int)))
        have rc2 := (Blk.cell ((((K_r.out.set_ 0 (.int .i64 0)).set_ 1 (.int .i64 (rq : Int))).set_ 2 (.slice A9 N9 c9)).set_ 3 (.int .i64 0)) 2).trans (rfl : _ = some (Value.slice A9 N9 c9))
        have rc3 := (Blk.cell ((((K_r.out.set_ 0 (.int .i64 0)).set_ 1 (.int .i64 (rq : Int))).set_ 2 (.slice A9 N9 c9)).set_ 3 (.int .i64 0)) 3).trans (rfl : _ = some (Value.int .i64 0))
        exact bodyPost_ret (v := .agg #[.int .i64 0, .int .i64 (rq : Int), .slice A9 N9 c9, .int .i64 0]) (by simp [results, Tryz.results59, go_sem, rc0, rc1, rc2, rc3]) rfl ⟨_, rfl, ⟨_, rfl, HSL3.out.own K_r.out zs_nobool (only_setCell (only_setCell (only_setCell (only_setCell (only_refl _ (some ((w.heap.size + 1)))) (p := ⟨(w.heap.size + 1), 0, none⟩) (Or.inl rfl) _) (p := ⟨(w.heap.size + 1), 1, none⟩) (Or.inl rfl) _) (p := ⟨(w.heap.size + 1), 2, none⟩) (Or.inl rfl) _) (p := ⟨(w.heap.size + 1), 3, none⟩) (Or.inl rfl) _), HFR.out⟩, ((((HB.out.setCell (p := ⟨(w.heap.size + 1), 0, none⟩) (by show w.heap.size ≤ (w.heap.size + 1); omega) (.int .i64 0)).setCell (p := ⟨(w.heap.size + 1), 1, none⟩) (by show w.heap.size ≤ (w.heap.size + 1); omega) (.int .i64 (rq : Int))).setCell (p := ⟨(w.heap.size + 1), 2, none⟩) (by show w.heap.size ≤ (w.heap.size + 1); omega) (.slice A9 N9 c9)).setCell (p := ⟨(w.heap.size + 1), 3, none⟩) (by show w.heap.size ≤ (w.heap.size + 1); omega) (.int .i64 0))⟩
  · clear hx
    show Calls Tryz.prog 59 #[.agg #[.int .i64 1, .int .i64 (rn : Int), .slice A N c, .int .i64 (d : Int)], .bool ok] w _
    cases ok with
    | false =>
      by_cases hk : d = 4
      · have hr : goesS ⟨1, rn, [], d⟩ false = swB 3 := by
          unfold goesS
          rw [if_neg (by simp), if_pos rfl]
          simp only [Bool.false_eq_true, if_false]
          rw [if_pos hk]
        rw [hr]
        clear hr
        subst hk
        clear h1 h2
        have HB := allocs_below w [.cells #[.int .i64 1, .int .i64 (rn : Int), .slice A N c, .int .i64 4] 34, .cells #[.int .i64 0, .int .i64 0, .slice none 0 0, .int .i64 0] 34]
        have K_x : Blk (allocs w [.cells #[.int .i64 1, .int .i64 (rn : Int), .slice A N c, .int .i64 4] 34, .cells #[.int .i64 0, .int .i64 0, .slice none 0 0, .int .i64 0] 34]) (w.heap.size + 0) 34 #[.int .i64 1, .int .i64 (rn : Int), .slice A N c, .int .i64 4] := allocs_at w [.cells #[.int .i64 1, .int .i64 (rn : Int), .slice A N c, .int .i64 4] 34, .cells #[.int .i64 0, .int .i64 0, .slice none 0 0, .int .i64 0] 34] 0 rfl
        have K_r : Blk (allocs w [.cells #[.int .i64 1, .int .i64 (rn : Int), .slice A N c, .int .i64 4] 34, .cells #[.int .i64 0, .int .i64 0, .slice none 0 0, .int .i64 0] 34]) (w.heap.size + 1) 34 #[.int .i64 0, .int .i64 0, .slice none 0 0, .int .i64 0] := allocs_at w [.cells #[.int .i64 1, .int .i64 (rn : Int), .slice A N c, .int .i64 4] 34, .cells #[.int .i64 0, .int .i64 0, .slice none 0 0, .int .i64 0] 34] 1 rfl
        unfold allocs at HB K_x K_r
        simp only [List.foldl_cons, List.foldl_nil] at HB K_x K_r
        rw [Nat.add_zero] at K_x
        go_enter Tryz.func59, Tryz.ntmps59
        go_upto_region 1 with (fail)
        generalize ((w.alloc (.cells #[.int .i64 1, .int .i64 (rn : Int), .slice A N c, .int .i64 4] 34)).alloc (.cells #[.int .i64 0, .int .i64 0, .slice none 0 0, .int .i64 0] 34)) = w0 at *
        replace K_x := hide K_x
        replace K_r := hide K_r
        replace HB := hide HB
        have x0 := (Blk.cell K_x.out 0).trans (rfl : _ = some (Value.int .i64 1))
        have x1 := (Blk.cell K_x.out 1).trans (rfl : _ = some (Value.int .i64 (rn : Int)))
        have x2 := (Blk.cell K_x.out 2).trans (rfl : _ = some (Value.slice A N c))
        have x3 := (Blk.cell K_x.out 3).trans (rfl : _ = some (Value.int .i64 4))
        have r0 := (Blk.cell K_r.out 0).trans (rfl : _ = some (Value.int .i64 0))
        have rf0 := Blk.frozen K_r.out 0
        have r1 := (Blk.cell K_r.out 1).trans (rfl : _ = some (Value.int .i64 0))
        have rf1 := Blk.frozen K_r.out 1
        have r2 := (Blk.cell K_r.out 2).trans (rfl : _ = some (Value.slice none 0 0))
        have rf2 := Blk.frozen K_r.out 2
        have r3 := (Blk.cell K_r.out 3).trans (rfl : _ = some (Value.int .i64 0))
        have rf3 := Blk.frozen K_r.out 3
        go_wp2_with fail
        have rc0 := (Blk.cell ((((K_r.out.set_ 0 (.int .i64 3)).set_ 1 (.int .i64 0)).set_ 2 (.slice none 0 0)).set_ 3 (.int .i64 0)) 0).trans (rfl : _ = some (Value.int .i64 3))
        have rc1 := (Blk.cell ((((K_r.out.set_ 0 (.int .i64 3)).set_ 1 (.int .i64 0)).set_ 2 (.slice none 0 0)).set_ 3 (.int .i64 0)) 1).trans (rfl : _ = some (Value.int .i64 0))
        have rc2 := (Blk.cell ((((K_r.out.set_ 0 (.int .i64 3)).set_ 1 (.int .i64 0)).set_ 2 (.slice none 0 0)).set_ 3 (.int .i64 0)) 2).trans (rfl : _ = some (Value.slice none 0 0))
        have rc3 := (Blk.cell ((((K_r.out.set_ 0 (.int .i64 3)).set_ 1 (.int .i64 0)).set_ 2 (.slice none 0 0)).set_ 3 (.int .i64 0)) 3).trans (rfl : _ = some (Value.int .i64 0))
        exact bodyPost_ret (v := .agg #[.int .i64 3, .int .i64 0, .slice none 0 0, .int .i64 0]) (by simp [results, Tryz.results59, go_sem, rc0, rc1, rc2, rc3]) rfl ⟨_, rfl, StN.begun _ _ 3, ((((HB.out.setCell (p := ⟨(w.heap.size + 1), 0, none⟩) (by show w.heap.size ≤ (w.heap.size + 1); omega) (.int .i64 3)).setCell (p := ⟨(w.heap.size + 1), 1, none⟩) (by show w.heap.size ≤ (w.heap.size + 1); omega) (.int .i64 0)).setCell (p := ⟨(w.heap.size + 1), 2, none⟩) (by show w.heap.size ≤ (w.heap.size + 1); omega) (.slice none 0 0)).setCell (p := ⟨(w.heap.size + 1), 3, none⟩) (by show w.heap.size ≤ (w.heap.size + 1); omega) (.int .i64 0))⟩
      · have hr : goesS ⟨1, rn, [], d⟩ false = ⟨1, 0, [], d + 1⟩ := by
          unfold goesS
          rw [if_neg (by simp), if_pos rfl]
          simp only [Bool.false_eq_true, if_false]
          rw [if_neg hk]
        rw [hr]
        clear hr
        have hk4 : ((d : Int) == 4) = false := by simp; omega
        have hwk : IntKind.i64.wrap ((d : Int) + 1) = ((d + 1 : Nat) : Int) := (IntWalk.i64_in _ (by omega)).trans (by omega)
        obtain ⟨k1, hk1⟩ : ∃ z, d + 1 = z := ⟨_, rfl⟩
        rw [hk1] at hwk ⊢
        have HK1 := hide hk1
        clear hk1
        clear h1 h2
        have HB := allocs_below w [.cells #[.int .i64 1, .int .i64 (rn : Int), .slice A N c, .int .i64 (d : Int)] 34, .cells #[.int .i64 0, .int .i64 0, .slice none 0 0, .int .i64 0] 34]
        have K_x : Blk (allocs w [.cells #[.int .i64 1, .int .i64 (rn : Int), .slice A N c, .int .i64 (d : Int)] 34, .cells #[.int .i64 0, .int .i64 0, .slice none 0 0, .int .i64 0] 34]) (w.heap.size + 0) 34 #[.int .i64 1, .int .i64 (rn : Int), .slice A N c, .int .i64 (d : Int)] := allocs_at w [.cells #[.int .i64 1, .int .i64 (rn : Int), .slice A N c, .int .i64 (d : Int)] 34, .cells #[.int .i64 0, .int .i64 0, .slice none 0 0, .int .i64 0] 34] 0 rfl
        have K_r : Blk (allocs w [.cells #[.int .i64 1, .int .i64 (rn : Int), .slice A N c, .int .i64 (d : Int)] 34, .cells #[.int .i64 0, .int .i64 0, .slice none 0 0, .int .i64 0] 34]) (w.heap.size + 1) 34 #[.int .i64 0, .int .i64 0, .slice none 0 0, .int .i64 0] := allocs_at w [.cells #[.int .i64 1, .int .i64 (rn : Int), .slice A N c, .int .i64 (d : Int)] 34, .cells #[.int .i64 0, .int .i64 0, .slice none 0 0, .int .i64 0] 34] 1 rfl
        unfold allocs at HB K_x K_r
        simp only [List.foldl_cons, List.foldl_nil] at HB K_x K_r
        rw [Nat.add_zero] at K_x
        go_enter Tryz.func59, Tryz.ntmps59
        go_upto_region 1 with (fail)
        generalize ((w.alloc (.cells #[.int .i64 1, .int .i64 (rn : Int), .slice A N c, .int .i64 (d : Int)] 34)).alloc (.cells #[.int .i64 0, .int .i64 0, .slice none 0 0, .int .i64 0] 34)) = w0 at *
        replace K_x := hide K_x
        replace K_r := hide K_r
        replace HB := hide HB
        have x0 := (Blk.cell K_x.out 0).trans (rfl : _ = some (Value.int .i64 1))
        have x1 := (Blk.cell K_x.out 1).trans (rfl : _ = some (Value.int .i64 (rn : Int)))
        have x2 := (Blk.cell K_x.out 2).trans (rfl : _ = some (Value.slice A N c))
        have x3 := (Blk.cell K_x.out 3).trans (rfl : _ = some (Value.int .i64 (d : Int)))
        have r0 := (Blk.cell K_r.out 0).trans (rfl : _ = some (Value.int .i64 0))
        have rf0 := Blk.frozen K_r.out 0
        have r1 := (Blk.cell K_r.out 1).trans (rfl : _ = some (Value.int .i64 0))
        have rf1 := Blk.frozen K_r.out 1
        have r2 := (Blk.cell K_r.out 2).trans (rfl : _ = some (Value.slice none 0 0))
        have rf2 := Blk.frozen K_r.out 2
        have r3 := (Blk.cell K_r.out 3).trans (rfl : _ = some (Value.int .i64 0))
        have rf3 := Blk.frozen K_r.out 3
        go_wp2_with fail
        have rc0 := (Blk.cell ((((K_r.out.set_ 0 (.int .i64 1)).set_ 1 (.int .i64 0)).set_ 2 (.slice none 0 0)).set_ 3 (.int .i64 (k1 : Int))) 0).trans (rfl : _ = some (Value.int .i64 1))
        have rc1 := (Blk.cell ((((K_r.out.set_ 0 (.int .i64 1)).set_ 1 (.int .i64 0)).set_ 2 (.slice none 0 0)).set_ 3 (.int .i64 (k1 : Int))) 1).trans (rfl : _ = some (Value.int .i64 0))
        have rc2 := (Blk.cell ((((K_r.out.set_ 0 (.int .i64 1)).set_ 1 (.int .i64 0)).set_ 2 (.slice none 0 0)).set_ 3 (.int .i64 (k1 : Int))) 2).trans (rfl : _ = some (Value.slice none 0 0))
        have rc3 := (Blk.cell ((((K_r.out.set_ 0 (.int .i64 1)).set_ 1 (.int .i64 0)).set_ 2 (.slice none 0 0)).set_ 3 (.int .i64 (k1 : Int))) 3).trans (rfl : _ = some (Value.int .i64 (k1 : Int)))
        exact bodyPost_ret (v := .agg #[.int .i64 1, .int .i64 0, .slice none 0 0, .int .i64 (k1 : Int)]) (by simp [results, Tryz.results59, go_sem, rc0, rc1, rc2, rc3]) rfl ⟨_, rfl, ⟨_, rfl, SlL.nil _, FrV.zero _ _ _⟩, ((((HB.out.setCell (p := ⟨(w.heap.size + 1), 0, none⟩) (by show w.heap.size ≤ (w.heap.size + 1); omega) (.int .i64 1)).setCell (p := ⟨(w.heap.size + 1), 1, none⟩) (by show w.heap.size ≤ (w.heap.size + 1); omega) (.int .i64 0)).setCell (p := ⟨(w.heap.size + 1), 2, none⟩) (by show w.heap.size ≤ (w.heap.size + 1); omega) (.slice none 0 0)).setCell (p := ⟨(w.heap.size + 1), 3, none⟩) (by show w.heap.size ≤ (w.heap.size + 1); omega) (.int .i64 (k1 : Int)))⟩
    | true =>
      by_cases hk : rn = 4
      · have hr : goesS ⟨1, rn, [], d⟩ true = swB 0 := by
          unfold goesS
          rw [if_neg (by simp), if_pos rfl]
          simp only [if_true]
          rw [if_pos hk]
        rw [hr]
        clear hr
        subst hk
        clear h1 h2
        have HB := allocs_below w [.cells #[.int .i64 1, .int .i64 4, .slice A N c, .int .i64 (d : Int)] 34, .cells #[.int .i64 0, .int .i64 0, .slice none 0 0, .int .i64 0] 34]
        have K_x : Blk (allocs w [.cells #[.int .i64 1, .int .i64 4, .slice A N c, .int .i64 (d : Int)] 34, .cells #[.int .i64 0, .int .i64 0, .slice none 0 0, .int .i64 0] 34]) (w.heap.size + 0) 34 #[.int .i64 1, .int .i64 4, .slice A N c, .int .i64 (d : Int)] := allocs_at w [.cells #[.int .i64 1, .int .i64 4, .slice A N c, .int .i64 (d : Int)] 34, .cells #[.int .i64 0, .int .i64 0, .slice none 0 0, .int .i64 0] 34] 0 rfl
        have K_r : Blk (allocs w [.cells #[.int .i64 1, .int .i64 4, .slice A N c, .int .i64 (d : Int)] 34, .cells #[.int .i64 0, .int .i64 0, .slice none 0 0, .int .i64 0] 34]) (w.heap.size + 1) 34 #[.int .i64 0, .int .i64 0, .slice none 0 0, .int .i64 0] := allocs_at w [.cells #[.int .i64 1, .int .i64 4, .slice A N c, .int .i64 (d : Int)] 34, .cells #[.int .i64 0, .int .i64 0, .slice none 0 0, .int .i64 0] 34] 1 rfl
        unfold allocs at HB K_x K_r
        simp only [List.foldl_cons, List.foldl_nil] at HB K_x K_r
        rw [Nat.add_zero] at K_x
        go_enter Tryz.func59, Tryz.ntmps59
        go_upto_region 1 with (fail)
        generalize ((w.alloc (.cells #[.int .i64 1, .int .i64 4, .slice A N c, .int .i64 (d : Int)] 34)).alloc (.cells #[.int .i64 0, .int .i64 0, .slice none 0 0, .int .i64 0] 34)) = w0 at *
        replace K_x := hide K_x
        replace K_r := hide K_r
        replace HB := hide HB
        have x0 := (Blk.cell K_x.out 0).trans (rfl : _ = some (Value.int .i64 1))
        have x1 := (Blk.cell K_x.out 1).trans (rfl : _ = some (Value.int .i64 4))
        have x2 := (Blk.cell K_x.out 2).trans (rfl : _ = some (Value.slice A N c))
        have x3 := (Blk.cell K_x.out 3).trans (rfl : _ = some (Value.int .i64 (d : Int)))
        have r0 := (Blk.cell K_r.out 0).trans (rfl : _ = some (Value.int .i64 0))
        have rf0 := Blk.frozen K_r.out 0
        have r1 := (Blk.cell K_r.out 1).trans (rfl : _ = some (Value.int .i64 0))
        have rf1 := Blk.frozen K_r.out 1
        have r2 := (Blk.cell K_r.out 2).trans (rfl : _ = some (Value.slice none 0 0))
        have rf2 := Blk.frozen K_r.out 2
        have r3 := (Blk.cell K_r.out 3).trans (rfl : _ = some (Value.int .i64 0))
        have rf3 := Blk.frozen K_r.out 3
        go_wp2_with fail
        have rc0 := (Blk.cell ((((K_r.out.set_ 0 (.int .i64 0)).set_ 1 (.int .i64 0)).set_ 2 (.slice none 0 0)).set_ 3 (.int .i64 0)) 0).trans (rfl : _ = some (Value.int .i64 0))
        have rc1 := (Blk.cell ((((K_r.out.set_ 0 (.int .i64 0)).set_ 1 (.int .i64 0)).set_ 2 (.slice none 0 0)).set_ 3 (.int .i64 0)) 1).trans (rfl : _ = some (Value.int .i64 0))
        have rc2 := (Blk.cell ((((K_r.out.set_ 0 (.int .i64 0)).set_ 1 (.int .i64 0)).set_ 2 (.slice none 0 0)).set_ 3 (.int .i64 0)) 2).trans (rfl : _ = some (Value.slice none 0 0))
        have rc3 := (Blk.cell ((((K_r.out.set_ 0 (.int .i64 0)).set_ 1 (.int .i64 0)).set_ 2 (.slice none 0 0)).set_ 3 (.int .i64 0)) 3).trans (rfl : _ = some (Value.int .i64 0))
        exact bodyPost_ret (v := .agg #[.int .i64 0, .int .i64 0, .slice none 0 0, .int .i64 0]) (by simp [results, Tryz.results59, go_sem, rc0, rc1, rc2, rc3]) rfl ⟨_, rfl, StN.begun _ _ 0, ((((HB.out.setCell (p := ⟨(w.heap.size + 1), 0, none⟩) (by show w.heap.size ≤ (w.heap.size + 1); omega) (.int .i64 0)).setCell (p := ⟨(w.heap.size + 1), 1, none⟩) (by show w.heap.size ≤ (w.heap.size + 1); omega) (.int .i64 0)).setCell (p := ⟨(w.heap.size + 1), 2, none⟩) (by show w.heap.size ≤ (w.heap.size + 1); omega) (.slice none 0 0)).setCell (p := ⟨(w.heap.size + 1), 3, none⟩) (by show w.heap.size ≤ (w.heap.size + 1); omega) (.int .i64 0))⟩
      · have hr : goesS ⟨1, rn, [], d⟩ true = ⟨1, rn + 1, [], d⟩ := by
          unfold goesS
          rw [if_neg (by simp), if_pos rfl]
          simp only [if_true]
          rw [if_neg hk]
        rw [hr]
        clear hr
        have hk4 : ((rn : Int) == 4) = false := by simp; omega
        have hwk : IntKind.i64.wrap ((rn : Int) + 1) = ((rn + 1 : Nat) : Int) := (IntWalk.i64_in _ (by omega)).trans (by omega)
        obtain ⟨k1, hk1⟩ : ∃ z, rn + 1 = z := ⟨_, rfl⟩
        rw [hk1] at hwk ⊢
        have HK1 := hide hk1
        clear hk1
        clear h1 h2
        have HB := allocs_below w [.cells #[.int .i64 1, .int .i64 (rn : Int), .slice A N c, .int .i64 (d : Int)] 34, .cells #[.int .i64 0, .int .i64 0, .slice none 0 0, .int .i64 0] 34]
        have K_x : Blk (allocs w [.cells #[.int .i64 1, .int .i64 (rn : Int), .slice A N c, .int .i64 (d : Int)] 34, .cells #[.int .i64 0, .int .i64 0, .slice none 0 0, .int .i64 0] 34]) (w.heap.size + 0) 34 #[.int .i64 1, .int .i64 (rn : Int), .slice A N c, .int .i64 (d : Int)] := allocs_at w [.cells #[.int .i64 1, .int .i64 (rn : Int), .slice A N c, .int .i64 (d : Int)] 34, .cells #[.int .i64 0, .int .i64 0, .slice none 0 0, .int .i64 0] 34] 0 rfl
        have K_r : Blk (allocs w [.cells #[.int .i64 1, .int .i64 (rn : Int), .slice A N c, .int .i64 (d : Int)] 34, .cells #[.int .i64 0, .int .i64 0, .slice none 0 0, .int .i64 0] 34]) (w.heap.size + 1) 34 #[.int .i64 0, .int .i64 0, .slice none 0 0, .int .i64 0] := allocs_at w [.cells #[.int .i64 1, .int .i64 (rn : Int), .slice A N c, .int .i64 (d : Int)] 34, .cells #[.int .i64 0, .int .i64 0, .slice none 0 0, .int .i64 0] 34] 1 rfl
        unfold allocs at HB K_x K_r
        simp only [List.foldl_cons, List.foldl_nil] at HB K_x K_r
        rw [Nat.add_zero] at K_x
        go_enter Tryz.func59, Tryz.ntmps59
        go_upto_region 1 with (fail)
        generalize ((w.alloc (.cells #[.int .i64 1, .int .i64 (rn : Int), .slice A N c, .int .i64 (d : Int)] 34)).alloc (.cells #[.int .i64 0, .int .i64 0, .slice none 0 0, .int .i64 0] 34)) = w0 at *
        replace K_x := hide K_x
        replace K_r := hide K_r
        replace HB := hide HB
        have x0 := (Blk.cell K_x.out 0).trans (rfl : _ = some (Value.int .i64 1))
        have x1 := (Blk.cell K_x.out 1).trans (rfl : _ = some (Value.int .i64 (rn : Int)))
        have x2 := (Blk.cell K_x.out 2).trans (rfl : _ = some (Value.slice A N c))
        have x3 := (Blk.cell K_x.out 3).trans (rfl : _ = some (Value.int .i64 (d : Int)))
        have r0 := (Blk.cell K_r.out 0).trans (rfl : _ = some (Value.int .i64 0))
        have rf0 := Blk.frozen K_r.out 0
        have r1 := (Blk.cell K_r.out 1).trans (rfl : _ = some (Value.int .i64 0))
        have rf1 := Blk.frozen K_r.out 1
        have r2 := (Blk.cell K_r.out 2).trans (rfl : _ = some (Value.slice none 0 0))
        have rf2 := Blk.frozen K_r.out 2
        have r3 := (Blk.cell K_r.out 3).trans (rfl : _ = some (Value.int .i64 0))
        have rf3 := Blk.frozen K_r.out 3
        go_wp2_with fail
        have rc0 := (Blk.cell ((((K_r.out.set_ 0 (.int .i64 1)).set_ 1 (.int .i64 (k1 : Int))).set_ 2 (.slice none 0 0)).set_ 3 (.int .i64 (d : Int))) 0).trans (rfl : _ = some (Value.int .i64 1))
        have rc1 := (Blk.cell ((((K_r.out.set_ 0 (.int .i64 1)).set_ 1 (.int .i64 (k1 : Int))).set_ 2 (.slice none 0 0)).set_ 3 (.int .i64 (d : Int))) 1).trans (rfl : _ = some (Value.int .i64 (k1 : Int)))
        have rc2 := (Blk.cell ((((K_r.out.set_ 0 (.int .i64 1)).set_ 1 (.int .i64 (k1 : Int))).set_ 2 (.slice none 0 0)).set_ 3 (.int .i64 (d : Int))) 2).trans (rfl : _ = some (Value.slice none 0 0))
        have rc3 := (Blk.cell ((((K_r.out.set_ 0 (.int .i64 1)).set_ 1 (.int .i64 (k1 : Int))).set_ 2 (.slice none 0 0)).set_ 3 (.int .i64 (d : Int))) 3).trans (rfl : _ = some (Value.int .i64 (d : Int)))
        exact bodyPost_ret (v := .agg #[.int .i64 1, .int .i64 (k1 : Int), .slice none 0 0, .int .i64 (d : Int)]) (by simp [results, Tryz.results59, go_sem, rc0, rc1, rc2, rc3]) rfl ⟨_, rfl, ⟨_, rfl, SlL.nil _, FrV.zero _ _ _⟩, ((((HB.out.setCell (p := ⟨(w.heap.size + 1), 0, none⟩) (by show w.heap.size ≤ (w.heap.size + 1); omega) (.int .i64 1)).setCell (p := ⟨(w.heap.size + 1), 1, none⟩) (by show w.heap.size ≤ (w.heap.size + 1); omega) (.int .i64 (k1 : Int))).setCell (p := ⟨(w.heap.size + 1), 2, none⟩) (by show w.heap.size ≤ (w.heap.size + 1); omega) (.slice none 0 0)).setCell (p := ⟨(w.heap.size + 1), 3, none⟩) (by show w.heap.size ≤ (w.heap.size + 1); omega) (.int .i64 (d : Int)))⟩
  · clear hx
    show Calls Tryz.prog 59 #[.agg #[.int .i64 2, .int .i64 0, .slice A N c, .int .i64 0], .bool ok] w _
    cases ok with
    | false =>
      have hr : goesS (swB 2) false = swB 0 := rfl
      rw [hr]
      clear hr
      have HB := allocs_below w [.cells #[.int .i64 2, .int .i64 0, .slice A N c, .int .i64 0] 34, .cells #[.int .i64 0, .int .i64 0, .slice none 0 0, .int .i64 0] 34]
      have K_x : Blk (allocs w [.cells #[.int .i64 2, .int .i64 0, .slice A N c, .int .i64 0] 34, .cells #[.int .i64 0, .int .i64 0, .slice none 0 0, .int .i64 0] 34]) (w.heap.size + 0) 34 #[.int .i64 2, .int .i64 0, .slice A N c, .int .i64 0] := allocs_at w [.cells #[.int .i64 2, .int .i64 0, .slice A N c, .int .i64 0] 34, .cells #[.int .i64 0, .int .i64 0, .slice none 0 0, .int .i64 0] 34] 0 rfl
      have K_r : Blk (allocs w [.cells #[.int .i64 2, .int .i64 0, .slice A N c, .int .i64 0] 34, .cells #[.int .i64 0, .int .i64 0, .slice none 0 0, .int .i64 0] 34]) (w.heap.size + 1) 34 #[.int .i64 0, .int .i64 0, .slice none 0 0, .int .i64 0] := allocs_at w [.cells #[.int .i64 2, .int .i64 0, .slice A N c, .int .i64 0] 34, .cells #[.int .i64 0, .int .i64 0, .slice none 0 0, .int .i64 0] 34] 1 rfl
      unfold allocs at HB K_x K_r
      simp only [List.foldl_cons, List.foldl_nil] at HB K_x K_r
      rw [Nat.add_zero] at K_x
      go_enter Tryz.func59, Tryz.ntmps59
      go_upto_region 1 with (fail)
      generalize ((w.alloc (.cells #[.int .i64 2, .int .i64 0, .slice A N c, .int .i64 0] 34)).alloc (.cells #[.int .i64 0, .int .i64 0, .slice none 0 0, .int .i64 0] 34)) = w0 at *
      replace K_x := hide K_x
      replace K_r := hide K_r
      replace HB := hide HB
      have x0 := (Blk.cell K_x.out 0).trans (rfl : _ = some (Value.int .i64 2))
      have x1 := (Blk.cell K_x.out 1).trans (rfl : _ = some (Value.int .i64 0))
      have x2 := (Blk.cell K_x.out 2).trans (rfl : _ = some (Value.slice A N c))
      have x3 := (Blk.cell K_x.out 3).trans (rfl : _ = some (Value.int .i64 0))
      have r0 := (Blk.cell K_r.out 0).trans (rfl : _ = some (Value.int .i64 0))
      have rf0 := Blk.frozen K_r.out 0
      have r1 := (Blk.cell K_r.out 1).trans (rfl : _ = some (Value.int .i64 0))
      have rf1 := Blk.frozen K_r.out 1
      have r2 := (Blk.cell K_r.out 2).trans (rfl : _ = some (Value.slice none 0 0))
      have rf2 := Blk.frozen K_r.out 2
      have r3 := (Blk.cell K_r.out 3).trans (rfl : _ = some (Value.int .i64 0))
      have rf3 := Blk.frozen K_r.out 3
      go_wp2_with fail
      have rc0 := (Blk.cell ((((K_r.out.set_ 0 (.int .i64 0)).set_ 1 (.int .i64 0)).set_ 2 (.slice none 0 0)).set_ 3 (.int .i64 0)) 0).trans (rfl : _ = some (Value.int .i64 0))
      have rc1 := (Blk.cell ((((K_r.out.set_ 0 (.int .i64 0)).set_ 1 (.int .i64 0)).set_ 2 (.slice none 0 0)).set_ 3 (.int .i64 0)) 1).trans (rfl : _ = some (Value.int .i64 0))
      have rc2 := (Blk.cell ((((K_r.out.set_ 0 (.int .i64 0)).set_ 1 (.int .i64 0)).set_ 2 (.slice none 0 0)).set_ 3 (.int .i64 0)) 2).trans (rfl : _ = some (Value.slice none 0 0))
      have rc3 := (Blk.cell ((((K_r.out.set_ 0 (.int .i64 0)).set_ 1 (.int .i64 0)).set_ 2 (.slice none 0 0)).set_ 3 (.int .i64 0)) 3).trans (rfl : _ = some (Value.int .i64 0))
      exact bodyPost_ret (v := .agg #[.int .i64 0, .int .i64 0, .slice none 0 0, .int .i64 0]) (by simp [results, Tryz.results59, go_sem, rc0, rc1, rc2, rc3]) rfl ⟨_, rfl, StN.begun _ _ 0, ((((HB.out.setCell (p := ⟨(w.heap.size + 1), 0, none⟩) (by show w.heap.size ≤ (w.heap.size + 1); omega) (.int .i64 0)).setCell (p := ⟨(w.heap.size + 1), 1, none⟩) (by show w.heap.size ≤ (w.heap.size + 1); omega) (.int .i64 0)).setCell (p := ⟨(w.heap.size + 1), 2, none⟩) (by show w.heap.size ≤ (w.heap.size + 1); omega) (.slice none 0 0)).setCell (p := ⟨(w.heap.size + 1), 3, none⟩) (by show w.heap.size ≤ (w.heap.size + 1); omega) (.int .i64 0))⟩
    | true =>
      have hr : goesS (swB 2) true = swB 2 := rfl
      rw [hr]
      clear hr
      have hN0 : N = 0 := by obtain ⟨A2, c2, h, _⟩ := HV.out; cases h; rfl
      subst hN0
      have HB := allocs_below w [.cells #[.int .i64 2, .int .i64 0, .slice A 0 c, .int .i64 0] 34, .cells #[.int .i64 0, .int .i64 0, .slice none 0 0, .int .i64 0] 34]
      have K_x : Blk (allocs w [.cells #[.int .i64 2, .int .i64 0, .slice A 0 c, .int .i64 0] 34, .cells #[.int .i64 0, .int .i64 0, .slice none 0 0, .int .i64 0] 34]) (w.heap.size + 0) 34 #[.int .i64 2, .int .i64 0, .slice A 0 c, .int .i64 0] := allocs_at w [.cells #[.int .i64 2, .int .i64 0, .slice A 0 c, .int .i64 0] 34, .cells #[.int .i64 0, .int .i64 0, .slice none 0 0, .int .i64 0] 34] 0 rfl
      have K_r : Blk (allocs w [.cells #[.int .i64 2, .int .i64 0, .slice A 0 c, .int .i64 0] 34, .cells #[.int .i64 0, .int .i64 0, .slice none 0 0, .int .i64 0] 34]) (w.heap.size + 1) 34 #[.int .i64 0, .int .i64 0, .slice none 0 0, .int .i64 0] := allocs_at w [.cells #[.int .i64 2, .int .i64 0, .slice A 0 c, .int .i64 0] 34, .cells #[.int .i64 0, .int .i64 0, .slice none 0 0, .int .i64 0] 34] 1 rfl
      unfold allocs at HB K_x K_r
      simp only [List.foldl_cons, List.foldl_nil] at HB K_x K_r
      rw [Nat.add_zero] at K_x
      go_enter Tryz.func59, Tryz.ntmps59
      go_upto_region 1 with (fail)
      generalize ((w.alloc (.cells #[.int .i64 2, .int .i64 0, .slice A 0 c, .int .i64 0] 34)).alloc (.cells #[.int .i64 0, .int .i64 0, .slice none 0 0, .int .i64 0] 34)) = w0 at *
      replace K_x := hide K_x
      replace K_r := hide K_r
      replace HB := hide HB
      have x0 := (Blk.cell K_x.out 0).trans (rfl : _ = some (Value.int .i64 2))
      have x1 := (Blk.cell K_x.out 1).trans (rfl : _ = some (Value.int .i64 0))
      have x2 := (Blk.cell K_x.out 2).trans (rfl : _ = some (Value.slice A 0 c))
      have x3 := (Blk.cell K_x.out 3).trans (rfl : _ = some (Value.int .i64 0))
      have HVF := hide (HV.out.below HB.out)
      have r0 := (Blk.cell K_r.out 0).trans (rfl : _ = some (Value.int .i64 0))
      have rf0 := Blk.frozen K_r.out 0
      have r1 := (Blk.cell K_r.out 1).trans (rfl : _ = some (Value.int .i64 0))
      have rf1 := Blk.frozen K_r.out 1
      have r2 := (Blk.cell K_r.out 2).trans (rfl : _ = some (Value.slice none 0 0))
      have rf2 := Blk.frozen K_r.out 2
      have r3 := (Blk.cell K_r.out 3).trans (rfl : _ = some (Value.int .i64 0))
      have rf3 := Blk.frozen K_r.out 3
      go_wp2_with fail
      have rc0 := (Blk.cell ((((K_r.out.set_ 0 (.int .i64 2)).set_ 1 (.int .i64 0)).set_ 2 (.slice A 0 c)).set_ 3 (.int .i64 0)) 0).trans (rfl : _ = some (Value.int .i64 2))
      have rc1 := (Blk.cell ((((K_r.out.set_ 0 (.int .i64 2)).set_ 1 (.int .i64 0)).set_ 2 (.slice A 0 c)).set_ 3 (.int .i64 0)) 1).trans (rfl : _ = some (Value.int .i64 0))
      have rc2 := (Blk.cell ((((K_r.out.set_ 0 (.int .i64 2)).set_ 1 (.int .i64 0)).set_ 2 (.slice A 0 c)).set_ 3 (.int .i64 0)) 2).trans (rfl : _ = some (Value.slice A 0 c))
      have rc3 := (Blk.cell ((((K_r.out.set_ 0 (.int .i64 2)).set_ 1 (.int .i64 0)).set_ 2 (.slice A 0 c)).set_ 3 (.int .i64 0)) 3).trans (rfl : _ = some (Value.int .i64 0))
      exact bodyPost_ret (v := .agg #[.int .i64 2, .int .i64 0, .slice A 0 c, .int .i64 0]) (by simp [results, Tryz.results59, go_sem, rc0, rc1, rc2, rc3]) rfl ⟨_, rfl, ⟨_, rfl, HVF.out.own K_r.out zs_nobool (only_setCell (only_setCell (only_setCell (only_setCell (only_refl _ (some ((w.heap.size + 1)))) (p := ⟨(w.heap.size + 1), 0, none⟩) (Or.inl rfl) _) (p := ⟨(w.heap.size + 1), 1, none⟩) (Or.inl rfl) _) (p := ⟨(w.heap.size + 1), 2, none⟩) (Or.inl rfl) _) (p := ⟨(w.heap.size + 1), 3, none⟩) (Or.inl rfl) _), FrV.zero _ _ _⟩, ((((HB.out.setCell (p := ⟨(w.heap.size + 1), 0, none⟩) (by show w.heap.size ≤ (w.heap.size + 1); omega) (.int .i64 2)).setCell (p := ⟨(w.heap.size + 1), 1, none⟩) (by show w.heap.size ≤ (w.heap.size + 1); omega) (.int .i64 0)).setCell (p := ⟨(w.heap.size + 1), 2, none⟩) (by show w.heap.size ≤ (w.heap.size + 1); omega) (.slice A 0 c)).setCell (p := ⟨(w.heap.size + 1), 3, none⟩) (by show w.heap.size ≤ (w.heap.size + 1); omega) (.int .i64 0))⟩
  · clear hx
    show Calls Tryz.prog 59 #[.agg #[.int .i64 3, .int .i64 0, .slice A N c, .int .i64 0], .bool ok] w _
    cases ok with
    | false =>
      have hr : goesS (swB 3) false = swB 3 := rfl
      rw [hr]
      clear hr
      have hN0 : N = 0 := by obtain ⟨A2, c2, h, _⟩ := HV.out; cases h; rfl
      subst hN0
      have HB := allocs_below w [.cells #[.int .i64 3, .int .i64 0, .slice A 0 c, .int .i64 0] 34, .cells #[.int .i64 0, .int .i64 0, .slice none 0 0, .int .i64 0] 34]
      have K_x : Blk (allocs w [.cells #[.int .i64 3, .int .i64 0, .slice A 0 c, .int .i64 0] 34, .cells #[.int .i64 0, .int .i64 0, .slice none 0 0, .int .i64 0] 34]) (w.heap.size + 0) 34 #[.int .i64 3, .int .i64 0, .slice A 0 c, .int .i64 0] := allocs_at w [.cells #[.int .i64 3, .int .i64 0, .slice A 0 c, .int .i64 0] 34, .cells #[.int .i64 0, .int .i64 0, .slice none 0 0, .int .i64 0] 34] 0 rfl
      have K_r : Blk (allocs w [.cells #[.int .i64 3, .int .i64 0, .slice A 0 c, .int .i64 0] 34, .cells #[.int .i64 0, .int .i64 0, .slice none 0 0, .int .i64 0] 34]) (w.heap.size + 1) 34 #[.int .i64 0, .int .i64 0, .slice none 0 0, .int .i64 0] := allocs_at w [.cells #[.int .i64 3, .int .i64 0, .slice A 0 c, .int .i64 0] 34, .cells #[.int .i64 0, .int .i64 0, .slice none 0 0, .int .i64 0] 34] 1 rfl
      unfold allocs at HB K_x K_r
      simp only [List.foldl_cons, List.foldl_nil] at HB K_x K_r
      rw [Nat.add_zero] at K_x
      go_enter Tryz.func59, Tryz.ntmps59
      go_upto_region 1 with (fail)
      generalize ((w.alloc (.cells #[.int .i64 3, .int .i64 0, .slice A 0 c, .int .i64 0] 34)).alloc (.cells #[.int .i64 0, .int .i64 0, .slice none 0 0, .int .i64 0] 34)) = w0 at *
      replace K_x := hide K_x
      replace K_r := hide K_r
      replace HB := hide HB
      have x0 := (Blk.cell K_x.out 0).trans (rfl : _ = some (Value.int .i64 3))
      have x1 := (Blk.cell K_x.out 1).trans (rfl : _ = some (Value.int .i64 0))
      have x2 := (Blk.cell K_x.out 2).trans (rfl : _ = some (Value.slice A 0 c))
      have x3 := (Blk.cell K_x.out 3).trans (rfl : _ = some (Value.int .i64 0))
      have HVF := hide (HV.out.below HB.out)
      have r0 := (Blk.cell K_r.out 0).trans (rfl : _ = some (Value.int .i64 0))
      have rf0 := Blk.frozen K_r.out 0
      have r1 := (Blk.cell K_r.out 1).trans (rfl : _ = some (Value.int .i64 0))
      have rf1 := Blk.frozen K_r.out 1
      have r2 := (Blk.cell K_r.out 2).trans (rfl : _ = some (Value.slice none 0 0))
      have rf2 := Blk.frozen K_r.out 2
      have r3 := (Blk.cell K_r.out 3).trans (rfl : _ = some (Value.int .i64 0))
      have rf3 := Blk.frozen K_r.out 3
      go_wp2_with fail
      have rc0 := (Blk.cell ((((K_r.out.set_ 0 (.int .i64 3)).set_ 1 (.int .i64 0)).set_ 2 (.slice A 0 c)).set_ 3 (.int .i64 0)) 0).trans (rfl : _ = some (Value.int .i64 3))
      have rc1 := (Blk.cell ((((K_r.out.set_ 0 (.int .i64 3)).set_ 1 (.int .i64 0)).set_ 2 (.slice A 0 c)).set_ 3 (.int .i64 0)) 1).trans (rfl : _ = some (Value.int .i64 0))
      have rc2 := (Blk.cell ((((K_r.out.set_ 0 (.int .i64 3)).set_ 1 (.int .i64 0)).set_ 2 (.slice A 0 c)).set_ 3 (.int .i64 0)) 2).trans (rfl : _ = some (Value.slice A 0 c))
      have rc3 := (Blk.cell ((((K_r.out.set_ 0 (.int .i64 3)).set_ 1 (.int .i64 0)).set_ 2 (.slice A 0 c)).set_ 3 (.int .i64 0)) 3).trans (rfl : _ = some (Value.int .i64 0))
      exact bodyPost_ret (v := .agg #[.int .i64 3, .int .i64 0, .slice A 0 c, .int .i64 0]) (by simp [results, Tryz.results59, go_sem, rc0, rc1, rc2, rc3]) rfl ⟨_, rfl, ⟨_, rfl, HVF.out.own K_r.out zs_nobool (only_setCell (only_setCell (only_setCell (only_setCell (only_refl _ (some ((w.heap.size + 1)))) (p := ⟨(w.heap.size + 1), 0, none⟩) (Or.inl rfl) _) (p := ⟨(w.heap.size + 1), 1, none⟩) (Or.inl rfl) _) (p := ⟨(w.heap.size + 1), 2, none⟩) (Or.inl rfl) _) (p := ⟨(w.heap.size + 1), 3, none⟩) (Or.inl rfl) _), FrV.zero _ _ _⟩, ((((HB.out.setCell (p := ⟨(w.heap.size + 1), 0, none⟩) (by show w.heap.size ≤ (w.heap.size + 1); omega) (.int .i64 3)).setCell (p := ⟨(w.heap.size + 1), 1, none⟩) (by show w.heap.size ≤ (w.heap.size + 1); omega) (.int .i64 0)).setCell (p := ⟨(w.heap.size + 1), 2, none⟩) (by show w.heap.size ≤ (w.heap.size + 1); omega) (.slice A 0 c)).setCell (p := ⟨(w.heap.size + 1), 3, none⟩) (by show w.heap.size ≤ (w.heap.size + 1); omega) (.int .i64 0))⟩
    | true =>
      have hr : goesS (swB 3) true = swB 3 := rfl
      rw [hr]
      clear hr
      have hN0 : N = 0 := by obtain ⟨A2, c2, h, _⟩ := HV.out; cases h; rfl
      subst hN0
      have HB := allocs_below w [.cells #[.int .i64 3, .int .i64 0, .slice A 0 c, .int .i64 0] 34, .cells #[.int .i64 0, .int .i64 0, .slice none 0 0, .int .i64 0] 34]
      have K_x : Blk (allocs w [.cells #[.int .i64 3, .int .i64 0, .slice A 0 c, .int .i64 0] 34, .cells #[.int .i64 0, .int .i64 0, .slice none 0 0, .int .i64 0] 34]) (w.heap.size + 0) 34 #[.int .i64 3, .int .i64 0, .slice A 0 c, .int .i64 0] := allocs_at w [.cells #[.int .i64 3, .int .i64 0, .slice A 0 c, .int .i64 0] 34, .cells #[.int .i64 0, .int .i64 0, .slice none 0 0, .int .i64 0] 34] 0 rfl
      have K_r : Blk (allocs w [.cells #[.int .i64 3, .int .i64 0, .slice A 0 c, .int .i64 0] 34, .cells #[.int .i64 0, .int .i64 0, .slice none 0 0, .int .i64 0] 34]) (w.heap.size + 1) 34 #[.int .i64 0, .int .i64 0, .slice none 0 0, .int .i64 0] := allocs_at w [.cells #[.int .i64 3, .int .i64 0, .slice A 0 c, .int .i64 0] 34, .cells #[.int .i64 0, .int .i64 0, .slice none 0 0, .int .i64 0] 34] 1 rfl
      unfold allocs at HB K_x K_r
      simp only [List.foldl_cons, List.foldl_nil] at HB K_x K_r
      rw [Nat.add_zero] at K_x
      go_enter Tryz.func59, Tryz.ntmps59
      go_upto_region 1 with (fail)
      generalize ((w.alloc (.cells #[.int .i64 3, .int .i64 0, .slice A 0 c, .int .i64 0] 34)).alloc (.cells #[.int .i64 0, .int .i64 0, .slice none 0 0, .int .i64 0] 34)) = w0 at *
      replace K_x := hide K_x
      replace K_r := hide K_r
      replace HB := hide HB
      have x0 := (Blk.cell K_x.out 0).trans (rfl : _ = some (Value.int .i64 3))
      have x1 := (Blk.cell K_x.out 1).trans (rfl : _ = some (Value.int .i64 0))
      have x2 := (Blk.cell K_x.out 2).trans (rfl : _ = some (Value.slice A 0 c))
      have x3 := (Blk.cell K_x.out 3).trans (rfl : _ = some (Value.int .i64 0))
      have HVF := hide (HV.out.below HB.out)
      have r0 := (Blk.cell K_r.out 0).trans (rfl : _ = some (Value.int .i64 0))
      have rf0 := Blk.frozen K_r.out 0
      have r1 := (Blk.cell K_r.out 1).trans (rfl : _ = some (Value.int .i64 0))
      have rf1 := Blk.frozen K_r.out 1
      have r2 := (Blk.cell K_r.out 2).trans (rfl : _ = some (Value.slice none 0 0))
      have rf2 := Blk.frozen K_r.out 2
      have r3 := (Blk.cell K_r.out 3).trans (rfl : _ = some (Value.int .i64 0))
      have rf3 := Blk.frozen K_r.out 3
      go_wp2_with fail
      have rc0 := (Blk.cell ((((K_r.out.set_ 0 (.int .i64 3)).set_ 1 (.int .i64 0)).set_ 2 (.slice A 0 c)).set_ 3 (.int .i64 0)) 0).trans (rfl : _ = some (Value.int .i64 3))
      have rc1 := (Blk.cell ((((K_r.out.set_ 0 (.int .i64 3)).set_ 1 (.int .i64 0)).set_ 2 (.slice A 0 c)).set_ 3 (.int .i64 0)) 1).trans (rfl : _ = some (Value.int .i64 0))
      have rc2 := (Blk.cell ((((K_r.out.set_ 0 (.int .i64 3)).set_ 1 (.int .i64 0)).set_ 2 (.slice A 0 c)).set_ 3 (.int .i64 0)) 2).trans (rfl : _ = some (Value.slice A 0 c))
      have rc3 := (Blk.cell ((((K_r.out.set_ 0 (.int .i64 3)).set_ 1 (.int .i64 0)).set_ 2 (.slice A 0 c)).set_ 3 (.int .i64 0)) 3).trans (rfl : _ = some (Value.int .i64 0))
      exact bodyPost_ret (v := .agg #[.int .i64 3, .int .i64 0, .slice A 0 c, .int .i64 0]) (by simp [results, Tryz.results59, go_sem, rc0, rc1, rc2, rc3]) rfl ⟨_, rfl, ⟨_, rfl, HVF.out.own K_r.out zs_nobool (only_setCell (only_setCell (only_setCell (only_setCell (only_refl _ (some ((w.heap.size + 1)))) (p := ⟨(w.heap.size + 1), 0, none⟩) (Or.inl rfl) _) (p := ⟨(w.heap.size + 1), 1, none⟩) (Or.inl rfl) _) (p := ⟨(w.heap.size + 1), 2, none⟩) (Or.inl rfl) _) (p := ⟨(w.heap.size + 1), 3, none⟩) (Or.inl rfl) _), FrV.zero _ _ _⟩, ((((HB.out.setCell (p := ⟨(w.heap.size + 1), 0, none⟩) (by show w.heap.size ≤ (w.heap.size + 1); omega) (.int .i64 3)).setCell (p := ⟨(w.heap.size + 1), 1, none⟩) (by show w.heap.size ≤ (w.heap.size + 1); omega) (.int .i64 0)).setCell (p := ⟨(w.heap.size + 1), 2, none⟩) (by show w.heap.size ≤ (w.heap.size + 1); omega) (.slice A 0 c)).setCell (p := ⟨(w.heap.size + 1), 3, none⟩) (by show w.heap.size ≤ (w.heap.size + 1); omega) (.int .i64 0))⟩
end Go.Proofs.YthmmgjieppknkaaGreatDoor
