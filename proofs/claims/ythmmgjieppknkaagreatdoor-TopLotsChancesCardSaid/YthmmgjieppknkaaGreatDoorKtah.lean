/- Contracts and plain laws that the statements of this seat share (part Ktah). -/
import Derived.Test.YthmmgjieppknkaaGreatDoorKtaa
import Derived.Test.YthmmgjieppknkaaGreatDoorKtab
import Derived.Test.YthmmgjieppknkaaGreatDoorKtac
import Derived.Test.YthmmgjieppknkaaGreatDoorKtad
import Derived.Test.YthmmgjieppknkaaGreatDoorKtag
namespace Go.Proofs.YthmmgjieppknkaaGreatDoor
open Go.RowKit MLab
def ptV (p : Pt) : Value := .agg #[.int .i64 (p.mode : Int), .int .i64 (p.run : Int), .int .i64 (p.last : Int), .int .i64 (p.rej : Int)]
theorem bit_one (w : World) : Calls Tryz.prog 135 #[.bool true] w fun e w' => e = .returned (.int .i64 1) ∧ w' = w := bit_any w true
theorem bit_zero (w : World) : Calls Tryz.prog 135 #[.bool false] w fun e w' => e = .returned (.int .i64 0) ∧ w' = w := bit_any w false
theorem and_all : ∀ c : Nat, c < 32 → (bits BinOp.and IntKind.i64 (c : Int) ((c : Int) + 1) == 0) = decide (c &&& (c + 1) = 0) := by decide
set_option maxRecDepth 100000 in
set_option maxHeartbeats 4000000 in
theorem normalS_any (w : World) (a b c d : Nat) (ok : Bool) (hb : b ≤ 9) (h1 : 1 ≤ c) (h2 : c ≤ 31) :
    Calls Tryz.prog 95 #[.agg #[.int .i64 (a : Int), .int .i64 (b : Int), .int .i64 (c : Int), .int .i64 (d : Int)], .bool ok] w fun e w' => e = .returned (ptV (normalP ⟨a, b, c, d⟩ ok)) ∧ Below w.heap.size w w' := by
  have hand := and_all c (by omega)
  cases ok with
  | false =>
    by_cases hg : c &&& (c + 1) = 0
    · by_cases hbb : 32 ≤ 2 * c
      · rw [decide_eq_true hg] at hand
        obtain ⟨l2, hl2⟩ : ∃ x, 2 * c = x := ⟨_, rfl⟩
        obtain ⟨e1, he1⟩ : ∃ x, 16 + l2 % 16 = x := ⟨_, rfl⟩
        have hln : lastN c false = e1 := by
          unfold lastN
          simp only [Bool.false_eq_true, if_false, Nat.add_zero, hl2]
          rw [if_pos (by omega)]; exact he1
        have hr : normalP ⟨a, b, c, d⟩ false = ⟨a, 0, e1, d⟩ := by
          unfold normalP
          simp only [hln]
          rw [if_neg (by rintro ⟨_, h⟩; exact h hg)]
          simp
        rw [hr]
        have hw0 : IntKind.i64.wrap (2 * (c : Int)) = ((2 * c : Nat) : Int) := (IntWalk.i64_in _ (by omega)).trans (by omega)
        have hw1 : IntKind.i64.wrap (((2 * c : Nat) : Int) + 0) = (l2 : Int) := (IntWalk.i64_in _ (by omega)).trans (by omega)
        have hw1b : IntKind.i64.wrap ((2 * c : Nat) : Int) = (l2 : Int) := (IntWalk.i64_in _ (by omega)).trans (by omega)
        have hbg : 32 ≤ l2 := by omega
        have hm1 : (l2 : Int).tmod 16 = ((l2 % 16 : Nat) : Int) := by rw [Int.tmod_eq_emod_of_nonneg (by omega)]; omega
        have hm2 : (l2 : Int) % 16 = ((l2 % 16 : Nat) : Int) := by omega
        obtain ⟨l3, hl3⟩ : ∃ x, l2 % 16 = x := ⟨_, rfl⟩
        rw [hl3] at hm1 hm2
        have hw3 : IntKind.i64.wrap (16 + (l3 : Int)) = (e1 : Int) := (IntWalk.i64_in _ (by omega)).trans (by omega)
        have hw3b : IntKind.i64.wrap (l3 : Int) = (l3 : Int) := IntWalk.i64_in _ (by omega)
        have HL3 := hide hl3
        clear hl3
        obtain ⟨cc, hcc⟩ : ∃ x, 2 * c = x := ⟨_, rfl⟩
        rw [hcc] at hw0 hw1 hw1b
        have HCC := hide hcc
        have HL2 := hide hl2
        have HE1 := hide he1
        clear hr hln hg hcc hl2 he1
        have HB := allocs_below w [.cells #[.int .i64 (a : Int), .int .i64 (b : Int), .int .i64 (c : Int), .int .i64 (d : Int)] 105, .cells #[.int .i64 0, .int .i64 0, .int .i64 0, .int .i64 0] 105]
        have K_p : Blk (allocs w [.cells #[.int .i64 (a : Int), .int .i64 (b : Int), .int .i64 (c : Int), .int .i64 (d : Int)] 105, .cells #[.int .i64 0, .int .i64 0, .int .i64 0, .int .i64 0] 105]) (w.heap.size + 0) 105 #[.int .i64 (a : Int), .int .i64 (b : Int), .int .i64 (c : Int), .int .i64 (d : Int)] := allocs_at w [.cells #[.int .i64 (a : Int), .int .i64 (b : Int), .int .i64 (c : Int), .int .i64 (d : Int)] 105, .cells #[.int .i64 0, .int .i64 0, .int .i64 0, .int .i64 0] 105] 0 rfl
        have K_r : Blk (allocs w [.cells #[.int .i64 (a : Int), .int .i64 (b : Int), .int .i64 (c : Int), .int .i64 (d : Int)] 105, .cells #[.int .i64 0, .int .i64 0, .int .i64 0, .int .i64 0] 105]) (w.heap.size + 1) 105 #[.int .i64 0, .int .i64 0, .int .i64 0, .int .i64 0] := allocs_at w [.cells #[.int .i64 (a : Int), .int .i64 (b : Int), .int .i64 (c : Int), .int .i64 (d : Int)] 105, .cells #[.int .i64 0, .int .i64 0, .int .i64 0, .int .i64 0] 105] 1 rfl
        unfold allocs at HB K_p K_r
        simp only [List.foldl_cons, List.foldl_nil] at HB K_p K_r
        rw [Nat.add_zero] at K_p
        go_enter Tryz.func95, Tryz.ntmps95
        go_upto_region 1 with (fail)
        generalize ((w.alloc (.cells #[.int .i64 (a : Int), .int .i64 (b : Int), .int .i64 (c : Int), .int .i64 (d : Int)] 105)).alloc (.cells #[.int .i64 0, .int .i64 0, .int .i64 0, .int .i64 0] 105)) = w0 at *
        replace K_p := hide K_p
        replace K_r := hide K_r
        replace HB := hide HB
        have p0 := (Blk.cell K_p.out 0).trans (rfl : _ = some (Value.int .i64 (a : Int)))
        have p1 := (Blk.cell K_p.out 1).trans (rfl : _ = some (Value.int .i64 (b : Int)))
        have p2 := (Blk.cell K_p.out 2).trans (rfl : _ = some (Value.int .i64 (c : Int)))
        have p3 := (Blk.cell K_p.out 3).trans (rfl : _ = some (Value.int .i64 (d : Int)))
        have pf2 := Blk.frozen K_p.out 2
        go_upto_region 4 with (fail)
        go_region_with (go_at_call 135; refine (bit_zero _).mono ?_; rintro e wb ⟨rfl, hwb2⟩; subst hwb2)
        all_goals (
          clear p0 p1 p2 p3 pf2
          replace K_r := K_r.out.far (p := ⟨w.heap.size, 2, none⟩) (by show (w.heap.size + 1) ≠ w.heap.size; omega) (.int .i64 (l2 : Int))
          replace K_p : Blk (w0.setCell ⟨w.heap.size, 2, none⟩ (.int .i64 (l2 : Int))) w.heap.size 105 #[.int .i64 (a : Int), .int .i64 (b : Int), .int .i64 (l2 : Int), .int .i64 (d : Int)] := K_p.out.set_ 2 (.int .i64 (l2 : Int))
          replace HB := HB.out.setCell (p := ⟨w.heap.size, 2, none⟩) (by show w.heap.size ≤ w.heap.size; omega) (.int .i64 (l2 : Int))
          generalize w0.setCell ⟨w.heap.size, 2, none⟩ (.int .i64 (l2 : Int)) = w1 at *
          replace K_p := hide K_p
          replace K_r := hide K_r
          replace HB := hide HB
          replace K_p := K_p.out.drew
          replace K_r := K_r.out.drew
          replace HB := HB.out.drew
          generalize w1.drew = w2 at *
          replace K_p := hide K_p
          replace K_r := hide K_r
          replace HB := hide HB
          have p0 := (Blk.cell K_p.out 0).trans (rfl : _ = some (Value.int .i64 (a : Int)))
          have p1 := (Blk.cell K_p.out 1).trans (rfl : _ = some (Value.int .i64 (b : Int)))
          have p2 := (Blk.cell K_p.out 2).trans (rfl : _ = some (Value.int .i64 (l2 : Int)))
          have p3 := (Blk.cell K_p.out 3).trans (rfl : _ = some (Value.int .i64 (d : Int)))
          have pf2 := Blk.frozen K_p.out 2
          go_upto_region 7 with (fail)
          clear p0 p1 p2 p3 pf2
          replace K_r := K_r.out.far (p := ⟨w.heap.size, 2, none⟩) (by show (w.heap.size + 1) ≠ w.heap.size; omega) (.int .i64 (e1 : Int))
          replace K_p : Blk (w2.setCell ⟨w.heap.size, 2, none⟩ (.int .i64 (e1 : Int))) w.heap.size 105 #[.int .i64 (a : Int), .int .i64 (b : Int), .int .i64 (e1 : Int), .int .i64 (d : Int)] := K_p.out.set_ 2 (.int .i64 (e1 : Int))
          replace HB := HB.out.setCell (p := ⟨w.heap.size, 2, none⟩) (by show w.heap.size ≤ w.heap.size; omega) (.int .i64 (e1 : Int))
          generalize w2.setCell ⟨w.heap.size, 2, none⟩ (.int .i64 (e1 : Int)) = w3 at *
          replace K_p := hide K_p
          replace K_r := hide K_r
          replace HB := hide HB
          have p0 := (Blk.cell K_p.out 0).trans (rfl : _ = some (Value.int .i64 (a : Int)))
          have p1 := (Blk.cell K_p.out 1).trans (rfl : _ = some (Value.int .i64 (b : Int)))
          have p2 := (Blk.cell K_p.out 2).trans (rfl : _ = some (Value.int .i64 (e1 : Int)))
          have p3 := (Blk.cell K_p.out 3).trans (rfl : _ = some (Value.int .i64 (d : Int)))
          have pf1 := Blk.frozen K_p.out 1
          go_upto_region 9 with (fail)
          clear p0 p1 p2 p3 pf1
          replace K_r := K_r.out.far (p := ⟨w.heap.size, 1, none⟩) (by show (w.heap.size + 1) ≠ w.heap.size; omega) (.int .i64 0)
          replace K_p : Blk (w3.setCell ⟨w.heap.size, 1, none⟩ (.int .i64 0)) w.heap.size 105 #[.int .i64 (a : Int), .int .i64 0, .int .i64 (e1 : Int), .int .i64 (d : Int)] := K_p.out.set_ 1 (.int .i64 0)
          replace HB := HB.out.setCell (p := ⟨w.heap.size, 1, none⟩) (by show w.heap.size ≤ w.heap.size; omega) (.int .i64 0)
          generalize w3.setCell ⟨w.heap.size, 1, none⟩ (.int .i64 0) = w4 at *
          replace K_p := hide K_p
          replace K_r := hide K_r
          replace HB := hide HB
          have p0 := (Blk.cell K_p.out 0).trans (rfl : _ = some (Value.int .i64 (a : Int)))
          have p1 := (Blk.cell K_p.out 1).trans (rfl : _ = some (Value.int .i64 0))
          have p2 := (Blk.cell K_p.out 2).trans (rfl : _ = some (Value.int .i64 (e1 : Int)))
          have p3 := (Blk.cell K_p.out 3).trans (rfl : _ = some (Value.int .i64 (d : Int)))
          have r0 := (Blk.cell K_r.out 0).trans (rfl : _ = some (Value.int .i64 0))
          have rf0 := Blk.frozen K_r.out 0
          have r1 := (Blk.cell K_r.out 1).trans (rfl : _ = some (Value.int .i64 0))
          have rf1 := Blk.frozen K_r.out 1
          have r2 := (Blk.cell K_r.out 2).trans (rfl : _ = some (Value.int .i64 0))
          have rf2 := Blk.frozen K_r.out 2
          have r3 := (Blk.cell K_r.out 3).trans (rfl : _ = some (Value.int .i64 0))
          have rf3 := Blk.frozen K_r.out 3
          go_wp2_with fail
          have rc0 := (Blk.cell ((((K_r.out.set_ 0 (.int .i64 (a : Int))).set_ 1 (.int .i64 0)).set_ 2 (.int .i64 (e1 : Int))).set_ 3 (.int .i64 (d : Int))) 0).trans (rfl : _ = some (Value.int .i64 (a : Int)))
          have rc1 := (Blk.cell ((((K_r.out.set_ 0 (.int .i64 (a : Int))).set_ 1 (.int .i64 0)).set_ 2 (.int .i64 (e1 : Int))).set_ 3 (.int .i64 (d : Int))) 1).trans (rfl : _ = some (Value.int .i64 0))
          have rc2 := (Blk.cell ((((K_r.out.set_ 0 (.int .i64 (a : Int))).set_ 1 (.int .i64 0)).set_ 2 (.int .i64 (e1 : Int))).set_ 3 (.int .i64 (d : Int))) 2).trans (rfl : _ = some (Value.int .i64 (e1 : Int)))
          have rc3 := (Blk.cell ((((K_r.out.set_ 0 (.int .i64 (a : Int))).set_ 1 (.int .i64 0)).set_ 2 (.int .i64 (e1 : Int))).set_ 3 (.int .i64 (d : Int))) 3).trans (rfl : _ = some (Value.int .i64 (d : Int)))
          exact bodyPost_ret (v := .agg #[.int .i64 (a : Int), .int .i64 0, .int .i64 (e1 : Int), .int .i64 (d : Int)]) (by simp [results, Tryz.results95, go_sem, rc0, rc1, rc2, rc3]) rfl ⟨rfl, ((((HB.out.setCell (p := ⟨(w.heap.size + 1), 0, none⟩) (by show w.heap.size ≤ (w.heap.size + 1); omega) (.int .i64 (a : Int))).setCell (p := ⟨(w.heap.size + 1), 1, none⟩) (by show w.heap.size ≤ (w.heap.size + 1); omega) (.int .i64 0)).setCell (p := ⟨(w.heap.size + 1), 2, none⟩) (by show w.heap.size ≤ (w.heap.size + 1); omega) (.int .i64 (e1 : Int))).setCell (p := ⟨(w.heap.size + 1), 3, none⟩) (by show w.heap.size ≤ (w.heap.size + 1); omega) (.int .i64 (d : Int)))⟩
        )
      · rw [decide_eq_true hg] at hand
        obtain ⟨l2, hl2⟩ : ∃ x, 2 * c = x := ⟨_, rfl⟩
        obtain ⟨e1, he1⟩ : ∃ x, l2 = x := ⟨_, rfl⟩
        have hln : lastN c false = e1 := by
          unfold lastN
          simp only [Bool.false_eq_true, if_false, Nat.add_zero, hl2]
          rw [if_neg (by omega)]; exact he1
        have hr : normalP ⟨a, b, c, d⟩ false = ⟨a, 0, e1, d⟩ := by
          unfold normalP
          simp only [hln]
          rw [if_neg (by rintro ⟨_, h⟩; exact h hg)]
          simp
        rw [hr]
        have hw0 : IntKind.i64.wrap (2 * (c : Int)) = ((2 * c : Nat) : Int) := (IntWalk.i64_in _ (by omega)).trans (by omega)
        have hw1 : IntKind.i64.wrap (((2 * c : Nat) : Int) + 0) = (l2 : Int) := (IntWalk.i64_in _ (by omega)).trans (by omega)
        have hw1b : IntKind.i64.wrap ((2 * c : Nat) : Int) = (l2 : Int) := (IntWalk.i64_in _ (by omega)).trans (by omega)
        have hbg : ¬ 32 ≤ l2 := by omega
        obtain ⟨cc, hcc⟩ : ∃ x, 2 * c = x := ⟨_, rfl⟩
        rw [hcc] at hw0 hw1 hw1b
        have HCC := hide hcc
        have HL2 := hide hl2
        have HE1 := hide he1
        clear hr hln hg hcc hl2 he1
        have HB := allocs_below w [.cells #[.int .i64 (a : Int), .int .i64 (b : Int), .int .i64 (c : Int), .int .i64 (d : Int)] 105, .cells #[.int .i64 0, .int .i64 0, .int .i64 0, .int .i64 0] 105]
        have K_p : Blk (allocs w [.cells #[.int .i64 (a : Int), .int .i64 (b : Int), .int .i64 (c : Int), .int .i64 (d : Int)] 105, .cells #[.int .i64 0, .int .i64 0, .int .i64 0, .int .i64 0] 105]) (w.heap.size + 0) 105 #[.int .i64 (a : Int), .int .i64 (b : Int), .int .i64 (c : Int), .int .i64 (d : Int)] := allocs_at w [.cells #[.int .i64 (a : Int), .int .i64 (b : Int), .int .i64 (c : Int), .int .i64 (d : Int)] 105, .cells #[.int .i64 0, .int .i64 0, .int .i64 0, .int .i64 0] 105] 0 rfl
        have K_r : Blk (allocs w [.cells #[.int .i64 (a : Int), .int .i64 (b : Int), .int .i64 (c : Int), .int .i64 (d : Int)] 105, .cells #[.int .i64 0, .int .i64 0, .int .i64 0, .int .i64 0] 105]) (w.heap.size + 1) 105 #[.int .i64 0, .int .i64 0, .int .i64 0, .int .i64 0] := allocs_at w [.cells #[.int .i64 (a : Int), .int .i64 (b : Int), .int .i64 (c : Int), .int .i64 (d : Int)] 105, .cells #[.int .i64 0, .int .i64 0, .int .i64 0, .int .i64 0] 105] 1 rfl
        unfold allocs at HB K_p K_r
        simp only [List.foldl_cons, List.foldl_nil] at HB K_p K_r
        rw [Nat.add_zero] at K_p
        go_enter Tryz.func95, Tryz.ntmps95
        go_upto_region 1 with (fail)
        generalize ((w.alloc (.cells #[.int .i64 (a : Int), .int .i64 (b : Int), .int .i64 (c : Int), .int .i64 (d : Int)] 105)).alloc (.cells #[.int .i64 0, .int .i64 0, .int .i64 0, .int .i64 0] 105)) = w0 at *
        replace K_p := hide K_p
        replace K_r := hide K_r
        replace HB := hide HB
        have p0 := (Blk.cell K_p.out 0).trans (rfl : _ = some (Value.int .i64 (a : Int)))
        have p1 := (Blk.cell K_p.out 1).trans (rfl : _ = some (Value.int .i64 (b : Int)))
        have p2 := (Blk.cell K_p.out 2).trans (rfl : _ = some (Value.int .i64 (c : Int)))
        have p3 := (Blk.cell K_p.out 3).trans (rfl : _ = some (Value.int .i64 (d : Int)))
        have pf2 := Blk.frozen K_p.out 2
        go_upto_region 4 with (fail)
        go_region_with (go_at_call 135; refine (bit_zero _).mono ?_; rintro e wb ⟨rfl, hwb2⟩; subst hwb2)
        all_goals (
          clear p0 p1 p2 p3 pf2
          replace K_r := K_r.out.far (p := ⟨w.heap.size, 2, none⟩) (by show (w.heap.size + 1) ≠ w.heap.size; omega) (.int .i64 (l2 : Int))
          replace K_p : Blk (w0.setCell ⟨w.heap.size, 2, none⟩ (.int .i64 (l2 : Int))) w.heap.size 105 #[.int .i64 (a : Int), .int .i64 (b : Int), .int .i64 (l2 : Int), .int .i64 (d : Int)] := K_p.out.set_ 2 (.int .i64 (l2 : Int))
          replace HB := HB.out.setCell (p := ⟨w.heap.size, 2, none⟩) (by show w.heap.size ≤ w.heap.size; omega) (.int .i64 (l2 : Int))
          generalize w0.setCell ⟨w.heap.size, 2, none⟩ (.int .i64 (l2 : Int)) = w1 at *
          replace K_p := hide K_p
          replace K_r := hide K_r
          replace HB := hide HB
          replace K_p := K_p.out.drew
          replace K_r := K_r.out.drew
          replace HB := HB.out.drew
          generalize w1.drew = w2 at *
          replace K_p := hide K_p
          replace K_r := hide K_r
          replace HB := hide HB
          have p0 := (Blk.cell K_p.out 0).trans (rfl : _ = some (Value.int .i64 (a : Int)))
          have p1 := (Blk.cell K_p.out 1).trans (rfl : _ = some (Value.int .i64 (b : Int)))
          have p2 := (Blk.cell K_p.out 2).trans (rfl : _ = some (Value.int .i64 (l2 : Int)))
          have p3 := (Blk.cell K_p.out 3).trans (rfl : _ = some (Value.int .i64 (d : Int)))
          have pf1 := Blk.frozen K_p.out 1
          go_upto_region 9 with (fail)
          clear p0 p1 p2 p3 pf1
          replace K_r := K_r.out.far (p := ⟨w.heap.size, 1, none⟩) (by show (w.heap.size + 1) ≠ w.heap.size; omega) (.int .i64 0)
          replace K_p : Blk (w2.setCell ⟨w.heap.size, 1, none⟩ (.int .i64 0)) w.heap.size 105 #[.int .i64 (a : Int), .int .i64 0, .int .i64 (l2 : Int), .int .i64 (d : Int)] := K_p.out.set_ 1 (.int .i64 0)
          replace HB := HB.out.setCell (p := ⟨w.heap.size, 1, none⟩) (by show w.heap.size ≤ w.heap.size; omega) (.int .i64 0)
          generalize w2.setCell ⟨w.heap.size, 1, none⟩ (.int .i64 0) = w4 at *
          replace K_p := hide K_p
          replace K_r := hide K_r
          replace HB := hide HB
          obtain rfl : l2 = e1 := HE1.out
          have p0 := (Blk.cell K_p.out 0).trans (rfl : _ = some (Value.int .i64 (a : Int)))
          have p1 := (Blk.cell K_p.out 1).trans (rfl : _ = some (Value.int .i64 0))
          have p2 := (Blk.cell K_p.out 2).trans (rfl : _ = some (Value.int .i64 (l2 : Int)))
          have p3 := (Blk.cell K_p.out 3).trans (rfl : _ = some (Value.int .i64 (d : Int)))
          have r0 := (Blk.cell K_r.out 0).trans (rfl : _ = some (Value.int .i64 0))
          have rf0 := Blk.frozen K_r.out 0
          have r1 := (Blk.cell K_r.out 1).trans (rfl : _ = some (Value.int .i64 0))
          have rf1 := Blk.frozen K_r.out 1
          have r2 := (Blk.cell K_r.out 2).trans (rfl : _ = some (Value.int .i64 0))
          have rf2 := Blk.frozen K_r.out 2
          have r3 := (Blk.cell K_r.out 3).trans (rfl : _ = some (Value.int .i64 0))
          have rf3 := Blk.frozen K_r.out 3
          go_wp2_with fail
          have rc0 := (Blk.cell ((((K_r.out.set_ 0 (.int .i64 (a : Int))).set_ 1 (.int .i64 0)).set_ 2 (.int .i64 (l2 : Int))).set_ 3 (.int .i64 (d : Int))) 0).trans (rfl : _ = some (Value.int .i64 (a : Int)))
          have rc1 := (Blk.cell ((((K_r.out.set_ 0 (.int .i64 (a : Int))).set_ 1 (.int .i64 0)).set_ 2 (.int .i64 (l2 : Int))).set_ 3 (.int .i64 (d : Int))) 1).trans (rfl : _ = some (Value.int .i64 0))
          have rc2 := (Blk.cell ((((K_r.out.set_ 0 (.int .i64 (a : Int))).set_ 1 (.int .i64 0)).set_ 2 (.int .i64 (l2 : Int))).set_ 3 (.int .i64 (d : Int))) 2).trans (rfl : _ = some (Value.int .i64 (l2 : Int)))
          have rc3 := (Blk.cell ((((K_r.out.set_ 0 (.int .i64 (a : Int))).set_ 1 (.int .i64 0)).set_ 2 (.int .i64 (l2 : Int))).set_ 3 (.int .i64 (d : Int))) 3).trans (rfl : _ = some (Value.int .i64 (d : Int)))
          exact bodyPost_ret (v := .agg #[.int .i64 (a : Int), .int .i64 0, .int .i64 (l2 : Int), .int .i64 (d : Int)]) (by simp [results, Tryz.results95, go_sem, rc0, rc1, rc2, rc3]) rfl ⟨rfl, ((((HB.out.setCell (p := ⟨(w.heap.size + 1), 0, none⟩) (by show w.heap.size ≤ (w.heap.size + 1); omega) (.int .i64 (a : Int))).setCell (p := ⟨(w.heap.size + 1), 1, none⟩) (by show w.heap.size ≤ (w.heap.size + 1); omega) (.int .i64 0)).setCell (p := ⟨(w.heap.size + 1), 2, none⟩) (by show w.heap.size ≤ (w.heap.size + 1); omega) (.int .i64 (l2 : Int))).setCell (p := ⟨(w.heap.size + 1), 3, none⟩) (by show w.heap.size ≤ (w.heap.size + 1); omega) (.int .i64 (d : Int)))⟩
        )
    · rw [decide_eq_false hg] at hand
      have hr : normalP ⟨a, b, c, d⟩ false = begunP 1 := by unfold normalP; rw [if_pos ⟨rfl, hg⟩]
      rw [hr]
      clear hr hg
      have HB := allocs_below w [.cells #[.int .i64 (a : Int), .int .i64 (b : Int), .int .i64 (c : Int), .int .i64 (d : Int)] 105, .cells #[.int .i64 0, .int .i64 0, .int .i64 0, .int .i64 0] 105]
      have K_p : Blk (allocs w [.cells #[.int .i64 (a : Int), .int .i64 (b : Int), .int .i64 (c : Int), .int .i64 (d : Int)] 105, .cells #[.int .i64 0, .int .i64 0, .int .i64 0, .int .i64 0] 105]) (w.heap.size + 0) 105 #[.int .i64 (a : Int), .int .i64 (b : Int), .int .i64 (c : Int), .int .i64 (d : Int)] := allocs_at w [.cells #[.int .i64 (a : Int), .int .i64 (b : Int), .int .i64 (c : Int), .int .i64 (d : Int)] 105, .cells #[.int .i64 0, .int .i64 0, .int .i64 0, .int .i64 0] 105] 0 rfl
      have K_r : Blk (allocs w [.cells #[.int .i64 (a : Int), .int .i64 (b : Int), .int .i64 (c : Int), .int .i64 (d : Int)] 105, .cells #[.int .i64 0, .int .i64 0, .int .i64 0, .int .i64 0] 105]) (w.heap.size + 1) 105 #[.int .i64 0, .int .i64 0, .int .i64 0, .int .i64 0] := allocs_at w [.cells #[.int .i64 (a : Int), .int .i64 (b : Int), .int .i64 (c : Int), .int .i64 (d : Int)] 105, .cells #[.int .i64 0, .int .i64 0, .int .i64 0, .int .i64 0] 105] 1 rfl
      unfold allocs at HB K_p K_r
      simp only [List.foldl_cons, List.foldl_nil] at HB K_p K_r
      rw [Nat.add_zero] at K_p
      go_enter Tryz.func95, Tryz.ntmps95
      go_upto_region 1 with (fail)
      generalize ((w.alloc (.cells #[.int .i64 (a : Int), .int .i64 (b : Int), .int .i64 (c : Int), .int .i64 (d : Int)] 105)).alloc (.cells #[.int .i64 0, .int .i64 0, .int .i64 0, .int .i64 0] 105)) = w0 at *
      replace K_p := hide K_p
      replace K_r := hide K_r
      replace HB := hide HB
      have p0 := (Blk.cell K_p.out 0).trans (rfl : _ = some (Value.int .i64 (a : Int)))
      have p1 := (Blk.cell K_p.out 1).trans (rfl : _ = some (Value.int .i64 (b : Int)))
      have p2 := (Blk.cell K_p.out 2).trans (rfl : _ = some (Value.int .i64 (c : Int)))
      have p3 := (Blk.cell K_p.out 3).trans (rfl : _ = some (Value.int .i64 (d : Int)))
      go_wp2_with fail
      refine (begun_any _ 1).mono ?_
      rintro e wb ⟨rfl, hb⟩
      clear p0 p1 p2 p3
      replace K_p := hide (Blk.below K_p.out hb (Blk.lt K_p.out))
      replace K_r := hide (Blk.below K_r.out hb (Blk.lt K_r.out))
      replace HB := hide (HB.out.trans (hb.mono HB.out.size))
      clear hb
      have r0 := (Blk.cell K_r.out 0).trans (rfl : _ = some (Value.int .i64 0))
      have rf0 := Blk.frozen K_r.out 0
      have r1 := (Blk.cell K_r.out 1).trans (rfl : _ = some (Value.int .i64 0))
      have rf1 := Blk.frozen K_r.out 1
      have r2 := (Blk.cell K_r.out 2).trans (rfl : _ = some (Value.int .i64 0))
      have rf2 := Blk.frozen K_r.out 2
      have r3 := (Blk.cell K_r.out 3).trans (rfl : _ = some (Value.int .i64 0))
      have rf3 := Blk.frozen K_r.out 3
      go_wp2_with fail
      have rc0 := (Blk.cell ((((K_r.out.set_ 0 (.int .i64 1)).set_ 1 (.int .i64 0)).set_ 2 (.int .i64 1)).set_ 3 (.int .i64 0)) 0).trans (rfl : _ = some (Value.int .i64 1))
      have rc1 := (Blk.cell ((((K_r.out.set_ 0 (.int .i64 1)).set_ 1 (.int .i64 0)).set_ 2 (.int .i64 1)).set_ 3 (.int .i64 0)) 1).trans (rfl : _ = some (Value.int .i64 0))
      have rc2 := (Blk.cell ((((K_r.out.set_ 0 (.int .i64 1)).set_ 1 (.int .i64 0)).set_ 2 (.int .i64 1)).set_ 3 (.int .i64 0)) 2).trans (rfl : _ = some (Value.int .i64 1))
      have rc3 := (Blk.cell ((((K_r.out.set_ 0 (.int .i64 1)).set_ 1 (.int .i64 0)).set_ 2 (.int .i64 1)).set_ 3 (.int .i64 0)) 3).trans (rfl : _ = some (Value.int .i64 0))
      exact bodyPost_ret (v := .agg #[.int .i64 1, .int .i64 0, .int .i64 1, .int .i64 0]) (by simp [results, Tryz.results95, go_sem, rc0, rc1, rc2, rc3]) rfl ⟨rfl, ((((HB.out.setCell (p := ⟨(w.heap.size + 1), 0, none⟩) (by show w.heap.size ≤ (w.heap.size + 1); omega) (.int .i64 1)).setCell (p := ⟨(w.heap.size + 1), 1, none⟩) (by show w.heap.size ≤ (w.heap.size + 1); omega) (.int .i64 0)).setCell (p := ⟨(w.heap.size + 1), 2, none⟩) (by show w.heap.size ≤ (w.heap.size + 1); omega) (.int .i64 1)).setCell (p := ⟨(w.heap.size + 1), 3, none⟩) (by show w.heap.size ≤ (w.heap.size + 1); omega) (.int .i64 0))⟩
  | true =>
    by_cases hg : c &&& (c + 1) = 0
    · by_cases hbb : 32 ≤ 2 * c + 1
      · by_cases ht : b + 1 = 10
        · rw [decide_eq_true hg] at hand
          obtain ⟨l2, hl2⟩ : ∃ x, 2 * c + 1 = x := ⟨_, rfl⟩
          obtain ⟨e1, he1⟩ : ∃ x, 16 + l2 % 16 = x := ⟨_, rfl⟩
          have hln : lastN c true = e1 := by
            unfold lastN
            simp only [if_true, hl2]
            rw [if_pos (by omega)]; exact he1
          have hr : normalP ⟨a, b, c, d⟩ true = begunP 2 := by
            unfold normalP
            simp only [hln]
            rw [if_neg (by simp), if_neg (by simp), if_pos (by omega)]
          rw [hr]
          have hw0 : IntKind.i64.wrap (2 * (c : Int)) = ((2 * c : Nat) : Int) := (IntWalk.i64_in _ (by omega)).trans (by omega)
          have hw1 : IntKind.i64.wrap (((2 * c : Nat) : Int) + 1) = (l2 : Int) := (IntWalk.i64_in _ (by omega)).trans (by omega)
          have hbg : 32 ≤ l2 := by omega
          have hm1 : (l2 : Int).tmod 16 = ((l2 % 16 : Nat) : Int) := by rw [Int.tmod_eq_emod_of_nonneg (by omega)]; omega
          have hm2 : (l2 : Int) % 16 = ((l2 % 16 : Nat) : Int) := by omega
          obtain ⟨l3, hl3⟩ : ∃ x, l2 % 16 = x := ⟨_, rfl⟩
          rw [hl3] at hm1 hm2
          have hw3 : IntKind.i64.wrap (16 + (l3 : Int)) = (e1 : Int) := (IntWalk.i64_in _ (by omega)).trans (by omega)
          have hw3b : IntKind.i64.wrap (l3 : Int) = (l3 : Int) := IntWalk.i64_in _ (by omega)
          have HL3 := hide hl3
          clear hl3
          obtain ⟨cc, hcc⟩ : ∃ x, 2 * c = x := ⟨_, rfl⟩
          rw [hcc] at hw0 hw1
          have HCC := hide hcc
          have HL2 := hide hl2
          have HE1 := hide he1
          clear hr hln hg hcc hl2 he1
          have hwb : IntKind.i64.wrap ((b : Int) + 1) = ((b + 1 : Nat) : Int) := (IntWalk.i64_in _ (by omega)).trans (by omega)
          obtain ⟨b1, hb1⟩ : ∃ x, b + 1 = x := ⟨_, rfl⟩
          rw [hb1] at hwb
          obtain rfl : b1 = 10 := by omega
          have HB1 := hide hb1
          clear hb1
          have HB := allocs_below w [.cells #[.int .i64 (a : Int), .int .i64 (b : Int), .int .i64 (c : Int), .int .i64 (d : Int)] 105, .cells #[.int .i64 0, .int .i64 0, .int .i64 0, .int .i64 0] 105]
          have K_p : Blk (allocs w [.cells #[.int .i64 (a : Int), .int .i64 (b : Int), .int .i64 (c : Int), .int .i64 (d : Int)] 105, .cells #[.int .i64 0, .int .i64 0, .int .i64 0, .int .i64 0] 105]) (w.heap.size + 0) 105 #[.int .i64 (a : Int), .int .i64 (b : Int), .int .i64 (c : Int), .int .i64 (d : Int)] := allocs_at w [.cells #[.int .i64 (a : Int), .int .i64 (b : Int), .int .i64 (c : Int), .int .i64 (d : Int)] 105, .cells #[.int .i64 0, .int .i64 0, .int .i64 0, .int .i64 0] 105] 0 rfl
          have K_r : Blk (allocs w [.cells #[.int .i64 (a : Int), .int .i64 (b : Int), .int .i64 (c : Int), .int .i64 (d : Int)] 105, .cells #[.int .i64 0, .int .i64 0, .int .i64 0, .int .i64 0] 105]) (w.heap.size + 1) 105 #[.int .i64 0, .int .i64 0, .int .i64 0, .int .i64 0] := allocs_at w [.cells #[.int .i64 (a : Int), .int .i64 (b : Int), .int .i64 (c : Int), .int .i64 (d : Int)] 105, .cells #[.int .i64 0, .int .i64 0, .int .i64 0, .int .i64 0] 105] 1 rfl
          unfold allocs at HB K_p K_r
          simp only [List.foldl_cons, List.foldl_nil] at HB K_p K_r
          rw [Nat.add_zero] at K_p
          go_enter Tryz.func95, Tryz.ntmps95
          go_upto_region 1 with (fail)
          generalize ((w.alloc (.cells #[.int .i64 (a : Int), .int .i64 (b : Int), .int .i64 (c : Int), .int .i64 (d : Int)] 105)).alloc (.cells #[.int .i64 0, .int .i64 0, .int .i64 0, .int .i64 0] 105)) = w0 at *
          replace K_p := hide K_p
          replace K_r := hide K_r
          replace HB := hide HB
          have p0 := (Blk.cell K_p.out 0).trans (rfl : _ = some (Value.int .i64 (a : Int)))
          have p1 := (Blk.cell K_p.out 1).trans (rfl : _ = some (Value.int .i64 (b : Int)))
          have p2 := (Blk.cell K_p.out 2).trans (rfl : _ = some (Value.int .i64 (c : Int)))
          have p3 := (Blk.cell K_p.out 3).trans (rfl : _ = some (Value.int .i64 (d : Int)))
          have pf2 := Blk.frozen K_p.out 2
          go_upto_region 4 with (fail)
          go_region_with (go_at_call 135; refine (bit_one _).mono ?_; rintro e wb ⟨rfl, hwb2⟩; subst hwb2)
          all_goals (
            clear p0 p1 p2 p3 pf2
            replace K_r := K_r.out.far (p := ⟨w.heap.size, 2, none⟩) (by show (w.heap.size + 1) ≠ w.heap.size; omega) (.int .i64 (l2 : Int))
            replace K_p : Blk (w0.setCell ⟨w.heap.size, 2, none⟩ (.int .i64 (l2 : Int))) w.heap.size 105 #[.int .i64 (a : Int), .int .i64 (b : Int), .int .i64 (l2 : Int), .int .i64 (d : Int)] := K_p.out.set_ 2 (.int .i64 (l2 : Int))
            replace HB := HB.out.setCell (p := ⟨w.heap.size, 2, none⟩) (by show w.heap.size ≤ w.heap.size; omega) (.int .i64 (l2 : Int))
            generalize w0.setCell ⟨w.heap.size, 2, none⟩ (.int .i64 (l2 : Int)) = w1 at *
            replace K_p := hide K_p
            replace K_r := hide K_r
            replace HB := hide HB
            replace K_p := K_p.out.drew
            replace K_r := K_r.out.drew
            replace HB := HB.out.drew
            generalize w1.drew = w2 at *
            replace K_p := hide K_p
            replace K_r := hide K_r
            replace HB := hide HB
            have p0 := (Blk.cell K_p.out 0).trans (rfl : _ = some (Value.int .i64 (a : Int)))
            have p1 := (Blk.cell K_p.out 1).trans (rfl : _ = some (Value.int .i64 (b : Int)))
            have p2 := (Blk.cell K_p.out 2).trans (rfl : _ = some (Value.int .i64 (l2 : Int)))
            have p3 := (Blk.cell K_p.out 3).trans (rfl : _ = some (Value.int .i64 (d : Int)))
            have pf2 := Blk.frozen K_p.out 2
            go_upto_region 7 with (fail)
            clear p0 p1 p2 p3 pf2
            replace K_r := K_r.out.far (p := ⟨w.heap.size, 2, none⟩) (by show (w.heap.size + 1) ≠ w.heap.size; omega) (.int .i64 (e1 : Int))
            replace K_p : Blk (w2.setCell ⟨w.heap.size, 2, none⟩ (.int .i64 (e1 : Int))) w.heap.size 105 #[.int .i64 (a : Int), .int .i64 (b : Int), .int .i64 (e1 : Int), .int .i64 (d : Int)] := K_p.out.set_ 2 (.int .i64 (e1 : Int))
            replace HB := HB.out.setCell (p := ⟨w.heap.size, 2, none⟩) (by show w.heap.size ≤ w.heap.size; omega) (.int .i64 (e1 : Int))
            generalize w2.setCell ⟨w.heap.size, 2, none⟩ (.int .i64 (e1 : Int)) = w3 at *
            replace K_p := hide K_p
            replace K_r := hide K_r
            replace HB := hide HB
            have p0 := (Blk.cell K_p.out 0).trans (rfl : _ = some (Value.int .i64 (a : Int)))
            have p1 := (Blk.cell K_p.out 1).trans (rfl : _ = some (Value.int .i64 (b : Int)))
            have p2 := (Blk.cell K_p.out 2).trans (rfl : _ = some (Value.int .i64 (e1 : Int)))
            have p3 := (Blk.cell K_p.out 3).trans (rfl : _ = some (Value.int .i64 (d : Int)))
            have pf1 := Blk.frozen K_p.out 1
            go_upto_region 11 with (fail)
            clear p0 p1 p2 p3 pf1
            replace K_r := K_r.out.far (p := ⟨w.heap.size, 1, none⟩) (by show (w.heap.size + 1) ≠ w.heap.size; omega) (.int .i64 10)
            replace K_p : Blk (w3.setCell ⟨w.heap.size, 1, none⟩ (.int .i64 10)) w.heap.size 105 #[.int .i64 (a : Int), .int .i64 10, .int .i64 (e1 : Int), .int .i64 (d : Int)] := K_p.out.set_ 1 (.int .i64 10)
            replace HB := HB.out.setCell (p := ⟨w.heap.size, 1, none⟩) (by show w.heap.size ≤ w.heap.size; omega) (.int .i64 10)
            generalize w3.setCell ⟨w.heap.size, 1, none⟩ (.int .i64 10) = w4 at *
            replace K_p := hide K_p
            replace K_r := hide K_r
            replace HB := hide HB
            have p0 := (Blk.cell K_p.out 0).trans (rfl : _ = some (Value.int .i64 (a : Int)))
            have p1 := (Blk.cell K_p.out 1).trans (rfl : _ = some (Value.int .i64 10))
            have p2 := (Blk.cell K_p.out 2).trans (rfl : _ = some (Value.int .i64 (e1 : Int)))
            have p3 := (Blk.cell K_p.out 3).trans (rfl : _ = some (Value.int .i64 (d : Int)))
            go_wp2_with fail
            refine (begun_any _ 2).mono ?_
            rintro e wb ⟨rfl, hb⟩
            clear p0 p1 p2 p3
            replace K_p := hide (Blk.below K_p.out hb (Blk.lt K_p.out))
            replace K_r := hide (Blk.below K_r.out hb (Blk.lt K_r.out))
            replace HB := hide (HB.out.trans (hb.mono HB.out.size))
            clear hb
            have r0 := (Blk.cell K_r.out 0).trans (rfl : _ = some (Value.int .i64 0))
            have rf0 := Blk.frozen K_r.out 0
            have r1 := (Blk.cell K_r.out 1).trans (rfl : _ = some (Value.int .i64 0))
            have rf1 := Blk.frozen K_r.out 1
            have r2 := (Blk.cell K_r.out 2).trans (rfl : _ = some (Value.int .i64 0))
            have rf2 := Blk.frozen K_r.out 2
            have r3 := (Blk.cell K_r.out 3).trans (rfl : _ = some (Value.int .i64 0))
            have rf3 := Blk.frozen K_r.out 3
            go_wp2_with fail
            have rc0 := (Blk.cell ((((K_r.out.set_ 0 (.int .i64 2)).set_ 1 (.int .i64 0)).set_ 2 (.int .i64 1)).set_ 3 (.int .i64 0)) 0).trans (rfl : _ = some (Value.int .i64 2))
            have rc1 := (Blk.cell ((((K_r.out.set_ 0 (.int .i64 2)).set_ 1 (.int .i64 0)).set_ 2 (.int .i64 1)).set_ 3 (.int .i64 0)) 1).trans (rfl : _ = some (Value.int .i64 0))
            have rc2 := (Blk.cell ((((K_r.out.set_ 0 (.int .i64 2)).set_ 1 (.int .i64 0)).set_ 2 (.int .i64 1)).set_ 3 (.int .i64 0)) 2).trans (rfl : _ = some (Value.int .i64 1))
            have rc3 := (Blk.cell ((((K_r.out.set_ 0 (.int .i64 2)).set_ 1 (.int .i64 0)).set_ 2 (.int .i64 1)).set_ 3 (.int .i64 0)) 3).trans (rfl : _ = some (Value.int .i64 0))
            exact bodyPost_ret (v := .agg #[.int .i64 2, .int .i64 0, .int .i64 1, .int .i64 0]) (by simp [results, Tryz.results95, go_sem, rc0, rc1, rc2, rc3]) rfl ⟨rfl, ((((HB.out.setCell (p := ⟨(w.heap.size + 1), 0, none⟩) (by show w.heap.size ≤ (w.heap.size + 1); omega) (.int .i64 2)).setCell (p := ⟨(w.heap.size + 1), 1, none⟩) (by show w.heap.size ≤ (w.heap.size + 1); omega) (.int .i64 0)).setCell (p := ⟨(w.heap.size + 1), 2, none⟩) (by show w.heap.size ≤ (w.heap.size + 1); omega) (.int .i64 1)).setCell (p := ⟨(w.heap.size + 1), 3, none⟩) (by show w.heap.size ≤ (w.heap.size + 1); omega) (.int .i64 0))⟩
          )
        · rw [decide_eq_true hg] at hand
          obtain ⟨l2, hl2⟩ : ∃ x, 2 * c + 1 = x := ⟨_, rfl⟩
          obtain ⟨e1, he1⟩ : ∃ x, 16 + l2 % 16 = x := ⟨_, rfl⟩
          have hln : lastN c true = e1 := by
            unfold lastN
            simp only [if_true, hl2]
            rw [if_pos (by omega)]; exact he1
          have hr : normalP ⟨a, b, c, d⟩ true = ⟨a, b + 1, e1, d⟩ := by
            unfold normalP
            simp only [hln]
            rw [if_neg (by simp), if_neg (by simp), if_neg (by omega)]
          rw [hr]
          have hw0 : IntKind.i64.wrap (2 * (c : Int)) = ((2 * c : Nat) : Int) := (IntWalk.i64_in _ (by omega)).trans (by omega)
          have hw1 : IntKind.i64.wrap (((2 * c : Nat) : Int) + 1) = (l2 : Int) := (IntWalk.i64_in _ (by omega)).trans (by omega)
          have hbg : 32 ≤ l2 := by omega
          have hm1 : (l2 : Int).tmod 16 = ((l2 % 16 : Nat) : Int) := by rw [Int.tmod_eq_emod_of_nonneg (by omega)]; omega
          have hm2 : (l2 : Int) % 16 = ((l2 % 16 : Nat) : Int) := by omega
          obtain ⟨l3, hl3⟩ : ∃ x, l2 % 16 = x := ⟨_, rfl⟩
          rw [hl3] at hm1 hm2
          have hw3 : IntKind.i64.wrap (16 + (l3 : Int)) = (e1 : Int) := (IntWalk.i64_in _ (by omega)).trans (by omega)
          have hw3b : IntKind.i64.wrap (l3 : Int) = (l3 : Int) := IntWalk.i64_in _ (by omega)
          have HL3 := hide hl3
          clear hl3
          obtain ⟨cc, hcc⟩ : ∃ x, 2 * c = x := ⟨_, rfl⟩
          rw [hcc] at hw0 hw1
          have HCC := hide hcc
          have HL2 := hide hl2
          have HE1 := hide he1
          clear hr hln hg hcc hl2 he1
          have hwb : IntKind.i64.wrap ((b : Int) + 1) = ((b + 1 : Nat) : Int) := (IntWalk.i64_in _ (by omega)).trans (by omega)
          obtain ⟨b1, hb1⟩ : ∃ x, b + 1 = x := ⟨_, rfl⟩
          rw [hb1] at hwb
          have hn10 : ((b1 : Int) == 10) = false := by simp; omega
          have HB1 := hide hb1
          rw [hb1]
          clear hb1
          have HB := allocs_below w [.cells #[.int .i64 (a : Int), .int .i64 (b : Int), .int .i64 (c : Int), .int .i64 (d : Int)] 105, .cells #[.int .i64 0, .int .i64 0, .int .i64 0, .int .i64 0] 105]
          have K_p : Blk (allocs w [.cells #[.int .i64 (a : Int), .int .i64 (b : Int), .int .i64 (c : Int), .int .i64 (d : Int)] 105, .cells #[.int .i64 0, .int .i64 0, .int .i64 0, .int .i64 0] 105]) (w.heap.size + 0) 105 #[.int .i64 (a : Int), .int .i64 (b : Int), .int .i64 (c : Int), .int .i64 (d : Int)] := allocs_at w [.cells #[.int .i64 (a : Int), .int .i64 (b : Int), .int .i64 (c : Int), .int .i64 (d : Int)] 105, .cells #[.int .i64 0, .int .i64 0, .int .i64 0, .int .i64 0] 105] 0 rfl
          have K_r : Blk (allocs w [.cells #[.int .i64 (a : Int), .int .i64 (b : Int), .int .i64 (c : Int), .int .i64 (d : Int)] 105, .cells #[.int .i64 0, .int .i64 0, .int .i64 0, .int .i64 0] 105]) (w.heap.size + 1) 105 #[.int .i64 0, .int .i64 0, .int .i64 0, .int .i64 0] := allocs_at w [.cells #[.int .i64 (a : Int), .int .i64 (b : Int), .int .i64 (c : Int), .int .i64 (d : Int)] 105, .cells #[.int .i64 0, .int .i64 0, .int .i64 0, .int .i64 0] 105] 1 rfl
          unfold allocs at HB K_p K_r
          simp only [List.foldl_cons, List.foldl_nil] at HB K_p K_r
          rw [Nat.add_zero] at K_p
          go_enter Tryz.func95, Tryz.ntmps95
          go_upto_region 1 with (fail)
          generalize ((w.alloc (.cells #[.int .i64 (a : Int), .int .i64 (b : Int), .int .i64 (c : Int), .int .i64 (d : Int)] 105)).alloc (.cells #[.int .i64 0, .int .i64 0, .int .i64 0, .int .i64 0] 105)) = w0 at *
          replace K_p := hide K_p
          replace K_r := hide K_r
          replace HB := hide HB
          have p0 := (Blk.cell K_p.out 0).trans (rfl : _ = some (Value.int .i64 (a : Int)))
          have p1 := (Blk.cell K_p.out 1).trans (rfl : _ = some (Value.int .i64 (b : Int)))
          have p2 := (Blk.cell K_p.out 2).trans (rfl : _ = some (Value.int .i64 (c : Int)))
          have p3 := (Blk.cell K_p.out 3).trans (rfl : _ = some (Value.int .i64 (d : Int)))
          have pf2 := Blk.frozen K_p.out 2
          go_upto_region 4 with (fail)
          go_region_with (go_at_call 135; refine (bit_one _).mono ?_; rintro e wb ⟨rfl, hwb2⟩; subst hwb2)
          all_goals (
            clear p0 p1 p2 p3 pf2
            replace K_r := K_r.out.far (p := ⟨w.heap.size, 2, none⟩) (by show (w.heap.size + 1) ≠ w.heap.size; omega) (.int .i64 (l2 : Int))
            replace K_p : Blk (w0.setCell ⟨w.heap.size, 2, none⟩ (.int .i64 (l2 : Int))) w.heap.size 105 #[.int .i64 (a : Int), .int .i64 (b : Int), .int .i64 (l2 : Int), .int .i64 (d : Int)] := K_p.out.set_ 2 (.int .i64 (l2 : Int))
            replace HB := HB.out.setCell (p := ⟨w.heap.size, 2, none⟩) (by show w.heap.size ≤ w.heap.size; omega) (.int .i64 (l2 : Int))
            generalize w0.setCell ⟨w.heap.size, 2, none⟩ (.int .i64 (l2 : Int)) = w1 at *
            replace K_p := hide K_p
            replace K_r := hide K_r
            replace HB := hide HB
            replace K_p := K_p.out.drew
            replace K_r := K_r.out.drew
            replace HB := HB.out.drew
            generalize w1.drew = w2 at *
            replace K_p := hide K_p
            replace K_r := hide K_r
            replace HB := hide HB
            have p0 := (Blk.cell K_p.out 0).trans (rfl : _ = some (Value.int .i64 (a : Int)))
            have p1 := (Blk.cell K_p.out 1).trans (rfl : _ = some (Value.int .i64 (b : Int)))
            have p2 := (Blk.cell K_p.out 2).trans (rfl : _ = some (Value.int .i64 (l2 : Int)))
            have p3 := (Blk.cell K_p.out 3).trans (rfl : _ = some (Value.int .i64 (d : Int)))
            have pf2 := Blk.frozen K_p.out 2
            go_upto_region 7 with (fail)
            clear p0 p1 p2 p3 pf2
            replace K_r := K_r.out.far (p := ⟨w.heap.size, 2, none⟩) (by show (w.heap.size + 1) ≠ w.heap.size; omega) (.int .i64 (e1 : Int))
            replace K_p : Blk (w2.setCell ⟨w.heap.size, 2, none⟩ (.int .i64 (e1 : Int))) w.heap.size 105 #[.int .i64 (a : Int), .int .i64 (b : Int), .int .i64 (e1 : Int), .int .i64 (d : Int)] := K_p.out.set_ 2 (.int .i64 (e1 : Int))
            replace HB := HB.out.setCell (p := ⟨w.heap.size, 2, none⟩) (by show w.heap.size ≤ w.heap.size; omega) (.int .i64 (e1 : Int))
            generalize w2.setCell ⟨w.heap.size, 2, none⟩ (.int .i64 (e1 : Int)) = w3 at *
            replace K_p := hide K_p
            replace K_r := hide K_r
            replace HB := hide HB
            have p0 := (Blk.cell K_p.out 0).trans (rfl : _ = some (Value.int .i64 (a : Int)))
            have p1 := (Blk.cell K_p.out 1).trans (rfl : _ = some (Value.int .i64 (b : Int)))
            have p2 := (Blk.cell K_p.out 2).trans (rfl : _ = some (Value.int .i64 (e1 : Int)))
            have p3 := (Blk.cell K_p.out 3).trans (rfl : _ = some (Value.int .i64 (d : Int)))
            have pf1 := Blk.frozen K_p.out 1
            go_upto_region 11 with (fail)
            clear p0 p1 p2 p3 pf1
            replace K_r := K_r.out.far (p := ⟨w.heap.size, 1, none⟩) (by show (w.heap.size + 1) ≠ w.heap.size; omega) (.int .i64 (b1 : Int))
            replace K_p : Blk (w3.setCell ⟨w.heap.size, 1, none⟩ (.int .i64 (b1 : Int))) w.heap.size 105 #[.int .i64 (a : Int), .int .i64 (b1 : Int), .int .i64 (e1 : Int), .int .i64 (d : Int)] := K_p.out.set_ 1 (.int .i64 (b1 : Int))
            replace HB := HB.out.setCell (p := ⟨w.heap.size, 1, none⟩) (by show w.heap.size ≤ w.heap.size; omega) (.int .i64 (b1 : Int))
            generalize w3.setCell ⟨w.heap.size, 1, none⟩ (.int .i64 (b1 : Int)) = w4 at *
            replace K_p := hide K_p
            replace K_r := hide K_r
            replace HB := hide HB
            have p0 := (Blk.cell K_p.out 0).trans (rfl : _ = some (Value.int .i64 (a : Int)))
            have p1 := (Blk.cell K_p.out 1).trans (rfl : _ = some (Value.int .i64 (b1 : Int)))
            have p2 := (Blk.cell K_p.out 2).trans (rfl : _ = some (Value.int .i64 (e1 : Int)))
            have p3 := (Blk.cell K_p.out 3).trans (rfl : _ = some (Value.int .i64 (d : Int)))
            have r0 := (Blk.cell K_r.out 0).trans (rfl : _ = some (Value.int .i64 0))
            have rf0 := Blk.frozen K_r.out 0
            have r1 := (Blk.cell K_r.out 1).trans (rfl : _ = some (Value.int .i64 0))
            have rf1 := Blk.frozen K_r.out 1
            have r2 := (Blk.cell K_r.out 2).trans (rfl : _ = some (Value.int .i64 0))
            have rf2 := Blk.frozen K_r.out 2
            have r3 := (Blk.cell K_r.out 3).trans (rfl : _ = some (Value.int .i64 0))
            have rf3 := Blk.frozen K_r.out 3
            go_wp2_with fail
            have rc0 := (Blk.cell ((((K_r.out.set_ 0 (.int .i64 (a : Int))).set_ 1 (.int .i64 (b1 : Int))).set_ 2 (.int .i64 (e1 : Int))).set_ 3 (.int .i64 (d : Int))) 0).trans (rfl : _ = some (Value.int .i64 (a : Int)))
            have rc1 := (Blk.cell ((((K_r.out.set_ 0 (.int .i64 (a : Int))).set_ 1 (.int .i64 (b1 : Int))).set_ 2 (.int .i64 (e1 : Int))).set_ 3 (.int .i64 (d : Int))) 1).trans (rfl : _ = some (Value.int .i64 (b1 : Int)))
            have rc2 := (Blk.cell ((((K_r.out.set_ 0 (.int .i64 (a : Int))).set_ 1 (.int .i64 (b1 : Int))).set_ 2 (.int .i64 (e1 : Int))).set_ 3 (.int .i64 (d : Int))) 2).trans (rfl : _ = some (Value.int .i64 (e1 : Int)))
            have rc3 := (Blk.cell ((((K_r.out.set_ 0 (.int .i64 (a : Int))).set_ 1 (.int .i64 (b1 : Int))).set_ 2 (.int .i64 (e1 : Int))).set_ 3 (.int .i64 (d : Int))) 3).trans (rfl : _ = some (Value.int .i64 (d : Int)))
            exact bodyPost_ret (v := .agg #[.int .i64 (a : Int), .int .i64 (b1 : Int), .int .i64 (e1 : Int), .int .i64 (d : Int)]) (by simp [results, Tryz.results95, go_sem, rc0, rc1, rc2, rc3]) rfl ⟨rfl, ((((HB.out.setCell (p := ⟨(w.heap.size + 1), 0, none⟩) (by show w.heap.size ≤ (w.heap.size + 1); omega) (.int .i64 (a : Int))).setCell (p := ⟨(w.heap.size + 1), 1, none⟩) (by show w.heap.size ≤ (w.heap.size + 1); omega) (.int .i64 (b1 : Int))).setCell (p := ⟨(w.heap.size + 1), 2, none⟩) (by show w.heap.size ≤ (w.heap.size + 1); omega) (.int .i64 (e1 : Int))).setCell (p := ⟨(w.heap.size + 1), 3, none⟩) (by show w.heap.size ≤ (w.heap.size + 1); omega) (.int .i64 (d : Int)))⟩
          )
      · by_cases ht : b + 1 = 10
        · rw [decide_eq_true hg] at hand
          obtain ⟨l2, hl2⟩ : ∃ x, 2 * c + 1 = x := ⟨_, rfl⟩
          obtain ⟨e1, he1⟩ : ∃ x, l2 = x := ⟨_, rfl⟩
          have hln : lastN c true = e1 := by
            unfold lastN
            simp only [if_true, hl2]
            rw [if_neg (by omega)]; exact he1
          have hr : normalP ⟨a, b, c, d⟩ true = begunP 2 := by
            unfold normalP
            simp only [hln]
            rw [if_neg (by simp), if_neg (by simp), if_pos (by omega)]
          rw [hr]
          have hw0 : IntKind.i64.wrap (2 * (c : Int)) = ((2 * c : Nat) : Int) := (IntWalk.i64_in _ (by omega)).trans (by omega)
          have hw1 : IntKind.i64.wrap (((2 * c : Nat) : Int) + 1) = (l2 : Int) := (IntWalk.i64_in _ (by omega)).trans (by omega)
          have hbg : ¬ 32 ≤ l2 := by omega
          obtain ⟨cc, hcc⟩ : ∃ x, 2 * c = x := ⟨_, rfl⟩
          rw [hcc] at hw0 hw1
          have HCC := hide hcc
          have HL2 := hide hl2
          have HE1 := hide he1
          clear hr hln hg hcc hl2 he1
          have hwb : IntKind.i64.wrap ((b : Int) + 1) = ((b + 1 : Nat) : Int) := (IntWalk.i64_in _ (by omega)).trans (by omega)
          obtain ⟨b1, hb1⟩ : ∃ x, b + 1 = x := ⟨_, rfl⟩
          rw [hb1] at hwb
          obtain rfl : b1 = 10 := by omega
          have HB1 := hide hb1
          clear hb1
          have HB := allocs_below w [.cells #[.int .i64 (a : Int), .int .i64 (b : Int), .int .i64 (c : Int), .int .i64 (d : Int)] 105, .cells #[.int .i64 0, .int .i64 0, .int .i64 0, .int .i64 0] 105]
          have K_p : Blk (allocs w [.cells #[.int .i64 (a : Int), .int .i64 (b : Int), .int .i64 (c : Int), .int .i64 (d : Int)] 105, .cells #[.int .i64 0, .int .i64 0, .int .i64 0, .int .i64 0] 105]) (w.heap.size + 0) 105 #[.int .i64 (a : Int), .int .i64 (b : Int), .int .i64 (c : Int), .int .i64 (d : Int)] := allocs_at w [.cells #[.int .i64 (a : Int), .int .i64 (b : Int), .int .i64 (c : Int), .int .i64 (d : Int)] 105, .cells #[.int .i64 0, .int .i64 0, .int .i64 0, .int .i64 0] 105] 0 rfl
          have K_r : Blk (allocs w [.cells #[.int .i64 (a : Int), .int .i64 (b : Int), .int .i64 (c : Int), .int .i64 (d : Int)] 105, .cells #[.int .i64 0, .int .i64 0, .int .i64 0, .int .i64 0] 105]) (w.heap.size + 1) 105 #[.int .i64 0, .int .i64 0, .int .i64 0, .int .i64 0] := allocs_at w [.cells #[.int .i64 (a : Int), .int .i64 (b : Int), .int .i64 (c : Int), .int .i64 (d : Int)] 105, .cells #[.int .i64 0, .int .i64 0, .int .i64 0, .int .i64 0] 105] 1 rfl
          unfold allocs at HB K_p K_r
          simp only [List.foldl_cons, List.foldl_nil] at HB K_p K_r
          rw [Nat.add_zero] at K_p
          go_enter Tryz.func95, Tryz.ntmps95
          go_upto_region 1 with (fail)
          generalize ((w.alloc (.cells #[.int .i64 (a : Int), .int .i64 (b : Int), .int .i64 (c : Int), .int .i64 (d : Int)] 105)).alloc (.cells #[.int .i64 0, .int .i64 0, .int .i64 0, .int .i64 0] 105)) = w0 at *
          replace K_p := hide K_p
          replace K_r := hide K_r
          replace HB := hide HB
          have p0 := (Blk.cell K_p.out 0).trans (rfl : _ = some (Value.int .i64 (a : Int)))
          have p1 := (Blk.cell K_p.out 1).trans (rfl : _ = some (Value.int .i64 (b : Int)))
          have p2 := (Blk.cell K_p.out 2).trans (rfl : _ = some (Value.int .i64 (c : Int)))
          have p3 := (Blk.cell K_p.out 3).trans (rfl : _ = some (Value.int .i64 (d : Int)))
          have pf2 := Blk.frozen K_p.out 2
          go_upto_region 4 with (fail)
          go_region_with (go_at_call 135; refine (bit_one _).mono ?_; rintro e wb ⟨rfl, hwb2⟩; subst hwb2)
          all_goals (
            clear p0 p1 p2 p3 pf2
            replace K_r := K_r.out.far (p := ⟨w.heap.size, 2, none⟩) (by show (w.heap.size + 1) ≠ w.heap.size; omega) (.int .i64 (l2 : Int))
            replace K_p : Blk (w0.setCell ⟨w.heap.size, 2, none⟩ (.int .i64 (l2 : Int))) w.heap.size 105 #[.int .i64 (a : Int), .int .i64 (b : Int), .int .i64 (l2 : Int), .int .i64 (d : Int)] := K_p.out.set_ 2 (.int .i64 (l2 : Int))
            replace HB := HB.out.setCell (p := ⟨w.heap.size, 2, none⟩) (by show w.heap.size ≤ w.heap.size; omega) (.int .i64 (l2 : Int))
            generalize w0.setCell ⟨w.heap.size, 2, none⟩ (.int .i64 (l2 : Int)) = w1 at *
            replace K_p := hide K_p
            replace K_r := hide K_r
            replace HB := hide HB
            replace K_p := K_p.out.drew
            replace K_r := K_r.out.drew
            replace HB := HB.out.drew
            generalize w1.drew = w2 at *
            replace K_p := hide K_p
            replace K_r := hide K_r
            replace HB := hide HB
            have p0 := (Blk.cell K_p.out 0).trans (rfl : _ = some (Value.int .i64 (a : Int)))
            have p1 := (Blk.cell K_p.out 1).trans (rfl : _ = some (Value.int .i64 (b : Int)))
            have p2 := (Blk.cell K_p.out 2).trans (rfl : _ = some (Value.int .i64 (l2 : Int)))
            have p3 := (Blk.cell K_p.out 3).trans (rfl : _ = some (Value.int .i64 (d : Int)))
            have pf1 := Blk.frozen K_p.out 1
            go_upto_region 11 with (fail)
            clear p0 p1 p2 p3 pf1
            replace K_r := K_r.out.far (p := ⟨w.heap.size, 1, none⟩) (by show (w.heap.size + 1) ≠ w.heap.size; omega) (.int .i64 10)
            replace K_p : Blk (w2.setCell ⟨w.heap.size, 1, none⟩ (.int .i64 10)) w.heap.size 105 #[.int .i64 (a : Int), .int .i64 10, .int .i64 (l2 : Int), .int .i64 (d : Int)] := K_p.out.set_ 1 (.int .i64 10)
            replace HB := HB.out.setCell (p := ⟨w.heap.size, 1, none⟩) (by show w.heap.size ≤ w.heap.size; omega) (.int .i64 10)
            generalize w2.setCell ⟨w.heap.size, 1, none⟩ (.int .i64 10) = w4 at *
            replace K_p := hide K_p
            replace K_r := hide K_r
            replace HB := hide HB
            have p0 := (Blk.cell K_p.out 0).trans (rfl : _ = some (Value.int .i64 (a : Int)))
            have p1 := (Blk.cell K_p.out 1).trans (rfl : _ = some (Value.int .i64 10))
            have p2 := (Blk.cell K_p.out 2).trans (rfl : _ = some (Value.int .i64 (l2 : Int)))
            have p3 := (Blk.cell K_p.out 3).trans (rfl : _ = some (Value.int .i64 (d : Int)))
            go_wp2_with fail
            refine (begun_any _ 2).mono ?_
            rintro e wb ⟨rfl, hb⟩
            clear p0 p1 p2 p3
            replace K_p := hide (Blk.below K_p.out hb (Blk.lt K_p.out))
            replace K_r := hide (Blk.below K_r.out hb (Blk.lt K_r.out))
            replace HB := hide (HB.out.trans (hb.mono HB.out.size))
            clear hb
            have r0 := (Blk.cell K_r.out 0).trans (rfl : _ = some (Value.int .i64 0))
            have rf0 := Blk.frozen K_r.out 0
            have r1 := (Blk.cell K_r.out 1).trans (rfl : _ = some (Value.int .i64 0))
            have rf1 := Blk.frozen K_r.out 1
            have r2 := (Blk.cell K_r.out 2).trans (rfl : _ = some (Value.int .i64 0))
            have rf2 := Blk.frozen K_r.out 2
            have r3 := (Blk.cell K_r.out 3).trans (rfl : _ = some (Value.int .i64 0))
            have rf3 := Blk.frozen K_r.out 3
            go_wp2_with fail
            have rc0 := (Blk.cell ((((K_r.out.set_ 0 (.int .i64 2)).set_ 1 (.int .i64 0)).set_ 2 (.int .i64 1)).set_ 3 (.int .i64 0)) 0).trans (rfl : _ = some (Value.int .i64 2))
            have rc1 := (Blk.cell ((((K_r.out.set_ 0 (.int .i64 2)).set_ 1 (.int .i64 0)).set_ 2 (.int .i64 1)).set_ 3 (.int .i64 0)) 1).trans (rfl : _ = some (Value.int .i64 0))
            have rc2 := (Blk.cell ((((K_r.out.set_ 0 (.int .i64 2)).set_ 1 (.int .i64 0)).set_ 2 (.int .i64 1)).set_ 3 (.int .i64 0)) 2).trans (rfl : _ = some (Value.int .i64 1))
            have rc3 := (Blk.cell ((((K_r.out.set_ 0 (.int .i64 2)).set_ 1 (.int .i64 0)).set_ 2 (.int .i64 1)).set_ 3 (.int .i64 0)) 3).trans (rfl : _ = some (Value.int .i64 0))
            exact bodyPost_ret (v := .agg #[.int .i64 2, .int .i64 0, .int .i64 1, .int .i64 0]) (by simp [results, Tryz.results95, go_sem, rc0, rc1, rc2, rc3]) rfl ⟨rfl, ((((HB.out.setCell (p := ⟨(w.heap.size + 1), 0, none⟩) (by show w.heap.size ≤ (w.heap.size + 1); omega) (.int .i64 2)).setCell (p := ⟨(w.heap.size + 1), 1, none⟩) (by show w.heap.size ≤ (w.heap.size + 1); omega) (.int .i64 0)).setCell (p := ⟨(w.heap.size + 1), 2, none⟩) (by show w.heap.size ≤ (w.heap.size + 1); omega) (.int .i64 1)).setCell (p := ⟨(w.heap.size + 1), 3, none⟩) (by show w.heap.size ≤ (w.heap.size + 1); omega) (.int .i64 0))⟩
          )
        · rw [decide_eq_true hg] at hand
          obtain ⟨l2, hl2⟩ : ∃ x, 2 * c + 1 = x := ⟨_, rfl⟩
          obtain ⟨e1, he1⟩ : ∃ x, l2 = x := ⟨_, rfl⟩
          have hln : lastN c true = e1 := by
            unfold lastN
            simp only [if_true, hl2]
            rw [if_neg (by omega)]; exact he1
          have hr : normalP ⟨a, b, c, d⟩ true = ⟨a, b + 1, e1, d⟩ := by
            unfold normalP
            simp only [hln]
            rw [if_neg (by simp), if_neg (by simp), if_neg (by omega)]
          rw [hr]
          have hw0 : IntKind.i64.wrap (2 * (c : Int)) = ((2 * c : Nat) : Int) := (IntWalk.i64_in _ (by omega)).trans (by omega)
          have hw1 : IntKind.i64.wrap (((2 * c : Nat) : Int) + 1) = (l2 : Int) := (IntWalk.i64_in _ (by omega)).trans (by omega)
          have hbg : ¬ 32 ≤ l2 := by omega
          obtain ⟨cc, hcc⟩ : ∃ x, 2 * c = x := ⟨_, rfl⟩
          rw [hcc] at hw0 hw1
          have HCC := hide hcc
          have HL2 := hide hl2
          have HE1 := hide he1
          clear hr hln hg hcc hl2 he1
          have hwb : IntKind.i64.wrap ((b : Int) + 1) = ((b + 1 : Nat) : Int) := (IntWalk.i64_in _ (by omega)).trans (by omega)
          obtain ⟨b1, hb1⟩ : ∃ x, b + 1 = x := ⟨_, rfl⟩
          rw [hb1] at hwb
          have hn10 : ((b1 : Int) == 10) = false := by simp; omega
          have HB1 := hide hb1
          rw [hb1]
          clear hb1
          have HB := allocs_below w [.cells #[.int .i64 (a : Int), .int .i64 (b : Int), .int .i64 (c : Int), .int .i64 (d : Int)] 105, .cells #[.int .i64 0, .int .i64 0, .int .i64 0, .int .i64 0] 105]
          have K_p : Blk (allocs w [.cells #[.int .i64 (a : Int), .int .i64 (b : Int), .int .i64 (c : Int), .int .i64 (d : Int)] 105, .cells #[.int .i64 0, .int .i64 0, .int .i64 0, .int .i64 0] 105]) (w.heap.size + 0) 105 #[.int .i64 (a : Int), .int .i64 (b : Int), .int .i64 (c : Int), .int .i64 (d : Int)] := allocs_at w [.cells #[.int .i64 (a : Int), .int .i64 (b : Int), .int .i64 (c : Int), .int .i64 (d : Int)] 105, .cells #[.int .i64 0, .int .i64 0, .int .i64 0, .int .i64 0] 105] 0 rfl
          have K_r : Blk (allocs w [.cells #[.int .i64 (a : Int), .int .i64 (b : Int), .int .i64 (c : Int), .int .i64 (d : Int)] 105, .cells #[.int .i64 0, .int .i64 0, .int .i64 0, .int .i64 0] 105]) (w.heap.size + 1) 105 #[.int .i64 0, .int .i64 0, .int .i64 0, .int .i64 0] := allocs_at w [.cells #[.int .i64 (a : Int), .int .i64 (b : Int), .int .i64 (c : Int), .int .i64 (d : Int)] 105, .cells #[.int .i64 0, .int .i64 0, .int .i64 0, .int .i64 0] 105] 1 rfl
          unfold allocs at HB K_p K_r
          simp only [List.foldl_cons, List.foldl_nil] at HB K_p K_r
          rw [Nat.add_zero] at K_p
          go_enter Tryz.func95, Tryz.ntmps95
          go_upto_region 1 with (fail)
          generalize ((w.alloc (.cells #[.int .i64 (a : Int), .int .i64 (b : Int), .int .i64 (c : Int), .int .i64 (d : Int)] 105)).alloc (.cells #[.int .i64 0, .int .i64 0, .int .i64 0, .int .i64 0] 105)) = w0 at *
          replace K_p := hide K_p
          replace K_r := hide K_r
          replace HB := hide HB
          have p0 := (Blk.cell K_p.out 0).trans (rfl : _ = some (Value.int .i64 (a : Int)))
          have p1 := (Blk.cell K_p.out 1).trans (rfl : _ = some (Value.int .i64 (b : Int)))
          have p2 := (Blk.cell K_p.out 2).trans (rfl : _ = some (Value.int .i64 (c : Int)))
          have p3 := (Blk.cell K_p.out 3).trans (rfl : _ = some (Value.int .i64 (d : Int)))
          have pf2 := Blk.frozen K_p.out 2
          go_upto_region 4 with (fail)
          go_region_with (go_at_call 135; refine (bit_one _).mono ?_; rintro e wb ⟨rfl, hwb2⟩; subst hwb2)
          all_goals (
            clear p0 p1 p2 p3 pf2
            replace K_r := K_r.out.far (p := ⟨w.heap.size, 2, none⟩) (by show (w.heap.size + 1) ≠ w.heap.size; omega) (.int .i64 (l2 : Int))
            replace K_p : Blk (w0.setCell ⟨w.heap.size, 2, none⟩ (.int .i64 (l2 : Int))) w.heap.size 105 #[.int .i64 (a : Int), .int .i64 (b : Int), .int .i64 (l2 : Int), .int .i64 (d : Int)] := K_p.out.set_ 2 (.int .i64 (l2 : Int))
            replace HB := HB.out.setCell (p := ⟨w.heap.size, 2, none⟩) (by show w.heap.size ≤ w.heap.size; omega) (.int .i64 (l2 : Int))
            generalize w0.setCell ⟨w.heap.size, 2, none⟩ (.int .i64 (l2 : Int)) = w1 at *
            replace K_p := hide K_p
            replace K_r := hide K_r
            replace HB := hide HB
            replace K_p := K_p.out.drew
            replace K_r := K_r.out.drew
            replace HB := HB.out.drew
            generalize w1.drew = w2 at *
            replace K_p := hide K_p
            replace K_r := hide K_r
            replace HB := hide HB
            have p0 := (Blk.cell K_p.out 0).trans (rfl : _ = some (Value.int .i64 (a : Int)))
            have p1 := (Blk.cell K_p.out 1).trans (rfl : _ = some (Value.int .i64 (b : Int)))
            have p2 := (Blk.cell K_p.out 2).trans (rfl : _ = some (Value.int .i64 (l2 : Int)))
            have p3 := (Blk.cell K_p.out 3).trans (rfl : _ = some (Value.int .i64 (d : Int)))
            have pf1 := Blk.frozen K_p.out 1
            go_upto_region 11 with (fail)
            clear p0 p1 p2 p3 pf1
            replace K_r := K_r.out.far (p := ⟨w.heap.size, 1, none⟩) (by show (w.heap.size + 1) ≠ w.heap.size; omega) (.int .i64 (b1 : Int))
            replace K_p : Blk (w2.setCell ⟨w.heap.size, 1, none⟩ (.int .i64 (b1 : Int))) w.heap.size 105 #[.int .i64 (a : Int), .int .i64 (b1 : Int), .int .i64 (l2 : Int), .int .i64 (d : Int)] := K_p.out.set_ 1 (.int .i64 (b1 : Int))
            replace HB := HB.out.setCell (p := ⟨w.heap.size, 1, none⟩) (by show w.heap.size ≤ w.heap.size; omega) (.int .i64 (b1 : Int))
            generalize w2.setCell ⟨w.heap.size, 1, none⟩ (.int .i64 (b1 : Int)) = w4 at *
            replace K_p := hide K_p
            replace K_r := hide K_r
            replace HB := hide HB
            obtain rfl : l2 = e1 := HE1.out
            have p0 := (Blk.cell K_p.out 0).trans (rfl : _ = some (Value.int .i64 (a : Int)))
            have p1 := (Blk.cell K_p.out 1).trans (rfl : _ = some (Value.int .i64 (b1 : Int)))
            have p2 := (Blk.cell K_p.out 2).trans (rfl : _ = some (Value.int .i64 (l2 : Int)))
            have p3 := (Blk.cell K_p.out 3).trans (rfl : _ = some (Value.int .i64 (d : Int)))
            have r0 := (Blk.cell K_r.out 0).trans (rfl : _ = some (Value.int .i64 0))
            have rf0 := Blk.frozen K_r.out 0
            have r1 := (Blk.cell K_r.out 1).trans (rfl : _ = some (Value.int .i64 0))
            have rf1 := Blk.frozen K_r.out 1
            have r2 := (Blk.cell K_r.out 2).trans (rfl : _ = some (Value.int .i64 0))
            have rf2 := Blk.frozen K_r.out 2
            have r3 := (Blk.cell K_r.out 3).trans (rfl : _ = some (Value.int .i64 0))
            have rf3 := Blk.frozen K_r.out 3
            go_wp2_with fail
            have rc0 := (Blk.cell ((((K_r.out.set_ 0 (.int .i64 (a : Int))).set_ 1 (.int .i64 (b1 : Int))).set_ 2 (.int .i64 (l2 : Int))).set_ 3 (.int .i64 (d : Int))) 0).trans (rfl : _ = some (Value.int .i64 (a : Int)))
            have rc1 := (Blk.cell ((((K_r.out.set_ 0 (.int .i64 (a : Int))).set_ 1 (.int .i64 (b1 : Int))).set_ 2 (.int .i64 (l2 : Int))).set_ 3 (.int .i64 (d : Int))) 1).trans (rfl : _ = some (Value.int .i64 (b1 : Int)))
            have rc2 := (Blk.cell ((((K_r.out.set_ 0 (.int .i64 (a : Int))).set_ 1 (.int .i64 (b1 : Int))).set_ 2 (.int .i64 (l2 : Int))).set_ 3 (.int .i64 (d : Int))) 2).trans (rfl : _ = some (Value.int .i64 (l2 : Int)))
            have rc3 := (Blk.cell ((((K_r.out.set_ 0 (.int .i64 (a : Int))).set_ 1 (.int .i64 (b1 : Int))).set_ 2 (.int .i64 (l2 : Int))).set_ 3 (.int .i64 (d : Int))) 3).trans (rfl : _ = some (Value.int .i64 (d : Int)))
            exact bodyPost_ret (v := .agg #[.int .i64 (a : Int), .int .i64 (b1 : Int), .int .i64 (l2 : Int), .int .i64 (d : Int)]) (by simp [results, Tryz.results95, go_sem, rc0, rc1, rc2, rc3]) rfl ⟨rfl, ((((HB.out.setCell (p := ⟨(w.heap.size + 1), 0, none⟩) (by show w.heap.size ≤ (w.heap.size + 1); omega) (.int .i64 (a : Int))).setCell (p := ⟨(w.heap.size + 1), 1, none⟩) (by show w.heap.size ≤ (w.heap.size + 1); omega) (.int .i64 (b1 : Int))).setCell (p := ⟨(w.heap.size + 1), 2, none⟩) (by show w.heap.size ≤ (w.heap.size + 1); omega) (.int .i64 (l2 : Int))).setCell (p := ⟨(w.heap.size + 1), 3, none⟩) (by show w.heap.size ≤ (w.heap.size + 1); omega) (.int .i64 (d : Int)))⟩
          )
    · by_cases hbb : 32 ≤ 2 * c + 1
      · by_cases ht : b + 1 = 10
        · rw [decide_eq_false hg] at hand
          obtain ⟨l2, hl2⟩ : ∃ x, 2 * c + 1 = x := ⟨_, rfl⟩
          obtain ⟨e1, he1⟩ : ∃ x, 16 + l2 % 16 = x := ⟨_, rfl⟩
          have hln : lastN c true = e1 := by
            unfold lastN
            simp only [if_true, hl2]
            rw [if_pos (by omega)]; exact he1
          have hr : normalP ⟨a, b, c, d⟩ true = begunP 2 := by
            unfold normalP
            simp only [hln]
            rw [if_neg (by simp), if_neg (by simp), if_pos (by omega)]
          rw [hr]
          have hw0 : IntKind.i64.wrap (2 * (c : Int)) = ((2 * c : Nat) : Int) := (IntWalk.i64_in _ (by omega)).trans (by omega)
          have hw1 : IntKind.i64.wrap (((2 * c : Nat) : Int) + 1) = (l2 : Int) := (IntWalk.i64_in _ (by omega)).trans (by omega)
          have hbg : 32 ≤ l2 := by omega
          have hm1 : (l2 : Int).tmod 16 = ((l2 % 16 : Nat) : Int) := by rw [Int.tmod_eq_emod_of_nonneg (by omega)]; omega
          have hm2 : (l2 : Int) % 16 = ((l2 % 16 : Nat) : Int) := by omega
          obtain ⟨l3, hl3⟩ : ∃ x, l2 % 16 = x := ⟨_, rfl⟩
          rw [hl3] at hm1 hm2
          have hw3 : IntKind.i64.wrap (16 + (l3 : Int)) = (e1 : Int) := (IntWalk.i64_in _ (by omega)).trans (by omega)
          have hw3b : IntKind.i64.wrap (l3 : Int) = (l3 : Int) := IntWalk.i64_in _ (by omega)
          have HL3 := hide hl3
          clear hl3
          obtain ⟨cc, hcc⟩ : ∃ x, 2 * c = x := ⟨_, rfl⟩
          rw [hcc] at hw0 hw1
          have HCC := hide hcc
          have HL2 := hide hl2
          have HE1 := hide he1
          clear hr hln hg hcc hl2 he1
          have hwb : IntKind.i64.wrap ((b : Int) + 1) = ((b + 1 : Nat) : Int) := (IntWalk.i64_in _ (by omega)).trans (by omega)
          obtain ⟨b1, hb1⟩ : ∃ x, b + 1 = x := ⟨_, rfl⟩
          rw [hb1] at hwb
          obtain rfl : b1 = 10 := by omega
          have HB1 := hide hb1
          clear hb1
          have HB := allocs_below w [.cells #[.int .i64 (a : Int), .int .i64 (b : Int), .int .i64 (c : Int), .int .i64 (d : Int)] 105, .cells #[.int .i64 0, .int .i64 0, .int .i64 0, .int .i64 0] 105]
          have K_p : Blk (allocs w [.cells #[.int .i64 (a : Int), .int .i64 (b : Int), .int .i64 (c : Int), .int .i64 (d : Int)] 105, .cells #[.int .i64 0, .int .i64 0, .int .i64 0, .int .i64 0] 105]) (w.heap.size + 0) 105 #[.int .i64 (a : Int), .int .i64 (b : Int), .int .i64 (c : Int), .int .i64 (d : Int)] := allocs_at w [.cells #[.int .i64 (a : Int), .int .i64 (b : Int), .int .i64 (c : Int), .int .i64 (d : Int)] 105, .cells #[.int .i64 0, .int .i64 0, .int .i64 0, .int .i64 0] 105] 0 rfl
          have K_r : Blk (allocs w [.cells #[.int .i64 (a : Int), .int .i64 (b : Int), .int .i64 (c : Int), .int .i64 (d : Int)] 105, .cells #[.int .i64 0, .int .i64 0, .int .i64 0, .int .i64 0] 105]) (w.heap.size + 1) 105 #[.int .i64 0, .int .i64 0, .int .i64 0, .int .i64 0] := allocs_at w [.cells #[.int .i64 (a : Int), .int .i64 (b : Int), .int .i64 (c : Int), .int .i64 (d : Int)] 105, .cells #[.int .i64 0, .int .i64 0, .int .i64 0, .int .i64 0] 105] 1 rfl
          unfold allocs at HB K_p K_r
          simp only [List.foldl_cons, List.foldl_nil] at HB K_p K_r
          rw [Nat.add_zero] at K_p
          go_enter Tryz.func95, Tryz.ntmps95
          go_upto_region 1 with (fail)
          generalize ((w.alloc (.cells #[.int .i64 (a : Int), .int .i64 (b : Int), .int .i64 (c : Int), .int .i64 (d : Int)] 105)).alloc (.cells #[.int .i64 0, .int .i64 0, .int .i64 0, .int .i64 0] 105)) = w0 at *
          replace K_p := hide K_p
          replace K_r := hide K_r
          replace HB := hide HB
          have p0 := (Blk.cell K_p.out 0).trans (rfl : _ = some (Value.int .i64 (a : Int)))
          have p1 := (Blk.cell K_p.out 1).trans (rfl : _ = some (Value.int .i64 (b : Int)))
          have p2 := (Blk.cell K_p.out 2).trans (rfl : _ = some (Value.int .i64 (c : Int)))
          have p3 := (Blk.cell K_p.out 3).trans (rfl : _ = some (Value.int .i64 (d : Int)))
          have pf2 := Blk.frozen K_p.out 2
          go_upto_region 4 with (fail)
          go_region_with (go_at_call 135; refine (bit_one _).mono ?_; rintro e wb ⟨rfl, hwb2⟩; subst hwb2)
          all_goals (
            clear p0 p1 p2 p3 pf2
            replace K_r := K_r.out.far (p := ⟨w.heap.size, 2, none⟩) (by show (w.heap.size + 1) ≠ w.heap.size; omega) (.int .i64 (l2 : Int))
            replace K_p : Blk (w0.setCell ⟨w.heap.size, 2, none⟩ (.int .i64 (l2 : Int))) w.heap.size 105 #[.int .i64 (a : Int), .int .i64 (b : Int), .int .i64 (l2 : Int), .int .i64 (d : Int)] := K_p.out.set_ 2 (.int .i64 (l2 : Int))
            replace HB := HB.out.setCell (p := ⟨w.heap.size, 2, none⟩) (by show w.heap.size ≤ w.heap.size; omega) (.int .i64 (l2 : Int))
            generalize w0.setCell ⟨w.heap.size, 2, none⟩ (.int .i64 (l2 : Int)) = w1 at *
            replace K_p := hide K_p
            replace K_r := hide K_r
            replace HB := hide HB
            replace K_p := K_p.out.drew
            replace K_r := K_r.out.drew
            replace HB := HB.out.drew
            generalize w1.drew = w2 at *
            replace K_p := hide K_p
            replace K_r := hide K_r
            replace HB := hide HB
            have p0 := (Blk.cell K_p.out 0).trans (rfl : _ = some (Value.int .i64 (a : Int)))
            have p1 := (Blk.cell K_p.out 1).trans (rfl : _ = some (Value.int .i64 (b : Int)))
            have p2 := (Blk.cell K_p.out 2).trans (rfl : _ = some (Value.int .i64 (l2 : Int)))
            have p3 := (Blk.cell K_p.out 3).trans (rfl : _ = some (Value.int .i64 (d : Int)))
            have pf2 := Blk.frozen K_p.out 2
            go_upto_region 7 with (fail)
            clear p0 p1 p2 p3 pf2
            replace K_r := K_r.out.far (p := ⟨w.heap.size, 2, none⟩) (by show (w.heap.size + 1) ≠ w.heap.size; omega) (.int .i64 (e1 : Int))
            replace K_p : Blk (w2.setCell ⟨w.heap.size, 2, none⟩ (.int .i64 (e1 : Int))) w.heap.size 105 #[.int .i64 (a : Int), .int .i64 (b : Int), .int .i64 (e1 : Int), .int .i64 (d : Int)] := K_p.out.set_ 2 (.int .i64 (e1 : Int))
            replace HB := HB.out.setCell (p := ⟨w.heap.size, 2, none⟩) (by show w.heap.size ≤ w.heap.size; omega) (.int .i64 (e1 : Int))
            generalize w2.setCell ⟨w.heap.size, 2, none⟩ (.int .i64 (e1 : Int)) = w3 at *
            replace K_p := hide K_p
            replace K_r := hide K_r
            replace HB := hide HB
            have p0 := (Blk.cell K_p.out 0).trans (rfl : _ = some (Value.int .i64 (a : Int)))
            have p1 := (Blk.cell K_p.out 1).trans (rfl : _ = some (Value.int .i64 (b : Int)))
            have p2 := (Blk.cell K_p.out 2).trans (rfl : _ = some (Value.int .i64 (e1 : Int)))
            have p3 := (Blk.cell K_p.out 3).trans (rfl : _ = some (Value.int .i64 (d : Int)))
            have pf1 := Blk.frozen K_p.out 1
            go_upto_region 11 with (fail)
            clear p0 p1 p2 p3 pf1
            replace K_r := K_r.out.far (p := ⟨w.heap.size, 1, none⟩) (by show (w.heap.size + 1) ≠ w.heap.size; omega) (.int .i64 10)
            replace K_p : Blk (w3.setCell ⟨w.heap.size, 1, none⟩ (.int .i64 10)) w.heap.size 105 #[.int .i64 (a : Int), .int .i64 10, .int .i64 (e1 : Int), .int .i64 (d : Int)] := K_p.out.set_ 1 (.int .i64 10)
            replace HB := HB.out.setCell (p := ⟨w.heap.size, 1, none⟩) (by show w.heap.size ≤ w.heap.size; omega) (.int .i64 10)
            generalize w3.setCell ⟨w.heap.size, 1, none⟩ (.int .i64 10) = w4 at *
            replace K_p := hide K_p
            replace K_r := hide K_r
            replace HB := hide HB
            have p0 := (Blk.cell K_p.out 0).trans (rfl : _ = some (Value.int .i64 (a : Int)))
            have p1 := (Blk.cell K_p.out 1).trans (rfl : _ = some (Value.int .i64 10))
            have p2 := (Blk.cell K_p.out 2).trans (rfl : _ = some (Value.int .i64 (e1 : Int)))
            have p3 := (Blk.cell K_p.out 3).trans (rfl : _ = some (Value.int .i64 (d : Int)))
            go_wp2_with fail
            refine (begun_any _ 2).mono ?_
            rintro e wb ⟨rfl, hb⟩
            clear p0 p1 p2 p3
            replace K_p := hide (Blk.below K_p.out hb (Blk.lt K_p.out))
            replace K_r := hide (Blk.below K_r.out hb (Blk.lt K_r.out))
            replace HB := hide (HB.out.trans (hb.mono HB.out.size))
            clear hb
            have r0 := (Blk.cell K_r.out 0).trans (rfl : _ = some (Value.int .i64 0))
            have rf0 := Blk.frozen K_r.out 0
            have r1 := (Blk.cell K_r.out 1).trans (rfl : _ = some (Value.int .i64 0))
            have rf1 := Blk.frozen K_r.out 1
            have r2 := (Blk.cell K_r.out 2).trans (rfl : _ = some (Value.int .i64 0))
            have rf2 := Blk.frozen K_r.out 2
            have r3 := (Blk.cell K_r.out 3).trans (rfl : _ = some (Value.int .i64 0))
            have rf3 := Blk.frozen K_r.out 3
            go_wp2_with fail
            have rc0 := (Blk.cell ((((K_r.out.set_ 0 (.int .i64 2)).set_ 1 (.int .i64 0)).set_ 2 (.int .i64 1)).set_ 3 (.int .i64 0)) 0).trans (rfl : _ = some (Value.int .i64 2))
            have rc1 := (Blk.cell ((((K_r.out.set_ 0 (.int .i64 2)).set_ 1 (.int .i64 0)).set_ 2 (.int .i64 1)).set_ 3 (.int .i64 0)) 1).trans (rfl : _ = some (Value.int .i64 0))
            have rc2 := (Blk.cell ((((K_r.out.set_ 0 (.int .i64 2)).set_ 1 (.int .i64 0)).set_ 2 (.int .i64 1)).set_ 3 (.int .i64 0)) 2).trans (rfl : _ = some (Value.int .i64 1))
            have rc3 := (Blk.cell ((((K_r.out.set_ 0 (.int .i64 2)).set_ 1 (.int .i64 0)).set_ 2 (.int .i64 1)).set_ 3 (.int .i64 0)) 3).trans (rfl : _ = some (Value.int .i64 0))
            exact bodyPost_ret (v := .agg #[.int .i64 2, .int .i64 0, .int .i64 1, .int .i64 0]) (by simp [results, Tryz.results95, go_sem, rc0, rc1, rc2, rc3]) rfl ⟨rfl, ((((HB.out.setCell (p := ⟨(w.heap.size + 1), 0, none⟩) (by show w.heap.size ≤ (w.heap.size + 1); omega) (.int .i64 2)).setCell (p := ⟨(w.heap.size + 1), 1, none⟩) (by show w.heap.size ≤ (w.heap.size + 1); omega) (.int .i64 0)).setCell (p := ⟨(w.heap.size + 1), 2, none⟩) (by show w.heap.size ≤ (w.heap.size + 1); omega) (.int .i64 1)).setCell (p := ⟨(w.heap.size + 1), 3, none⟩) (by show w.heap.size ≤ (w.heap.size + 1); omega) (.int .i64 0))⟩
          )
        · rw [decide_eq_false hg] at hand
          obtain ⟨l2, hl2⟩ : ∃ x, 2 * c + 1 = x := ⟨_, rfl⟩
          obtain ⟨e1, he1⟩ : ∃ x, 16 + l2 % 16 = x := ⟨_, rfl⟩
          have hln : lastN c true = e1 := by
            unfold lastN
            simp only [if_true, hl2]
            rw [if_pos (by omega)]; exact he1
          have hr : normalP ⟨a, b, c, d⟩ true = ⟨a, b + 1, e1, d⟩ := by
            unfold normalP
            simp only [hln]
            rw [if_neg (by simp), if_neg (by simp), if_neg (by omega)]
          rw [hr]
          have hw0 : IntKind.i64.wrap (2 * (c : Int)) = ((2 * c : Nat) : Int) := (IntWalk.i64_in _ (by omega)).trans (by omega)
          have hw1 : IntKind.i64.wrap (((2 * c : Nat) : Int) + 1) = (l2 : Int) := (IntWalk.i64_in _ (by omega)).trans (by omega)
          have hbg : 32 ≤ l2 := by omega
          have hm1 : (l2 : Int).tmod 16 = ((l2 % 16 : Nat) : Int) := by rw [Int.tmod_eq_emod_of_nonneg (by omega)]; omega
          have hm2 : (l2 : Int) % 16 = ((l2 % 16 : Nat) : Int) := by omega
          obtain ⟨l3, hl3⟩ : ∃ x, l2 % 16 = x := ⟨_, rfl⟩
          rw [hl3] at hm1 hm2
          have hw3 : IntKind.i64.wrap (16 + (l3 : Int)) = (e1 : Int) := (IntWalk.i64_in _ (by omega)).trans (by omega)
          have hw3b : IntKind.i64.wrap (l3 : Int) = (l3 : Int) := IntWalk.i64_in _ (by omega)
          have HL3 := hide hl3
          clear hl3
          obtain ⟨cc, hcc⟩ : ∃ x, 2 * c = x := ⟨_, rfl⟩
          rw [hcc] at hw0 hw1
          have HCC := hide hcc
          have HL2 := hide hl2
          have HE1 := hide he1
          clear hr hln hg hcc hl2 he1
          have hwb : IntKind.i64.wrap ((b : Int) + 1) = ((b + 1 : Nat) : Int) := (IntWalk.i64_in _ (by omega)).trans (by omega)
          obtain ⟨b1, hb1⟩ : ∃ x, b + 1 = x := ⟨_, rfl⟩
          rw [hb1] at hwb
          have hn10 : ((b1 : Int) == 10) = false := by simp; omega
          have HB1 := hide hb1
          rw [hb1]
          clear hb1
          have HB := allocs_below w [.cells #[.int .i64 (a : Int), .int .i64 (b : Int), .int .i64 (c : Int), .int .i64 (d : Int)] 105, .cells #[.int .i64 0, .int .i64 0, .int .i64 0, .int .i64 0] 105]
          have K_p : Blk (allocs w [.cells #[.int .i64 (a : Int), .int .i64 (b : Int), .int .i64 (c : Int), .int .i64 (d : Int)] 105, .cells #[.int .i64 0, .int .i64 0, .int .i64 0, .int .i64 0] 105]) (w.heap.size + 0) 105 #[.int .i64 (a : Int), .int .i64 (b : Int), .int .i64 (c : Int), .int .i64 (d : Int)] := allocs_at w [.cells #[.int .i64 (a : Int), .int .i64 (b : Int), .int .i64 (c : Int), .int .i64 (d : Int)] 105, .cells #[.int .i64 0, .int .i64 0, .int .i64 0, .int .i64 0] 105] 0 rfl
          have K_r : Blk (allocs w [.cells #[.int .i64 (a : Int), .int .i64 (b : Int), .int .i64 (c : Int), .int .i64 (d : Int)] 105, .cells #[.int .i64 0, .int .i64 0, .int .i64 0, .int .i64 0] 105]) (w.heap.size + 1) 105 #[.int .i64 0, .int .i64 0, .int .i64 0, .int .i64 0] := allocs_at w [.cells #[.int .i64 (a : Int), .int .i64 (b : Int), .int .i64 (c : Int), .int .i64 (d : Int)] 105, .cells #[.int .i64 0, .int .i64 0, .int .i64 0, .int .i64 0] 105] 1 rfl
          unfold allocs at HB K_p K_r
          simp only [List.foldl_cons, List.foldl_nil] at HB K_p K_r
          rw [Nat.add_zero] at K_p
          go_enter Tryz.func95, Tryz.ntmps95
          go_upto_region 1 with (fail)
          generalize ((w.alloc (.cells #[.int .i64 (a : Int), .int .i64 (b : Int), .int .i64 (c : Int), .int .i64 (d : Int)] 105)).alloc (.cells #[.int .i64 0, .int .i64 0, .int .i64 0, .int .i64 0] 105)) = w0 at *
          replace K_p := hide K_p
          replace K_r := hide K_r
          replace HB := hide HB
          have p0 := (Blk.cell K_p.out 0).trans (rfl : _ = some (Value.int .i64 (a : Int)))
          have p1 := (Blk.cell K_p.out 1).trans (rfl : _ = some (Value.int .i64 (b : Int)))
          have p2 := (Blk.cell K_p.out 2).trans (rfl : _ = some (Value.int .i64 (c : Int)))
          have p3 := (Blk.cell K_p.out 3).trans (rfl : _ = some (Value.int .i64 (d : Int)))
          have pf2 := Blk.frozen K_p.out 2
          go_upto_region 4 with (fail)
          go_region_with (go_at_call 135; refine (bit_one _).mono ?_; rintro e wb ⟨rfl, hwb2⟩; subst hwb2)
          all_goals (
            clear p0 p1 p2 p3 pf2
            replace K_r := K_r.out.far (p := ⟨w.heap.size, 2, none⟩) (by show (w.heap.size + 1) ≠ w.heap.size; omega) (.int .i64 (l2 : Int))
            replace K_p : Blk (w0.setCell ⟨w.heap.size, 2, none⟩ (.int .i64 (l2 : Int))) w.heap.size 105 #[.int .i64 (a : Int), .int .i64 (b : Int), .int .i64 (l2 : Int), .int .i64 (d : Int)] := K_p.out.set_ 2 (.int .i64 (l2 : Int))
            replace HB := HB.out.setCell (p := ⟨w.heap.size, 2, none⟩) (by show w.heap.size ≤ w.heap.size; omega) (.int .i64 (l2 : Int))
            generalize w0.setCell ⟨w.heap.size, 2, none⟩ (.int .i64 (l2 : Int)) = w1 at *
            replace K_p := hide K_p
            replace K_r := hide K_r
            replace HB := hide HB
            replace K_p := K_p.out.drew
            replace K_r := K_r.out.drew
            replace HB := HB.out.drew
            generalize w1.drew = w2 at *
            replace K_p := hide K_p
            replace K_r := hide K_r
            replace HB := hide HB
            have p0 := (Blk.cell K_p.out 0).trans (rfl : _ = some (Value.int .i64 (a : Int)))
            have p1 := (Blk.cell K_p.out 1).trans (rfl : _ = some (Value.int .i64 (b : Int)))
            have p2 := (Blk.cell K_p.out 2).trans (rfl : _ = some (Value.int .i64 (l2 : Int)))
            have p3 := (Blk.cell K_p.out 3).trans (rfl : _ = some (Value.int .i64 (d : Int)))
            have pf2 := Blk.frozen K_p.out 2
            go_upto_region 7 with (fail)
            clear p0 p1 p2 p3 pf2
            replace K_r := K_r.out.far (p := ⟨w.heap.size, 2, none⟩) (by show (w.heap.size + 1) ≠ w.heap.size; omega) (.int .i64 (e1 : Int))
            replace K_p : Blk (w2.setCell ⟨w.heap.size, 2, none⟩ (.int .i64 (e1 : Int))) w.heap.size 105 #[.int .i64 (a : Int), .int .i64 (b : Int), .int .i64 (e1 : Int), .int .i64 (d : Int)] := K_p.out.set_ 2 (.int .i64 (e1 : Int))
            replace HB := HB.out.setCell (p := ⟨w.heap.size, 2, none⟩) (by show w.heap.size ≤ w.heap.size; omega) (.int .i64 (e1 : Int))
            generalize w2.setCell ⟨w.heap.size, 2, none⟩ (.int .i64 (e1 : Int)) = w3 at *
            replace K_p := hide K_p
            replace K_r := hide K_r
            replace HB := hide HB
            have p0 := (Blk.cell K_p.out 0).trans (rfl : _ = some (Value.int .i64 (a : Int)))
            have p1 := (Blk.cell K_p.out 1).trans (rfl : _ = some (Value.int .i64 (b : Int)))
            have p2 := (Blk.cell K_p.out 2).trans (rfl : _ = some (Value.int .i64 (e1 : Int)))
            have p3 := (Blk.cell K_p.out 3).trans (rfl : _ = some (Value.int .i64 (d : Int)))
            have pf1 := Blk.frozen K_p.out 1
            go_upto_region 11 with (fail)
            clear p0 p1 p2 p3 pf1
            replace K_r := K_r.out.far (p := ⟨w.heap.size, 1, none⟩) (by show (w.heap.size + 1) ≠ w.heap.size; omega) (.int .i64 (b1 : Int))
            replace K_p : Blk (w3.setCell ⟨w.heap.size, 1, none⟩ (.int .i64 (b1 : Int))) w.heap.size 105 #[.int .i64 (a : Int), .int .i64 (b1 : Int), .int .i64 (e1 : Int), .int .i64 (d : Int)] := K_p.out.set_ 1 (.int .i64 (b1 : Int))
            replace HB := HB.out.setCell (p := ⟨w.heap.size, 1, none⟩) (by show w.heap.size ≤ w.heap.size; omega) (.int .i64 (b1 : Int))
            generalize w3.setCell ⟨w.heap.size, 1, none⟩ (.int .i64 (b1 : Int)) = w4 at *
            replace K_p := hide K_p
            replace K_r := hide K_r
            replace HB := hide HB
            have p0 := (Blk.cell K_p.out 0).trans (rfl : _ = some (Value.int .i64 (a : Int)))
            have p1 := (Blk.cell K_p.out 1).trans (rfl : _ = some (Value.int .i64 (b1 : Int)))
            have p2 := (Blk.cell K_p.out 2).trans (rfl : _ = some (Value.int .i64 (e1 : Int)))
            have p3 := (Blk.cell K_p.out 3).trans (rfl : _ = some (Value.int .i64 (d : Int)))
            have r0 := (Blk.cell K_r.out 0).trans (rfl : _ = some (Value.int .i64 0))
            have rf0 := Blk.frozen K_r.out 0
            have r1 := (Blk.cell K_r.out 1).trans (rfl : _ = some (Value.int .i64 0))
            have rf1 := Blk.frozen K_r.out 1
            have r2 := (Blk.cell K_r.out 2).trans (rfl : _ = some (Value.int .i64 0))
            have rf2 := Blk.frozen K_r.out 2
            have r3 := (Blk.cell K_r.out 3).trans (rfl : _ = some (Value.int .i64 0))
            have rf3 := Blk.frozen K_r.out 3
            go_wp2_with fail
            have rc0 := (Blk.cell ((((K_r.out.set_ 0 (.int .i64 (a : Int))).set_ 1 (.int .i64 (b1 : Int))).set_ 2 (.int .i64 (e1 : Int))).set_ 3 (.int .i64 (d : Int))) 0).trans (rfl : _ = some (Value.int .i64 (a : Int)))
            have rc1 := (Blk.cell ((((K_r.out.set_ 0 (.int .i64 (a : Int))).set_ 1 (.int .i64 (b1 : Int))).set_ 2 (.int .i64 (e1 : Int))).set_ 3 (.int .i64 (d : Int))) 1).trans (rfl : _ = some (Value.int .i64 (b1 : Int)))
            have rc2 := (Blk.cell ((((K_r.out.set_ 0 (.int .i64 (a : Int))).set_ 1 (.int .i64 (b1 : Int))).set_ 2 (.int .i64 (e1 : Int))).set_ 3 (.int .i64 (d : Int))) 2).trans (rfl : _ = some (Value.int .i64 (e1 : Int)))
            have rc3 := (Blk.cell ((((K_r.out.set_ 0 (.int .i64 (a : Int))).set_ 1 (.int .i64 (b1 : Int))).set_ 2 (.int .i64 (e1 : Int))).set_ 3 (.int .i64 (d : Int))) 3).trans (rfl : _ = some (Value.int .i64 (d : Int)))
            exact bodyPost_ret (v := .agg #[.int .i64 (a : Int), .int .i64 (b1 : Int), .int .i64 (e1 : Int), .int .i64 (d : Int)]) (by simp [results, Tryz.results95, go_sem, rc0, rc1, rc2, rc3]) rfl ⟨rfl, ((((HB.out.setCell (p := ⟨(w.heap.size + 1), 0, none⟩) (by show w.heap.size ≤ (w.heap.size + 1); omega) (.int .i64 (a : Int))).setCell (p := ⟨(w.heap.size + 1), 1, none⟩) (by show w.heap.size ≤ (w.heap.size + 1); omega) (.int .i64 (b1 : Int))).setCell (p := ⟨(w.heap.size + 1), 2, none⟩) (by show w.heap.size ≤ (w.heap.size + 1); omega) (.int .i64 (e1 : Int))).setCell (p := ⟨(w.heap.size + 1), 3, none⟩) (by show w.heap.size ≤ (w.heap.size + 1); omega) (.int .i64 (d : Int)))⟩
          )
      · by_cases ht : b + 1 = 10
        · rw [decide_eq_false hg] at hand
          obtain ⟨l2, hl2⟩ : ∃ x, 2 * c + 1 = x := ⟨_, rfl⟩
          obtain ⟨e1, he1⟩ : ∃ x, l2 = x := ⟨_, rfl⟩
          have hln : lastN c true = e1 := by
            unfold lastN
            simp only [if_true, hl2]
            rw [if_neg (by omega)]; exact he1
          have hr : normalP ⟨a, b, c, d⟩ true = begunP 2 := by
            unfold normalP
            simp only [hln]
            rw [if_neg (by simp), if_neg (by simp), if_pos (by omega)]
          rw [hr]
          have hw0 : IntKind.i64.wrap (2 * (c : Int)) = ((2 * c : Nat) : Int) := (IntWalk.i64_in _ (by omega)).trans (by omega)
          have hw1 : IntKind.i64.wrap (((2 * c : Nat) : Int) + 1) = (l2 : Int) := (IntWalk.i64_in _ (by omega)).trans (by omega)
          have hbg : ¬ 32 ≤ l2 := by omega
          obtain ⟨cc, hcc⟩ : ∃ x, 2 * c = x := ⟨_, rfl⟩
          rw [hcc] at hw0 hw1
          have HCC := hide hcc
          have HL2 := hide hl2
          have HE1 := hide he1
          clear hr hln hg hcc hl2 he1
          have hwb : IntKind.i64.wrap ((b : Int) + 1) = ((b + 1 : Nat) : Int) := (IntWalk.i64_in _ (by omega)).trans (by omega)
          obtain ⟨b1, hb1⟩ : ∃ x, b + 1 = x := ⟨_, rfl⟩
          rw [hb1] at hwb
          obtain rfl : b1 = 10 := by omega
          have HB1 := hide hb1
          clear hb1
          have HB := allocs_below w [.cells #[.int .i64 (a : Int), .int .i64 (b : Int), .int .i64 (c : Int), .int .i64 (d : Int)] 105, .cells #[.int .i64 0, .int .i64 0, .int .i64 0, .int .i64 0] 105]
          have K_p : Blk (allocs w [.cells #[.int .i64 (a : Int), .int .i64 (b : Int), .int .i64 (c : Int), .int .i64 (d : Int)] 105, .cells #[.int .i64 0, .int .i64 0, .int .i64 0, .int .i64 0] 105]) (w.heap.size + 0) 105 #[.int .i64 (a : Int), .int .i64 (b : Int), .int .i64 (c : Int), .int .i64 (d : Int)] := allocs_at w [.cells #[.int .i64 (a : Int), .int .i64 (b : Int), .int .i64 (c : Int), .int .i64 (d : Int)] 105, .cells #[.int .i64 0, .int .i64 0, .int .i64 0, .int .i64 0] 105] 0 rfl
          have K_r : Blk (allocs w [.cells #[.int .i64 (a : Int), .int .i64 (b : Int), .int .i64 (c : Int), .int .i64 (d : Int)] 105, .cells #[.int .i64 0, .int .i64 0, .int .i64 0, .int .i64 0] 105]) (w.heap.size + 1) 105 #[.int .i64 0, .int .i64 0, .int .i64 0, .int .i64 0] := allocs_at w [.cells #[.int .i64 (a : Int), .int .i64 (b : Int), .int .i64 (c : Int), .int .i64 (d : Int)] 105, .cells #[.int .i64 0, .int .i64 0, .int .i64 0, .int .i64 0] 105] 1 rfl
          unfold allocs at HB K_p K_r
          simp only [List.foldl_cons, List.foldl_nil] at HB K_p K_r
          rw [Nat.add_zero] at K_p
          go_enter Tryz.func95, Tryz.ntmps95
          go_upto_region 1 with (fail)
          generalize ((w.alloc (.cells #[.int .i64 (a : Int), .int .i64 (b : Int), .int .i64 (c : Int), .int .i64 (d : Int)] 105)).alloc (.cells #[.int .i64 0, .int .i64 0, .int .i64 0, .int .i64 0] 105)) = w0 at *
          replace K_p := hide K_p
          replace K_r := hide K_r
          replace HB := hide HB
          have p0 := (Blk.cell K_p.out 0).trans (rfl : _ = some (Value.int .i64 (a : Int)))
          have p1 := (Blk.cell K_p.out 1).trans (rfl : _ = some (Value.int .i64 (b : Int)))
          have p2 := (Blk.cell K_p.out 2).trans (rfl : _ = some (Value.int .i64 (c : Int)))
          have p3 := (Blk.cell K_p.out 3).trans (rfl : _ = some (Value.int .i64 (d : Int)))
          have pf2 := Blk.frozen K_p.out 2
          go_upto_region 4 with (fail)
          go_region_with (go_at_call 135; refine (bit_one _).mono ?_; rintro e wb ⟨rfl, hwb2⟩; subst hwb2)
          all_goals (
            clear p0 p1 p2 p3 pf2
            replace K_r := K_r.out.far (p := ⟨w.heap.size, 2, none⟩) (by show (w.heap.size + 1) ≠ w.heap.size; omega) (.int .i64 (l2 : Int))
            replace K_p : Blk (w0.setCell ⟨w.heap.size, 2, none⟩ (.int .i64 (l2 : Int))) w.heap.size 105 #[.int .i64 (a : Int), .int .i64 (b : Int), .int .i64 (l2 : Int), .int .i64 (d : Int)] := K_p.out.set_ 2 (.int .i64 (l2 : Int))
            replace HB := HB.out.setCell (p := ⟨w.heap.size, 2, none⟩) (by show w.heap.size ≤ w.heap.size; omega) (.int .i64 (l2 : Int))
            generalize w0.setCell ⟨w.heap.size, 2, none⟩ (.int .i64 (l2 : Int)) = w1 at *
            replace K_p := hide K_p
            replace K_r := hide K_r
            replace HB := hide HB
            replace K_p := K_p.out.drew
            replace K_r := K_r.out.drew
            replace HB := HB.out.drew
            generalize w1.drew = w2 at *
            replace K_p := hide K_p
            replace K_r := hide K_r
            replace HB := hide HB
            have p0 := (Blk.cell K_p.out 0).trans (rfl : _ = some (Value.int .i64 (a : Int)))
            have p1 := (Blk.cell K_p.out 1).trans (rfl : _ = some (Value.int .i64 (b : Int)))
            have p2 := (Blk.cell K_p.out 2).trans (rfl : _ = some (Value.int .i64 (l2 : Int)))
            have p3 := (Blk.cell K_p.out 3).trans (rfl : _ = some (Value.int .i64 (d : Int)))
            have pf1 := Blk.frozen K_p.out 1
            go_upto_region 11 with (fail)
            clear p0 p1 p2 p3 pf1
            replace K_r := K_r.out.far (p := ⟨w.heap.size, 1, none⟩) (by show (w.heap.size + 1) ≠ w.heap.size; omega) (.int .i64 10)
            replace K_p : Blk (w2.setCell ⟨w.heap.size, 1, none⟩ (.int .i64 10)) w.heap.size 105 #[.int .i64 (a : Int), .int .i64 10, .int .i64 (l2 : Int), .int .i64 (d : Int)] := K_p.out.set_ 1 (.int .i64 10)
            replace HB := HB.out.setCell (p := ⟨w.heap.size, 1, none⟩) (by show w.heap.size ≤ w.heap.size; omega) (.int .i64 10)
            generalize w2.setCell ⟨w.heap.size, 1, none⟩ (.int .i64 10) = w4 at *
            replace K_p := hide K_p
            replace K_r := hide K_r
            replace HB := hide HB
            have p0 := (Blk.cell K_p.out 0).trans (rfl : _ = some (Value.int .i64 (a : Int)))
            have p1 := (Blk.cell K_p.out 1).trans (rfl : _ = some (Value.int .i64 10))
            have p2 := (Blk.cell K_p.out 2).trans (rfl : _ = some (Value.int .i64 (l2 : Int)))
            have p3 := (Blk.cell K_p.out 3).trans (rfl : _ = some (Value.int .i64 (d : Int)))
            go_wp2_with fail
            refine (begun_any _ 2).mono ?_
            rintro e wb ⟨rfl, hb⟩
            clear p0 p1 p2 p3
            replace K_p := hide (Blk.below K_p.out hb (Blk.lt K_p.out))
            replace K_r := hide (Blk.below K_r.out hb (Blk.lt K_r.out))
            replace HB := hide (HB.out.trans (hb.mono HB.out.size))
            clear hb
            have r0 := (Blk.cell K_r.out 0).trans (rfl : _ = some (Value.int .i64 0))
            have rf0 := Blk.frozen K_r.out 0
            have r1 := (Blk.cell K_r.out 1).trans (rfl : _ = some (Value.int .i64 0))
            have rf1 := Blk.frozen K_r.out 1
            have r2 := (Blk.cell K_r.out 2).trans (rfl : _ = some (Value.int .i64 0))
            have rf2 := Blk.frozen K_r.out 2
            have r3 := (Blk.cell K_r.out 3).trans (rfl : _ = some (Value.int .i64 0))
            have rf3 := Blk.frozen K_r.out 3
            go_wp2_with fail
            have rc0 := (Blk.cell ((((K_r.out.set_ 0 (.int .i64 2)).set_ 1 (.int .i64 0)).set_ 2 (.int .i64 1)).set_ 3 (.int .i64 0)) 0).trans (rfl : _ = some (Value.int .i64 2))
            have rc1 := (Blk.cell ((((K_r.out.set_ 0 (.int .i64 2)).set_ 1 (.int .i64 0)).set_ 2 (.int .i64 1)).set_ 3 (.int .i64 0)) 1).trans (rfl : _ = some (Value.int .i64 0))
            have rc2 := (Blk.cell ((((K_r.out.set_ 0 (.int .i64 2)).set_ 1 (.int .i64 0)).set_ 2 (.int .i64 1)).set_ 3 (.int .i64 0)) 2).trans (rfl : _ = some (Value.int .i64 1))
            have rc3 := (Blk.cell ((((K_r.out.set_ 0 (.int .i64 2)).set_ 1 (.int .i64 0)).set_ 2 (.int .i64 1)).set_ 3 (.int .i64 0)) 3).trans (rfl : _ = some (Value.int .i64 0))
            exact bodyPost_ret (v := .agg #[.int .i64 2, .int .i64 0, .int .i64 1, .int .i64 0]) (by simp [results, Tryz.results95, go_sem, rc0, rc1, rc2, rc3]) rfl ⟨rfl, ((((HB.out.setCell (p := ⟨(w.heap.size + 1), 0, none⟩) (by show w.heap.size ≤ (w.heap.size + 1); omega) (.int .i64 2)).setCell (p := ⟨(w.heap.size + 1), 1, none⟩) (by show w.heap.size ≤ (w.heap.size + 1); omega) (.int .i64 0)).setCell (p := ⟨(w.heap.size + 1), 2, none⟩) (by show w.heap.size ≤ (w.heap.size + 1); omega) (.int .i64 1)).setCell (p := ⟨(w.heap.size + 1), 3, none⟩) (by show w.heap.size ≤ (w.heap.size + 1); omega) (.int .i64 0))⟩
          )
        · rw [decide_eq_false hg] at hand
          obtain ⟨l2, hl2⟩ : ∃ x, 2 * c + 1 = x := ⟨_, rfl⟩
          obtain ⟨e1, he1⟩ : ∃ x, l2 = x := ⟨_, rfl⟩
          have hln : lastN c true = e1 := by
            unfold lastN
            simp only [if_true, hl2]
            rw [if_neg (by omega)]; exact he1
          have hr : normalP ⟨a, b, c, d⟩ true = ⟨a, b + 1, e1, d⟩ := by
            unfold normalP
            simp only [hln]
            rw [if_neg (by simp), if_neg (by simp), if_neg (by omega)]
          rw [hr]
          have hw0 : IntKind.i64.wrap (2 * (c : Int)) = ((2 * c : Nat) : Int) := (IntWalk.i64_in _ (by omega)).trans (by omega)
          have hw1 : IntKind.i64.wrap (((2 * c : Nat) : Int) + 1) = (l2 : Int) := (IntWalk.i64_in _ (by omega)).trans (by omega)
          have hbg : ¬ 32 ≤ l2 := by omega
          obtain ⟨cc, hcc⟩ : ∃ x, 2 * c = x := ⟨_, rfl⟩
          rw [hcc] at hw0 hw1
          have HCC := hide hcc
          have HL2 := hide hl2
          have HE1 := hide he1
          clear hr hln hg hcc hl2 he1
          have hwb : IntKind.i64.wrap ((b : Int) + 1) = ((b + 1 : Nat) : Int) := (IntWalk.i64_in _ (by omega)).trans (by omega)
          obtain ⟨b1, hb1⟩ : ∃ x, b + 1 = x := ⟨_, rfl⟩
          rw [hb1] at hwb
          have hn10 : ((b1 : Int) == 10) = false := by simp; omega
          have HB1 := hide hb1
          rw [hb1]
          clear hb1
          have HB := allocs_below w [.cells #[.int .i64 (a : Int), .int .i64 (b : Int), .int .i64 (c : Int), .int .i64 (d : Int)] 105, .cells #[.int .i64 0, .int .i64 0, .int .i64 0, .int .i64 0] 105]
          have K_p : Blk (allocs w [.cells #[.int .i64 (a : Int), .int .i64 (b : Int), .int .i64 (c : Int), .int .i64 (d : Int)] 105, .cells #[.int .i64 0, .int .i64 0, .int .i64 0, .int .i64 0] 105]) (w.heap.size + 0) 105 #[.int .i64 (a : Int), .int .i64 (b : Int), .int .i64 (c : Int), .int .i64 (d : Int)] := allocs_at w [.cells #[.int .i64 (a : Int), .int .i64 (b : Int), .int .i64 (c : Int), .int .i64 (d : Int)] 105, .cells #[.int .i64 0, .int .i64 0, .int .i64 0, .int .i64 0] 105] 0 rfl
          have K_r : Blk (allocs w [.cells #[.int .i64 (a : Int), .int .i64 (b : Int), .int .i64 (c : Int), .int .i64 (d : Int)] 105, .cells #[.int .i64 0, .int .i64 0, .int .i64 0, .int .i64 0] 105]) (w.heap.size + 1) 105 #[.int .i64 0, .int .i64 0, .int .i64 0, .int .i64 0] := allocs_at w [.cells #[.int .i64 (a : Int), .int .i64 (b : Int), .int .i64 (c : Int), .int .i64 (d : Int)] 105, .cells #[.int .i64 0, .int .i64 0, .int .i64 0, .int .i64 0] 105] 1 rfl
          unfold allocs at HB K_p K_r
          simp only [List.foldl_cons, List.foldl_nil] at HB K_p K_r
          rw [Nat.add_zero] at K_p
          go_enter Tryz.func95, Tryz.ntmps95
          go_upto_region 1 with (fail)
          generalize ((w.alloc (.cells #[.int .i64 (a : Int), .int .i64 (b : Int), .int .i64 (c : Int), .int .i64 (d : Int)] 105)).alloc (.cells #[.int .i64 0, .int .i64 0, .int .i64 0, .int .i64 0] 105)) = w0 at *
          replace K_p := hide K_p
          replace K_r := hide K_r
          replace HB := hide HB
          have p0 := (Blk.cell K_p.out 0).trans (rfl : _ = some (Value.int .i64 (a : Int)))
          have p1 := (Blk.cell K_p.out 1).trans (rfl : _ = some (Value.int .i64 (b : Int)))
          have p2 := (Blk.cell K_p.out 2).trans (rfl : _ = some (Value.int .i64 (c : Int)))
          have p3 := (Blk.cell K_p.out 3).trans (rfl : _ = some (Value.int .i64 (d : Int)))
          have pf2 := Blk.frozen K_p.out 2
          go_upto_region 4 with (fail)
          go_region_with (go_at_call 135; refine (bit_one _).mono ?_; rintro e wb ⟨rfl, hwb2⟩; subst hwb2)
          all_goals (
            clear p0 p1 p2 p3 pf2
            replace K_r := K_r.out.far (p := ⟨w.heap.size, 2, none⟩) (by show (w.heap.size + 1) ≠ w.heap.size; omega) (.int .i64 (l2 : Int))
            replace K_p : Blk (w0.setCell ⟨w.heap.size, 2, none⟩ (.int .i64 (l2 : Int))) w.heap.size 105 #[.int .i64 (a : Int), .int .i64 (b : Int), .int .i64 (l2 : Int), .int .i64 (d : Int)] := K_p.out.set_ 2 (.int .i64 (l2 : Int))
            replace HB := HB.out.setCell (p := ⟨w.heap.size, 2, none⟩) (by show w.heap.size ≤ w.heap.size; omega) (.int .i64 (l2 : Int))
            generalize w0.setCell ⟨w.heap.size, 2, none⟩ (.int .i64 (l2 : Int)) = w1 at *
            replace K_p := hide K_p
            replace K_r := hide K_r
            replace HB := hide HB
            replace K_p := K_p.out.drew
            replace K_r := K_r.out.drew
            replace HB := HB.out.drew
            generalize w1.drew = w2 at *
            replace K_p := hide K_p
            replace K_r := hide K_r
            replace HB := hide HB
            have p0 := (Blk.cell K_p.out 0).trans (rfl : _ = some (Value.int .i64 (a : Int)))
            have p1 := (Blk.cell K_p.out 1).trans (rfl : _ = some (Value.int .i64 (b : Int)))
            have p2 := (Blk.cell K_p.out 2).trans (rfl : _ = some (Value.int .i64 (l2 : Int)))
            have p3 := (Blk.cell K_p.out 3).trans (rfl : _ = some (Value.int .i64 (d : Int)))
            have pf1 := Blk.frozen K_p.out 1
            go_upto_region 11 with (fail)
            clear p0 p1 p2 p3 pf1
            replace K_r := K_r.out.far (p := ⟨w.heap.size, 1, none⟩) (by show (w.heap.size + 1) ≠ w.heap.size; omega) (.int .i64 (b1 : Int))
            replace K_p : Blk (w2.setCell ⟨w.heap.size, 1, none⟩ (.int .i64 (b1 : Int))) w.heap.size 105 #[.int .i64 (a : Int), .int .i64 (b1 : Int), .int .i64 (l2 : Int), .int .i64 (d : Int)] := K_p.out.set_ 1 (.int .i64 (b1 : Int))
            replace HB := HB.out.setCell (p := ⟨w.heap.size, 1, none⟩) (by show w.heap.size ≤ w.heap.size; omega) (.int .i64 (b1 : Int))
            generalize w2.setCell ⟨w.heap.size, 1, none⟩ (.int .i64 (b1 : Int)) = w4 at *
            replace K_p := hide K_p
            replace K_r := hide K_r
            replace HB := hide HB
            obtain rfl : l2 = e1 := HE1.out
            have p0 := (Blk.cell K_p.out 0).trans (rfl : _ = some (Value.int .i64 (a : Int)))
            have p1 := (Blk.cell K_p.out 1).trans (rfl : _ = some (Value.int .i64 (b1 : Int)))
            have p2 := (Blk.cell K_p.out 2).trans (rfl : _ = some (Value.int .i64 (l2 : Int)))
            have p3 := (Blk.cell K_p.out 3).trans (rfl : _ = some (Value.int .i64 (d : Int)))
            have r0 := (Blk.cell K_r.out 0).trans (rfl : _ = some (Value.int .i64 0))
            have rf0 := Blk.frozen K_r.out 0
            have r1 := (Blk.cell K_r.out 1).trans (rfl : _ = some (Value.int .i64 0))
            have rf1 := Blk.frozen K_r.out 1
            have r2 := (Blk.cell K_r.out 2).trans (rfl : _ = some (Value.int .i64 0))
            have rf2 := Blk.frozen K_r.out 2
            have r3 := (Blk.cell K_r.out 3).trans (rfl : _ = some (Value.int .i64 0))
            have rf3 := Blk.frozen K_r.out 3
            go_wp2_with fail
            have rc0 := (Blk.cell ((((K_r.out.set_ 0 (.int .i64 (a : Int))).set_ 1 (.int .i64 (b1 : Int))).set_ 2 (.int .i64 (l2 : Int))).set_ 3 (.int .i64 (d : Int))) 0).trans (rfl : _ = some (Value.int .i64 (a : Int)))
            have rc1 := (Blk.cell ((((K_r.out.set_ 0 (.int .i64 (a : Int))).set_ 1 (.int .i64 (b1 : Int))).set_ 2 (.int .i64 (l2 : Int))).set_ 3 (.int .i64 (d : Int))) 1).trans (rfl : _ = some (Value.int .i64 (b1 : Int)))
            have rc2 := (Blk.cell ((((K_r.out.set_ 0 (.int .i64 (a : Int))).set_ 1 (.int .i64 (b1 : Int))).set_ 2 (.int .i64 (l2 : Int))).set_ 3 (.int .i64 (d : Int))) 2).trans (rfl : _ = some (Value.int .i64 (l2 : Int)))
            have rc3 := (Blk.cell ((((K_r.out.set_ 0 (.int .i64 (a : Int))).set_ 1 (.int .i64 (b1 : Int))).set_ 2 (.int .i64 (l2 : Int))).set_ 3 (.int .i64 (d : Int))) 3).trans (rfl : _ = some (Value.int .i64 (d : Int)))
            exact bodyPost_ret (v := .agg #[.int .i64 (a : Int), .int .i64 (b1 : Int), .int .i64 (l2 : Int), .int .i64 (d : Int)]) (by simp [results, Tryz.results95, go_sem, rc0, rc1, rc2, rc3]) rfl ⟨rfl, ((((HB.out.setCell (p := ⟨(w.heap.size + 1), 0, none⟩) (by show w.heap.size ≤ (w.heap.size + 1); omega) (.int .i64 (a : Int))).setCell (p := ⟨(w.heap.size + 1), 1, none⟩) (by show w.heap.size ≤ (w.heap.size + 1); omega) (.int .i64 (b1 : Int))).setCell (p := ⟨(w.heap.size + 1), 2, none⟩) (by show w.heap.size ≤ (w.heap.size + 1); omega) (.int .i64 (l2 : Int))).setCell (p := ⟨(w.heap.size + 1), 3, none⟩) (by show w.heap.size ≤ (w.heap.size + 1); omega) (.int .i64 (d : Int)))⟩
          )
set_option maxRecDepth 100000 in
set_option maxHeartbeats 4000000 in
theorem tightened_any (w : World) (a b c d : Nat) (ok : Bool) (hb : b ≤ 4) (hd : d ≤ 4) :
    Calls Tryz.prog 96 #[.agg #[.int .i64 (a : Int), .int .i64 (b : Int), .int .i64 (c : Int), .int .i64 (d : Int)], .bool ok] w fun e w' => e = .returned (ptV (tightP ⟨a, b, c, d⟩ ok)) ∧ Below w.heap.size w w' := by
  cases ok with
  | false =>
    by_cases hx : d + 1 = 5
    · have hr : tightP ⟨a, b, c, d⟩ false = begunP 3 := by
        unfold tightP
        simp only [Bool.false_eq_true, if_false]
        rw [if_pos hx]
      rw [hr]
      clear hr
      have hwx : IntKind.i64.wrap ((d : Int) + 1) = ((d + 1 : Nat) : Int) := (IntWalk.i64_in _ (by omega)).trans (by omega)
      obtain ⟨x1, hx1⟩ : ∃ x, d + 1 = x := ⟨_, rfl⟩
      rw [hx1] at hwx hx
      subst hx
      have HX1 := hide hx1
      clear hx1
      have HB := allocs_below w [.cells #[.int .i64 (a : Int), .int .i64 (b : Int), .int .i64 (c : Int), .int .i64 (d : Int)] 105, .cells #[.int .i64 0, .int .i64 0, .int .i64 0, .int .i64 0] 105]
      have K_p : Blk (allocs w [.cells #[.int .i64 (a : Int), .int .i64 (b : Int), .int .i64 (c : Int), .int .i64 (d : Int)] 105, .cells #[.int .i64 0, .int .i64 0, .int .i64 0, .int .i64 0] 105]) (w.heap.size + 0) 105 #[.int .i64 (a : Int), .int .i64 (b : Int), .int .i64 (c : Int), .int .i64 (d : Int)] := allocs_at w [.cells #[.int .i64 (a : Int), .int .i64 (b : Int), .int .i64 (c : Int), .int .i64 (d : Int)] 105, .cells #[.int .i64 0, .int .i64 0, .int .i64 0, .int .i64 0] 105] 0 rfl
      have K_r : Blk (allocs w [.cells #[.int .i64 (a : Int), .int .i64 (b : Int), .int .i64 (c : Int), .int .i64 (d : Int)] 105, .cells #[.int .i64 0, .int .i64 0, .int .i64 0, .int .i64 0] 105]) (w.heap.size + 1) 105 #[.int .i64 0, .int .i64 0, .int .i64 0, .int .i64 0] := allocs_at w [.cells #[.int .i64 (a : Int), .int .i64 (b : Int), .int .i64 (c : Int), .int .i64 (d : Int)] 105, .cells #[.int .i64 0, .int .i64 0, .int .i64 0, .int .i64 0] 105] 1 rfl
      unfold allocs at HB K_p K_r
      simp only [List.foldl_cons, List.foldl_nil] at HB K_p K_r
      rw [Nat.add_zero] at K_p
      go_enter Tryz.func96, Tryz.ntmps96
      go_upto_region 1 with (fail)
      generalize ((w.alloc (.cells #[.int .i64 (a : Int), .int .i64 (b : Int), .int .i64 (c : Int), .int .i64 (d : Int)] 105)).alloc (.cells #[.int .i64 0, .int .i64 0, .int .i64 0, .int .i64 0] 105)) = w0 at *
      replace K_p := hide K_p
      replace K_r := hide K_r
      replace HB := hide HB
      have p0 := (Blk.cell K_p.out 0).trans (rfl : _ = some (Value.int .i64 (a : Int)))
      have p1 := (Blk.cell K_p.out 1).trans (rfl : _ = some (Value.int .i64 (b : Int)))
      have p2 := (Blk.cell K_p.out 2).trans (rfl : _ = some (Value.int .i64 (c : Int)))
      have p3 := (Blk.cell K_p.out 3).trans (rfl : _ = some (Value.int .i64 (d : Int)))
      have pf1 := Blk.frozen K_p.out 1
      go_upto_region 7 with (fail)
      clear p0 p1 p2 p3 pf1
      replace K_r := K_r.out.far (p := ⟨w.heap.size, 1, none⟩) (by show (w.heap.size + 1) ≠ w.heap.size; omega) (.int .i64 0)
      replace K_p : Blk (w0.setCell ⟨w.heap.size, 1, none⟩ (.int .i64 0)) w.heap.size 105 #[.int .i64 (a : Int), .int .i64 0, .int .i64 (c : Int), .int .i64 (d : Int)] := K_p.out.set_ 1 (.int .i64 0)
      replace HB := HB.out.setCell (p := ⟨w.heap.size, 1, none⟩) (by show w.heap.size ≤ w.heap.size; omega) (.int .i64 0)
      generalize w0.setCell ⟨w.heap.size, 1, none⟩ (.int .i64 0) = w1 at *
      replace K_p := hide K_p
      replace K_r := hide K_r
      replace HB := hide HB
      have p0 := (Blk.cell K_p.out 0).trans (rfl : _ = some (Value.int .i64 (a : Int)))
      have p1 := (Blk.cell K_p.out 1).trans (rfl : _ = some (Value.int .i64 0))
      have p2 := (Blk.cell K_p.out 2).trans (rfl : _ = some (Value.int .i64 (c : Int)))
      have p3 := (Blk.cell K_p.out 3).trans (rfl : _ = some (Value.int .i64 (d : Int)))
      have pf := Blk.frozen K_p.out 3
      go_upto_region 8 with (fail)
      clear p0 p1 p2 p3 pf
      replace K_r := K_r.out.far (p := ⟨w.heap.size, 3, none⟩) (by show (w.heap.size + 1) ≠ w.heap.size; omega) (.int .i64 5)
      replace K_p : Blk (w1.setCell ⟨w.heap.size, 3, none⟩ (.int .i64 5)) w.heap.size 105 #[.int .i64 (a : Int), .int .i64 0, .int .i64 (c : Int), .int .i64 5] := K_p.out.set_ 3 (.int .i64 5)
      replace HB := HB.out.setCell (p := ⟨w.heap.size, 3, none⟩) (by show w.heap.size ≤ w.heap.size; omega) (.int .i64 5)
      generalize w1.setCell ⟨w.heap.size, 3, none⟩ (.int .i64 5) = w2 at *
      replace K_p := hide K_p
      replace K_r := hide K_r
      replace HB := hide HB
      have p0 := (Blk.cell K_p.out 0).trans (rfl : _ = some (Value.int .i64 (a : Int)))
      have p1 := (Blk.cell K_p.out 1).trans (rfl : _ = some (Value.int .i64 0))
      have p2 := (Blk.cell K_p.out 2).trans (rfl : _ = some (Value.int .i64 (c : Int)))
      have p3 := (Blk.cell K_p.out 3).trans (rfl : _ = some (Value.int .i64 5))
      go_wp2_with fail
      refine (begun_any _ 3).mono ?_
      rintro e wb ⟨rfl, hb⟩
      clear p0 p1 p2 p3
      replace K_p := hide (Blk.below K_p.out hb (Blk.lt K_p.out))
      replace K_r := hide (Blk.below K_r.out hb (Blk.lt K_r.out))
      replace HB := hide (HB.out.trans (hb.mono HB.out.size))
      clear hb
      have r0 := (Blk.cell K_r.out 0).trans (rfl : _ = some (Value.int .i64 0))
      have rf0 := Blk.frozen K_r.out 0
      have r1 := (Blk.cell K_r.out 1).trans (rfl : _ = some (Value.int .i64 0))
      have rf1 := Blk.frozen K_r.out 1
      have r2 := (Blk.cell K_r.out 2).trans (rfl : _ = some (Value.int .i64 0))
      have rf2 := Blk.frozen K_r.out 2
      have r3 := (Blk.cell K_r.out 3).trans (rfl : _ = some (Value.int .i64 0))
      have rf3 := Blk.frozen K_r.out 3
      go_wp2_with fail
      have rc0 := (Blk.cell ((((K_r.out.set_ 0 (.int .i64 3)).set_ 1 (.int .i64 0)).set_ 2 (.int .i64 1)).set_ 3 (.int .i64 0)) 0).trans (rfl : _ = some (Value.int .i64 3))
      have rc1 := (Blk.cell ((((K_r.out.set_ 0 (.int .i64 3)).set_ 1 (.int .i64 0)).set_ 2 (.int .i64 1)).set_ 3 (.int .i64 0)) 1).trans (rfl : _ = some (Value.int .i64 0))
      have rc2 := (Blk.cell ((((K_r.out.set_ 0 (.int .i64 3)).set_ 1 (.int .i64 0)).set_ 2 (.int .i64 1)).set_ 3 (.int .i64 0)) 2).trans (rfl : _ = some (Value.int .i64 1))
      have rc3 := (Blk.cell ((((K_r.out.set_ 0 (.int .i64 3)).set_ 1 (.int .i64 0)).set_ 2 (.int .i64 1)).set_ 3 (.int .i64 0)) 3).trans (rfl : _ = some (Value.int .i64 0))
      exact bodyPost_ret (v := .agg #[.int .i64 3, .int .i64 0, .int .i64 1, .int .i64 0]) (by simp [results, Tryz.results96, go_sem, rc0, rc1, rc2, rc3]) rfl ⟨rfl, ((((HB.out.setCell (p := ⟨(w.heap.size + 1), 0, none⟩) (by show w.heap.size ≤ (w.heap.size + 1); omega) (.int .i64 3)).setCell (p := ⟨(w.heap.size + 1), 1, none⟩) (by show w.heap.size ≤ (w.heap.size + 1); omega) (.int .i64 0)).setCell (p := ⟨(w.heap.size + 1), 2, none⟩) (by show w.heap.size ≤ (w.heap.size + 1); omega) (.int .i64 1)).setCell (p := ⟨(w.heap.size + 1), 3, none⟩) (by show w.heap.size ≤ (w.heap.size + 1); omega) (.int .i64 0))⟩
    · have hr : tightP ⟨a, b, c, d⟩ false = ⟨a, 0, c, d + 1⟩ := by
        unfold tightP
        simp only [Bool.false_eq_true, if_false]
        rw [if_neg hx]
      rw [hr]
      clear hr
      have hwx : IntKind.i64.wrap ((d : Int) + 1) = ((d + 1 : Nat) : Int) := (IntWalk.i64_in _ (by omega)).trans (by omega)
      obtain ⟨x1, hx1⟩ : ∃ x, d + 1 = x := ⟨_, rfl⟩
      rw [hx1] at hwx hx
      rw [hx1]
      have hn5 : ((x1 : Int) == 5) = false := by simp; omega
      have HX1 := hide hx1
      clear hx1
      have HB := allocs_below w [.cells #[.int .i64 (a : Int), .int .i64 (b : Int), .int .i64 (c : Int), .int .i64 (d : Int)] 105, .cells #[.int .i64 0, .int .i64 0, .int .i64 0, .int .i64 0] 105]
      have K_p : Blk (allocs w [.cells #[.int .i64 (a : Int), .int .i64 (b : Int), .int .i64 (c : Int), .int .i64 (d : Int)] 105, .cells #[.int .i64 0, .int .i64 0, .int .i64 0, .int .i64 0] 105]) (w.heap.size + 0) 105 #[.int .i64 (a : Int), .int .i64 (b : Int), .int .i64 (c : Int), .int .i64 (d : Int)] := allocs_at w [.cells #[.int .i64 (a : Int), .int .i64 (b : Int), .int .i64 (c : Int), .int .i64 (d : Int)] 105, .cells #[.int .i64 0, .int .i64 0, .int .i64 0, .int .i64 0] 105] 0 rfl
      have K_r : Blk (allocs w [.cells #[.int .i64 (a : Int), .int .i64 (b : Int), .int .i64 (c : Int), .int .i64 (d : Int)] 105, .cells #[.int .i64 0, .int .i64 0, .int .i64 0, .int .i64 0] 105]) (w.heap.size + 1) 105 #[.int .i64 0, .int .i64 0, .int .i64 0, .int .i64 0] := allocs_at w [.cells #[.int .i64 (a : Int), .int .i64 (b : Int), .int .i64 (c : Int), .int .i64 (d : Int)] 105, .cells #[.int .i64 0, .int .i64 0, .int .i64 0, .int .i64 0] 105] 1 rfl
      unfold allocs at HB K_p K_r
      simp only [List.foldl_cons, List.foldl_nil] at HB K_p K_r
      rw [Nat.add_zero] at K_p
      go_enter Tryz.func96, Tryz.ntmps96
      go_upto_region 1 with (fail)
      generalize ((w.alloc (.cells #[.int .i64 (a : Int), .int .i64 (b : Int), .int .i64 (c : Int), .int .i64 (d : Int)] 105)).alloc (.cells #[.int .i64 0, .int .i64 0, .int .i64 0, .int .i64 0] 105)) = w0 at *
      replace K_p := hide K_p
      replace K_r := hide K_r
      replace HB := hide HB
      have p0 := (Blk.cell K_p.out 0).trans (rfl : _ = some (Value.int .i64 (a : Int)))
      have p1 := (Blk.cell K_p.out 1).trans (rfl : _ = some (Value.int .i64 (b : Int)))
      have p2 := (Blk.cell K_p.out 2).trans (rfl : _ = some (Value.int .i64 (c : Int)))
      have p3 := (Blk.cell K_p.out 3).trans (rfl : _ = some (Value.int .i64 (d : Int)))
      have pf1 := Blk.frozen K_p.out 1
      go_upto_region 7 with (fail)
      clear p0 p1 p2 p3 pf1
      replace K_r := K_r.out.far (p := ⟨w.heap.size, 1, none⟩) (by show (w.heap.size + 1) ≠ w.heap.size; omega) (.int .i64 0)
      replace K_p : Blk (w0.setCell ⟨w.heap.size, 1, none⟩ (.int .i64 0)) w.heap.size 105 #[.int .i64 (a : Int), .int .i64 0, .int .i64 (c : Int), .int .i64 (d : Int)] := K_p.out.set_ 1 (.int .i64 0)
      replace HB := HB.out.setCell (p := ⟨w.heap.size, 1, none⟩) (by show w.heap.size ≤ w.heap.size; omega) (.int .i64 0)
      generalize w0.setCell ⟨w.heap.size, 1, none⟩ (.int .i64 0) = w1 at *
      replace K_p := hide K_p
      replace K_r := hide K_r
      replace HB := hide HB
      have p0 := (Blk.cell K_p.out 0).trans (rfl : _ = some (Value.int .i64 (a : Int)))
      have p1 := (Blk.cell K_p.out 1).trans (rfl : _ = some (Value.int .i64 0))
      have p2 := (Blk.cell K_p.out 2).trans (rfl : _ = some (Value.int .i64 (c : Int)))
      have p3 := (Blk.cell K_p.out 3).trans (rfl : _ = some (Value.int .i64 (d : Int)))
      have pf := Blk.frozen K_p.out 3
      go_upto_region 8 with (fail)
      clear p0 p1 p2 p3 pf
      replace K_r := K_r.out.far (p := ⟨w.heap.size, 3, none⟩) (by show (w.heap.size + 1) ≠ w.heap.size; omega) (.int .i64 (x1 : Int))
      replace K_p : Blk (w1.setCell ⟨w.heap.size, 3, none⟩ (.int .i64 (x1 : Int))) w.heap.size 105 #[.int .i64 (a : Int), .int .i64 0, .int .i64 (c : Int), .int .i64 (x1 : Int)] := K_p.out.set_ 3 (.int .i64 (x1 : Int))
      replace HB := HB.out.setCell (p := ⟨w.heap.size, 3, none⟩) (by show w.heap.size ≤ w.heap.size; omega) (.int .i64 (x1 : Int))
      generalize w1.setCell ⟨w.heap.size, 3, none⟩ (.int .i64 (x1 : Int)) = w2 at *
      replace K_p := hide K_p
      replace K_r := hide K_r
      replace HB := hide HB
      have p0 := (Blk.cell K_p.out 0).trans (rfl : _ = some (Value.int .i64 (a : Int)))
      have p1 := (Blk.cell K_p.out 1).trans (rfl : _ = some (Value.int .i64 0))
      have p2 := (Blk.cell K_p.out 2).trans (rfl : _ = some (Value.int .i64 (c : Int)))
      have p3 := (Blk.cell K_p.out 3).trans (rfl : _ = some (Value.int .i64 (x1 : Int)))
      have r0 := (Blk.cell K_r.out 0).trans (rfl : _ = some (Value.int .i64 0))
      have rf0 := Blk.frozen K_r.out 0
      have r1 := (Blk.cell K_r.out 1).trans (rfl : _ = some (Value.int .i64 0))
      have rf1 := Blk.frozen K_r.out 1
      have r2 := (Blk.cell K_r.out 2).trans (rfl : _ = some (Value.int .i64 0))
      have rf2 := Blk.frozen K_r.out 2
      have r3 := (Blk.cell K_r.out 3).trans (rfl : _ = some (Value.int .i64 0))
      have rf3 := Blk.frozen K_r.out 3
      go_wp2_with fail
      have rc0 := (Blk.cell ((((K_r.out.set_ 0 (.int .i64 (a : Int))).set_ 1 (.int .i64 0)).set_ 2 (.int .i64 (c : Int))).set_ 3 (.int .i64 (x1 : Int))) 0).trans (rfl : _ = some (Value.int .i64 (a : Int)))
      have rc1 := (Blk.cell ((((K_r.out.set_ 0 (.int .i64 (a : Int))).set_ 1 (.int .i64 0)).set_ 2 (.int .i64 (c : Int))).set_ 3 (.int .i64 (x1 : Int))) 1).trans (rfl : _ = some (Value.int .i64 0))
      have rc2 := (Blk.cell ((((K_r.out.set_ 0 (.int .i64 (a : Int))).set_ 1 (.int .i64 0)).set_ 2 (.int .i64 (c : Int))).set_ 3 (.int .i64 (x1 : Int))) 2).trans (rfl : _ = some (Value.int .i64 (c : Int)))
      have rc3 := (Blk.cell ((((K_r.out.set_ 0 (.int .i64 (a : Int))).set_ 1 (.int .i64 0)).set_ 2 (.int .i64 (c : Int))).set_ 3 (.int .i64 (x1 : Int))) 3).trans (rfl : _ = some (Value.int .i64 (x1 : Int)))
      exact bodyPost_ret (v := .agg #[.int .i64 (a : Int), .int .i64 0, .int .i64 (c : Int), .int .i64 (x1 : Int)]) (by simp [results, Tryz.results96, go_sem, rc0, rc1, rc2, rc3]) rfl ⟨rfl, ((((HB.out.setCell (p := ⟨(w.heap.size + 1), 0, none⟩) (by show w.heap.size ≤ (w.heap.size + 1); omega) (.int .i64 (a : Int))).setCell (p := ⟨(w.heap.size + 1), 1, none⟩) (by show w.heap.size ≤ (w.heap.size + 1); omega) (.int .i64 0)).setCell (p := ⟨(w.heap.size + 1), 2, none⟩) (by show w.heap.size ≤ (w.heap.size + 1); omega) (.int .i64 (c : Int))).setCell (p := ⟨(w.heap.size + 1), 3, none⟩) (by show w.heap.size ≤ (w.heap.size + 1); omega) (.int .i64 (x1 : Int)))⟩
  | true =>
    by_cases hx : b + 1 = 5
    · have hr : tightP ⟨a, b, c, d⟩ true = begunP 0 := by
        unfold tightP
        simp only [if_true]
        rw [if_pos hx]
      rw [hr]
      clear hr
      have hwx : IntKind.i64.wrap ((b : Int) + 1) = ((b + 1 : Nat) : Int) := (IntWalk.i64_in _ (by omega)).trans (by omega)
      obtain ⟨x1, hx1⟩ : ∃ x, b + 1 = x := ⟨_, rfl⟩
      rw [hx1] at hwx hx
      subst hx
      have HX1 := hide hx1
      clear hx1
      have HB := allocs_below w [.cells #[.int .i64 (a : Int), .int .i64 (b : Int), .int .i64 (c : Int), .int .i64 (d : Int)] 105, .cells #[.int .i64 0, .int .i64 0, .int .i64 0, .int .i64 0] 105]
      have K_p : Blk (allocs w [.cells #[.int .i64 (a : Int), .int .i64 (b : Int), .int .i64 (c : Int), .int .i64 (d : Int)] 105, .cells #[.int .i64 0, .int .i64 0, .int .i64 0, .int .i64 0] 105]) (w.heap.size + 0) 105 #[.int .i64 (a : Int), .int .i64 (b : Int), .int .i64 (c : Int), .int .i64 (d : Int)] := allocs_at w [.cells #[.int .i64 (a : Int), .int .i64 (b : Int), .int .i64 (c : Int), .int .i64 (d : Int)] 105, .cells #[.int .i64 0, .int .i64 0, .int .i64 0, .int .i64 0] 105] 0 rfl
      have K_r : Blk (allocs w [.cells #[.int .i64 (a : Int), .int .i64 (b : Int), .int .i64 (c : Int), .int .i64 (d : Int)] 105, .cells #[.int .i64 0, .int .i64 0, .int .i64 0, .int .i64 0] 105]) (w.heap.size + 1) 105 #[.int .i64 0, .int .i64 0, .int .i64 0, .int .i64 0] := allocs_at w [.cells #[.int .i64 (a : Int), .int .i64 (b : Int), .int .i64 (c : Int), .int .i64 (d : Int)] 105, .cells #[.int .i64 0, .int .i64 0, .int .i64 0, .int .i64 0] 105] 1 rfl
      unfold allocs at HB K_p K_r
      simp only [List.foldl_cons, List.foldl_nil] at HB K_p K_r
      rw [Nat.add_zero] at K_p
      go_enter Tryz.func96, Tryz.ntmps96
      go_upto_region 1 with (fail)
      generalize ((w.alloc (.cells #[.int .i64 (a : Int), .int .i64 (b : Int), .int .i64 (c : Int), .int .i64 (d : Int)] 105)).alloc (.cells #[.int .i64 0, .int .i64 0, .int .i64 0, .int .i64 0] 105)) = w0 at *
      replace K_p := hide K_p
      replace K_r := hide K_r
      replace HB := hide HB
      have p0 := (Blk.cell K_p.out 0).trans (rfl : _ = some (Value.int .i64 (a : Int)))
      have p1 := (Blk.cell K_p.out 1).trans (rfl : _ = some (Value.int .i64 (b : Int)))
      have p2 := (Blk.cell K_p.out 2).trans (rfl : _ = some (Value.int .i64 (c : Int)))
      have p3 := (Blk.cell K_p.out 3).trans (rfl : _ = some (Value.int .i64 (d : Int)))
      have pf := Blk.frozen K_p.out 1
      go_upto_region 3 with (fail)
      clear p0 p1 p2 p3 pf
      replace K_r := K_r.out.far (p := ⟨w.heap.size, 1, none⟩) (by show (w.heap.size + 1) ≠ w.heap.size; omega) (.int .i64 5)
      replace K_p : Blk (w0.setCell ⟨w.heap.size, 1, none⟩ (.int .i64 5)) w.heap.size 105 #[.int .i64 (a : Int), .int .i64 5, .int .i64 (c : Int), .int .i64 (d : Int)] := K_p.out.set_ 1 (.int .i64 5)
      replace HB := HB.out.setCell (p := ⟨w.heap.size, 1, none⟩) (by show w.heap.size ≤ w.heap.size; omega) (.int .i64 5)
      generalize w0.setCell ⟨w.heap.size, 1, none⟩ (.int .i64 5) = w2 at *
      replace K_p := hide K_p
      replace K_r := hide K_r
      replace HB := hide HB
      have p0 := (Blk.cell K_p.out 0).trans (rfl : _ = some (Value.int .i64 (a : Int)))
      have p1 := (Blk.cell K_p.out 1).trans (rfl : _ = some (Value.int .i64 5))
      have p2 := (Blk.cell K_p.out 2).trans (rfl : _ = some (Value.int .i64 (c : Int)))
      have p3 := (Blk.cell K_p.out 3).trans (rfl : _ = some (Value.int .i64 (d : Int)))
      go_wp2_with fail
      refine (begun_any _ 0).mono ?_
      rintro e wb ⟨rfl, hb⟩
      clear p0 p1 p2 p3
      replace K_p := hide (Blk.below K_p.out hb (Blk.lt K_p.out))
      replace K_r := hide (Blk.below K_r.out hb (Blk.lt K_r.out))
      replace HB := hide (HB.out.trans (hb.mono HB.out.size))
      clear hb
      have r0 := (Blk.cell K_r.out 0).trans (rfl : _ = some (Value.int .i64 0))
      have rf0 := Blk.frozen K_r.out 0
      have r1 := (Blk.cell K_r.out 1).trans (rfl : _ = some (Value.int .i64 0))
      have rf1 := Blk.frozen K_r.out 1
      have r2 := (Blk.cell K_r.out 2).trans (rfl : _ = some (Value.int .i64 0))
      have rf2 := Blk.frozen K_r.out 2
      have r3 := (Blk.cell K_r.out 3).trans (rfl : _ = some (Value.int .i64 0))
      have rf3 := Blk.frozen K_r.out 3
      go_wp2_with fail
      have rc0 := (Blk.cell ((((K_r.out.set_ 0 (.int .i64 0)).set_ 1 (.int .i64 0)).set_ 2 (.int .i64 1)).set_ 3 (.int .i64 0)) 0).trans (rfl : _ = some (Value.int .i64 0))
      have rc1 := (Blk.cell ((((K_r.out.set_ 0 (.int .i64 0)).set_ 1 (.int .i64 0)).set_ 2 (.int .i64 1)).set_ 3 (.int .i64 0)) 1).trans (rfl : _ = some (Value.int .i64 0))
      have rc2 := (Blk.cell ((((K_r.out.set_ 0 (.int .i64 0)).set_ 1 (.int .i64 0)).set_ 2 (.int .i64 1)).set_ 3 (.int .i64 0)) 2).trans (rfl : _ = some (Value.int .i64 1))
      have rc3 := (Blk.cell ((((K_r.out.set_ 0 (.int .i64 0)).set_ 1 (.int .i64 0)).set_ 2 (.int .i64 1)).set_ 3 (.int .i64 0)) 3).trans (rfl : _ = some (Value.int .i64 0))
      exact bodyPost_ret (v := .agg #[.int .i64 0, .int .i64 0, .int .i64 1, .int .i64 0]) (by simp [results, Tryz.results96, go_sem, rc0, rc1, rc2, rc3]) rfl ⟨rfl, ((((HB.out.setCell (p := ⟨(w.heap.size + 1), 0, none⟩) (by show w.heap.size ≤ (w.heap.size + 1); omega) (.int .i64 0)).setCell (p := ⟨(w.heap.size + 1), 1, none⟩) (by show w.heap.size ≤ (w.heap.size + 1); omega) (.int .i64 0)).setCell (p := ⟨(w.heap.size + 1), 2, none⟩) (by show w.heap.size ≤ (w.heap.size + 1); omega) (.int .i64 1)).setCell (p := ⟨(w.heap.size + 1), 3, none⟩) (by show w.heap.size ≤ (w.heap.size + 1); omega) (.int .i64 0))⟩
    · have hr : tightP ⟨a, b, c, d⟩ true = ⟨a, b + 1, c, d⟩ := by
        unfold tightP
        simp only [if_true]
        rw [if_neg hx]
      rw [hr]
      clear hr
      have hwx : IntKind.i64.wrap ((b : Int) + 1) = ((b + 1 : Nat) : Int) := (IntWalk.i64_in _ (by omega)).trans (by omega)
      obtain ⟨x1, hx1⟩ : ∃ x, b + 1 = x := ⟨_, rfl⟩
      rw [hx1] at hwx hx
      rw [hx1]
      have hn5 : ((x1 : Int) == 5) = false := by simp; omega
      have HX1 := hide hx1
      clear hx1
      have HB := allocs_below w [.cells #[.int .i64 (a : Int), .int .i64 (b : Int), .int .i64 (c : Int), .int .i64 (d : Int)] 105, .cells #[.int .i64 0, .int .i64 0, .int .i64 0, .int .i64 0] 105]
      have K_p : Blk (allocs w [.cells #[.int .i64 (a : Int), .int .i64 (b : Int), .int .i64 (c : Int), .int .i64 (d : Int)] 105, .cells #[.int .i64 0, .int .i64 0, .int .i64 0, .int .i64 0] 105]) (w.heap.size + 0) 105 #[.int .i64 (a : Int), .int .i64 (b : Int), .int .i64 (c : Int), .int .i64 (d : Int)] := allocs_at w [.cells #[.int .i64 (a : Int), .int .i64 (b : Int), .int .i64 (c : Int), .int .i64 (d : Int)] 105, .cells #[.int .i64 0, .int .i64 0, .int .i64 0, .int .i64 0] 105] 0 rfl
      have K_r : Blk (allocs w [.cells #[.int .i64 (a : Int), .int .i64 (b : Int), .int .i64 (c : Int), .int .i64 (d : Int)] 105, .cells #[.int .i64 0, .int .i64 0, .int .i64 0, .int .i64 0] 105]) (w.heap.size + 1) 105 #[.int .i64 0, .int .i64 0, .int .i64 0, .int .i64 0] := allocs_at w [.cells #[.int .i64 (a : Int), .int .i64 (b : Int), .int .i64 (c : Int), .int .i64 (d : Int)] 105, .cells #[.int .i64 0, .int .i64 0, .int .i64 0, .int .i64 0] 105] 1 rfl
      unfold allocs at HB K_p K_r
      simp only [List.foldl_cons, List.foldl_nil] at HB K_p K_r
      rw [Nat.add_zero] at K_p
      go_enter Tryz.func96, Tryz.ntmps96
      go_upto_region 1 with (fail)
      generalize ((w.alloc (.cells #[.int .i64 (a : Int), .int .i64 (b : Int), .int .i64 (c : Int), .int .i64 (d : Int)] 105)).alloc (.cells #[.int .i64 0, .int .i64 0, .int .i64 0, .int .i64 0] 105)) = w0 at *
      replace K_p := hide K_p
      replace K_r := hide K_r
      replace HB := hide HB
      have p0 := (Blk.cell K_p.out 0).trans (rfl : _ = some (Value.int .i64 (a : Int)))
      have p1 := (Blk.cell K_p.out 1).trans (rfl : _ = some (Value.int .i64 (b : Int)))
      have p2 := (Blk.cell K_p.out 2).trans (rfl : _ = some (Value.int .i64 (c : Int)))
      have p3 := (Blk.cell K_p.out 3).trans (rfl : _ = some (Value.int .i64 (d : Int)))
      have pf := Blk.frozen K_p.out 1
      go_upto_region 3 with (fail)
      clear p0 p1 p2 p3 pf
      replace K_r := K_r.out.far (p := ⟨w.heap.size, 1, none⟩) (by show (w.heap.size + 1) ≠ w.heap.size; omega) (.int .i64 (x1 : Int))
      replace K_p : Blk (w0.setCell ⟨w.heap.size, 1, none⟩ (.int .i64 (x1 : Int))) w.heap.size 105 #[.int .i64 (a : Int), .int .i64 (x1 : Int), .int .i64 (c : Int), .int .i64 (d : Int)] := K_p.out.set_ 1 (.int .i64 (x1 : Int))
      replace HB := HB.out.setCell (p := ⟨w.heap.size, 1, none⟩) (by show w.heap.size ≤ w.heap.size; omega) (.int .i64 (x1 : Int))
      generalize w0.setCell ⟨w.heap.size, 1, none⟩ (.int .i64 (x1 : Int)) = w2 at *
      replace K_p := hide K_p
      replace K_r := hide K_r
      replace HB := hide HB
      have p0 := (Blk.cell K_p.out 0).trans (rfl : _ = some (Value.int .i64 (a : Int)))
      have p1 := (Blk.cell K_p.out 1).trans (rfl : _ = some (Value.int .i64 (x1 : Int)))
      have p2 := (Blk.cell K_p.out 2).trans (rfl : _ = some (Value.int .i64 (c : Int)))
      have p3 := (Blk.cell K_p.out 3).trans (rfl : _ = some (Value.int .i64 (d : Int)))
      have r0 := (Blk.cell K_r.out 0).trans (rfl : _ = some (Value.int .i64 0))
      have rf0 := Blk.frozen K_r.out 0
      have r1 := (Blk.cell K_r.out 1).trans (rfl : _ = some (Value.int .i64 0))
      have rf1 := Blk.frozen K_r.out 1
      have r2 := (Blk.cell K_r.out 2).trans (rfl : _ = some (Value.int .i64 0))
      have rf2 := Blk.frozen K_r.out 2
      have r3 := (Blk.cell K_r.out 3).trans (rfl : _ = some (Value.int .i64 0))
      have rf3 := Blk.frozen K_r.out 3
      go_wp2_with fail
      have rc0 := (Blk.cell ((((K_r.out.set_ 0 (.int .i64 (a : Int))).set_ 1 (.int .i64 (x1 : Int))).set_ 2 (.int .i64 (c : Int))).set_ 3 (.int .i64 (d : Int))) 0).trans (rfl : _ = some (Value.int .i64 (a : Int)))
      have rc1 := (Blk.cell ((((K_r.out.set_ 0 (.int .i64 (a : Int))).set_ 1 (.int .i64 (x1 : Int))).set_ 2 (.int .i64 (c : Int))).set_ 3 (.int .i64 (d : Int))) 1).trans (rfl : _ = some (Value.int .i64 (x1 : Int)))
      have rc2 := (Blk.cell ((((K_r.out.set_ 0 (.int .i64 (a : Int))).set_ 1 (.int .i64 (x1 : Int))).set_ 2 (.int .i64 (c : Int))).set_ 3 (.int .i64 (d : Int))) 2).trans (rfl : _ = some (Value.int .i64 (c : Int)))
      have rc3 := (Blk.cell ((((K_r.out.set_ 0 (.int .i64 (a : Int))).set_ 1 (.int .i64 (x1 : Int))).set_ 2 (.int .i64 (c : Int))).set_ 3 (.int .i64 (d : Int))) 3).trans (rfl : _ = some (Value.int .i64 (d : Int)))
      exact bodyPost_ret (v := .agg #[.int .i64 (a : Int), .int .i64 (x1 : Int), .int .i64 (c : Int), .int .i64 (d : Int)]) (by simp [results, Tryz.results96, go_sem, rc0, rc1, rc2, rc3]) rfl ⟨rfl, ((((HB.out.setCell (p := ⟨(w.heap.size + 1), 0, none⟩) (by show w.heap.size ≤ (w.heap.size + 1); omega) (.int .i64 (a : Int))).setCell (p := ⟨(w.heap.size + 1), 1, none⟩) (by show w.heap.size ≤ (w.heap.size + 1); omega) (.int .i64 (x1 : Int))).setCell (p := ⟨(w.heap.size + 1), 2, none⟩) (by show w.heap.size ≤ (w.heap.size + 1); omega) (.int .i64 (c : Int))).setCell (p := ⟨(w.heap.size + 1), 3, none⟩) (by show w.heap.size ≤ (w.heap.size + 1); omega) (.int .i64 (d : Int)))⟩
set_option maxRecDepth 100000 in
set_option maxHeartbeats 4000000 in
theorem reduced_any (w : World) (a b c d : Nat) (ok : Bool) :
    Calls Tryz.prog 97 #[.agg #[.int .i64 (a : Int), .int .i64 (b : Int), .int .i64 (c : Int), .int .i64 (d : Int)], .bool ok] w fun e w' => e = .returned (ptV (redP ⟨a, b, c, d⟩ ok)) ∧ Below w.heap.size w w' := by
  cases ok with
  | false =>
    have HB := allocs_below w [.cells #[.int .i64 (a : Int), .int .i64 (b : Int), .int .i64 (c : Int), .int .i64 (d : Int)] 105, .cells #[.int .i64 0, .int .i64 0, .int .i64 0, .int .i64 0] 105]
    have K_p : Blk (allocs w [.cells #[.int .i64 (a : Int), .int .i64 (b : Int), .int .i64 (c : Int), .int .i64 (d : Int)] 105, .cells #[.int .i64 0, .int .i64 0, .int .i64 0, .int .i64 0] 105]) (w.heap.size + 0) 105 #[.int .i64 (a : Int), .int .i64 (b : Int), .int .i64 (c : Int), .int .i64 (d : Int)] := allocs_at w [.cells #[.int .i64 (a : Int), .int .i64 (b : Int), .int .i64 (c : Int), .int .i64 (d : Int)] 105, .cells #[.int .i64 0, .int .i64 0, .int .i64 0, .int .i64 0] 105] 0 rfl
    have K_r : Blk (allocs w [.cells #[.int .i64 (a : Int), .int .i64 (b : Int), .int .i64 (c : Int), .int .i64 (d : Int)] 105, .cells #[.int .i64 0, .int .i64 0, .int .i64 0, .int .i64 0] 105]) (w.heap.size + 1) 105 #[.int .i64 0, .int .i64 0, .int .i64 0, .int .i64 0] := allocs_at w [.cells #[.int .i64 (a : Int), .int .i64 (b : Int), .int .i64 (c : Int), .int .i64 (d : Int)] 105, .cells #[.int .i64 0, .int .i64 0, .int .i64 0, .int .i64 0] 105] 1 rfl
    unfold allocs at HB K_p K_r
    simp only [List.foldl_cons, List.foldl_nil] at HB K_p K_r
    rw [Nat.add_zero] at K_p
    go_enter Tryz.func97, Tryz.ntmps97
    go_upto_region 1 with (fail)
    generalize ((w.alloc (.cells #[.int .i64 (a : Int), .int .i64 (b : Int), .int .i64 (c : Int), .int .i64 (d : Int)] 105)).alloc (.cells #[.int .i64 0, .int .i64 0, .int .i64 0, .int .i64 0] 105)) = w0 at *
    replace K_p := hide K_p
    replace K_r := hide K_r
    replace HB := hide HB
    go_wp2_with fail
    refine (begun_any _ 0).mono ?_
    rintro e wb ⟨rfl, hb⟩
    replace K_p := hide (Blk.below K_p.out hb (Blk.lt K_p.out))
    replace K_r := hide (Blk.below K_r.out hb (Blk.lt K_r.out))
    replace HB := hide (HB.out.trans (hb.mono HB.out.size))
    clear hb
    have r0 := (Blk.cell K_r.out 0).trans (rfl : _ = some (Value.int .i64 0))
    have rf0 := Blk.frozen K_r.out 0
    have r1 := (Blk.cell K_r.out 1).trans (rfl : _ = some (Value.int .i64 0))
    have rf1 := Blk.frozen K_r.out 1
    have r2 := (Blk.cell K_r.out 2).trans (rfl : _ = some (Value.int .i64 0))
    have rf2 := Blk.frozen K_r.out 2
    have r3 := (Blk.cell K_r.out 3).trans (rfl : _ = some (Value.int .i64 0))
    have rf3 := Blk.frozen K_r.out 3
    go_wp2_with fail
    have rc0 := (Blk.cell ((((K_r.out.set_ 0 (.int .i64 0)).set_ 1 (.int .i64 0)).set_ 2 (.int .i64 1)).set_ 3 (.int .i64 0)) 0).trans (rfl : _ = some (Value.int .i64 0))
    have rc1 := (Blk.cell ((((K_r.out.set_ 0 (.int .i64 0)).set_ 1 (.int .i64 0)).set_ 2 (.int .i64 1)).set_ 3 (.int .i64 0)) 1).trans (rfl : _ = some (Value.int .i64 0))
    have rc2 := (Blk.cell ((((K_r.out.set_ 0 (.int .i64 0)).set_ 1 (.int .i64 0)).set_ 2 (.int .i64 1)).set_ 3 (.int .i64 0)) 2).trans (rfl : _ = some (Value.int .i64 1))
    have rc3 := (Blk.cell ((((K_r.out.set_ 0 (.int .i64 0)).set_ 1 (.int .i64 0)).set_ 2 (.int .i64 1)).set_ 3 (.int .i64 0)) 3).trans (rfl : _ = some (Value.int .i64 0))
    exact bodyPost_ret (v := .agg #[.int .i64 0, .int .i64 0, .int .i64 1, .int .i64 0]) (by simp [results, Tryz.results97, go_sem, rc0, rc1, rc2, rc3]) rfl ⟨rfl, ((((HB.out.setCell (p := ⟨(w.heap.size + 1), 0, none⟩) (by show w.heap.size ≤ (w.heap.size + 1); omega) (.int .i64 0)).setCell (p := ⟨(w.heap.size + 1), 1, none⟩) (by show w.heap.size ≤ (w.heap.size + 1); omega) (.int .i64 0)).setCell (p := ⟨(w.heap.size + 1), 2, none⟩) (by show w.heap.size ≤ (w.heap.size + 1); omega) (.int .i64 1)).setCell (p := ⟨(w.heap.size + 1), 3, none⟩) (by show w.heap.size ≤ (w.heap.size + 1); omega) (.int .i64 0))⟩
  | true =>
    have HB := allocs_below w [.cells #[.int .i64 (a : Int), .int .i64 (b : Int), .int .i64 (c : Int), .int .i64 (d : Int)] 105, .cells #[.int .i64 0, .int .i64 0, .int .i64 0, .int .i64 0] 105]
    have K_p : Blk (allocs w [.cells #[.int .i64 (a : Int), .int .i64 (b : Int), .int .i64 (c : Int), .int .i64 (d : Int)] 105, .cells #[.int .i64 0, .int .i64 0, .int .i64 0, .int .i64 0] 105]) (w.heap.size + 0) 105 #[.int .i64 (a : Int), .int .i64 (b : Int), .int .i64 (c : Int), .int .i64 (d : Int)] := allocs_at w [.cells #[.int .i64 (a : Int), .int .i64 (b : Int), .int .i64 (c : Int), .int .i64 (d : Int)] 105, .cells #[.int .i64 0, .int .i64 0, .int .i64 0, .int .i64 0] 105] 0 rfl
    have K_r : Blk (allocs w [.cells #[.int .i64 (a : Int), .int .i64 (b : Int), .int .i64 (c : Int), .int .i64 (d : Int)] 105, .cells #[.int .i64 0, .int .i64 0, .int .i64 0, .int .i64 0] 105]) (w.heap.size + 1) 105 #[.int .i64 0, .int .i64 0, .int .i64 0, .int .i64 0] := allocs_at w [.cells #[.int .i64 (a : Int), .int .i64 (b : Int), .int .i64 (c : Int), .int .i64 (d : Int)] 105, .cells #[.int .i64 0, .int .i64 0, .int .i64 0, .int .i64 0] 105] 1 rfl
    unfold allocs at HB K_p K_r
    simp only [List.foldl_cons, List.foldl_nil] at HB K_p K_r
    rw [Nat.add_zero] at K_p
    go_enter Tryz.func97, Tryz.ntmps97
    go_upto_region 1 with (fail)
    generalize ((w.alloc (.cells #[.int .i64 (a : Int), .int .i64 (b : Int), .int .i64 (c : Int), .int .i64 (d : Int)] 105)).alloc (.cells #[.int .i64 0, .int .i64 0, .int .i64 0, .int .i64 0] 105)) = w0 at *
    replace K_p := hide K_p
    replace K_r := hide K_r
    replace HB := hide HB
    have p0 := (Blk.cell K_p.out 0).trans (rfl : _ = some (Value.int .i64 (a : Int)))
    have p1 := (Blk.cell K_p.out 1).trans (rfl : _ = some (Value.int .i64 (b : Int)))
    have p2 := (Blk.cell K_p.out 2).trans (rfl : _ = some (Value.int .i64 (c : Int)))
    have p3 := (Blk.cell K_p.out 3).trans (rfl : _ = some (Value.int .i64 (d : Int)))
    have r0 := (Blk.cell K_r.out 0).trans (rfl : _ = some (Value.int .i64 0))
    have rf0 := Blk.frozen K_r.out 0
    have r1 := (Blk.cell K_r.out 1).trans (rfl : _ = some (Value.int .i64 0))
    have rf1 := Blk.frozen K_r.out 1
    have r2 := (Blk.cell K_r.out 2).trans (rfl : _ = some (Value.int .i64 0))
    have rf2 := Blk.frozen K_r.out 2
    have r3 := (Blk.cell K_r.out 3).trans (rfl : _ = some (Value.int .i64 0))
    have rf3 := Blk.frozen K_r.out 3
    go_wp2_with fail
    have rc0 := (Blk.cell ((((K_r.out.set_ 0 (.int .i64 (a : Int))).set_ 1 (.int .i64 (b : Int))).set_ 2 (.int .i64 (c : Int))).set_ 3 (.int .i64 (d : Int))) 0).trans (rfl : _ = some (Value.int .i64 (a : Int)))
    have rc1 := (Blk.cell ((((K_r.out.set_ 0 (.int .i64 (a : Int))).set_ 1 (.int .i64 (b : Int))).set_ 2 (.int .i64 (c : Int))).set_ 3 (.int .i64 (d : Int))) 1).trans (rfl : _ = some (Value.int .i64 (b : Int)))
    have rc2 := (Blk.cell ((((K_r.out.set_ 0 (.int .i64 (a : Int))).set_ 1 (.int .i64 (b : Int))).set_ 2 (.int .i64 (c : Int))).set_ 3 (.int .i64 (d : Int))) 2).trans (rfl : _ = some (Value.int .i64 (c : Int)))
    have rc3 := (Blk.cell ((((K_r.out.set_ 0 (.int .i64 (a : Int))).set_ 1 (.int .i64 (b : Int))).set_ 2 (.int .i64 (c : Int))).set_ 3 (.int .i64 (d : Int))) 3).trans (rfl : _ = some (Value.int .i64 (d : Int)))
    exact bodyPost_ret (v := .agg #[.int .i64 (a : Int), .int .i64 (b : Int), .int .i64 (c : Int), .int .i64 (d : Int)]) (by simp [results, Tryz.results97, go_sem, rc0, rc1, rc2, rc3]) rfl ⟨rfl, ((((HB.out.setCell (p := ⟨(w.heap.size + 1), 0, none⟩) (by show w.heap.size ≤ (w.heap.size + 1); omega) (.int .i64 (a : Int))).setCell (p := ⟨(w.heap.size + 1), 1, none⟩) (by show w.heap.size ≤ (w.heap.size + 1); omega) (.int .i64 (b : Int))).setCell (p := ⟨(w.heap.size + 1), 2, none⟩) (by show w.heap.size ≤ (w.heap.size + 1); omega) (.int .i64 (c : Int))).setCell (p := ⟨(w.heap.size + 1), 3, none⟩) (by show w.heap.size ≤ (w.heap.size + 1); omega) (.int .i64 (d : Int)))⟩
theorem idx_fun (j : Nat) (hj : j < 3) (W : World) : (Instr.index 160 (.agg #[.func (Fn.func 95) #[] #[], .func (Fn.func 96) #[] #[], .func (Fn.func 97) #[] #[]]) (.int .i64 (j : Int))).run Tryz.prog W = .ok (.func (Fn.func (if j = 0 then 95 else if j = 1 then 96 else 97)) #[] #[]) W := by
  have hu : Tryz.prog.underlying 160 = some (.array 3 159) := by kernel_rfl
  obtain ⟨i, hi⟩ : ∃ i, Tryz.prog.info? 159 = some i := Option.isSome_iff_exists.1 (by kernel_rfl)
  have hs := run_sizeOf W hi
  have hc : Tryz.prog.cellsOf 159 = 1 := by kernel_rfl
  have hv : Tryz.prog.underlying 159 = Tryz.prog.underlying 159 := rfl
  rw [hc] at hs
  rcases (by omega : j = 0 ∨ j = 1 ∨ j = 2) with rfl | rfl | rfl
  · simp [Instr.index, run_underlying hu, asIntOf, hs, go_sem, part]
  · simp [Instr.index, run_underlying hu, asIntOf, hs, go_sem, part]
  · simp [Instr.index, run_underlying hu, asIntOf, hs, go_sem, part]
set_option maxRecDepth 100000 in
set_option maxHeartbeats 4000000 in
theorem goes_any (w : World) (p : Pt) (ok : Bool) (hp : OkP p) :
    Calls Tryz.prog 57 #[ptV p, .bool ok] w fun e w' => e = .returned (ptV (goesP p ok)) ∧ Below w.heap.size w w' := by
  obtain ⟨a, b, c, d⟩ := p
  obtain ⟨h1, h2, h3, h4, h5, h6, h7⟩ := hp
  simp only at h1 h2 h3 h4 h5 h6 h7
  show Calls Tryz.prog 57 #[.agg #[.int .i64 (a : Int), .int .i64 (b : Int), .int .i64 (c : Int), .int .i64 (d : Int)], .bool ok] w fun e w' => e = .returned (ptV (goesP ⟨a, b, c, d⟩ ok)) ∧ Below w.heap.size w w'
  rcases (by omega : a = 0 ∨ a = 1 ∨ a = 2 ∨ a = 3) with h | h | h | h
  · subst h
    have HG := hide (fun W => normalS_any W 0 b c d ok (by omega) (by omega) (by omega))
    have hr : goesP ⟨0, b, c, d⟩ ok = normalP ⟨0, b, c, d⟩ ok := rfl
    rw [hr]
    obtain ⟨q, hq⟩ : ∃ q, normalP ⟨0, b, c, d⟩ ok = q := ⟨_, rfl⟩
    rw [hq] at HG ⊢
    obtain ⟨qa, qb, qc, qd⟩ := q
    have HQ := hide hq
    have hix := idx_fun 0 (by omega)
    simp at hix
    clear hq hr h1 h2 h3 h4 h5 h6 h7
    have HB := allocs_below w [.cells #[.int .i64 0, .int .i64 (b : Int), .int .i64 (c : Int), .int .i64 (d : Int)] 105, .cells #[.int .i64 0, .int .i64 0, .int .i64 0, .int .i64 0] 105]
    have K_p : Blk (allocs w [.cells #[.int .i64 0, .int .i64 (b : Int), .int .i64 (c : Int), .int .i64 (d : Int)] 105, .cells #[.int .i64 0, .int .i64 0, .int .i64 0, .int .i64 0] 105]) (w.heap.size + 0) 105 #[.int .i64 0, .int .i64 (b : Int), .int .i64 (c : Int), .int .i64 (d : Int)] := allocs_at w [.cells #[.int .i64 0, .int .i64 (b : Int), .int .i64 (c : Int), .int .i64 (d : Int)] 105, .cells #[.int .i64 0, .int .i64 0, .int .i64 0, .int .i64 0] 105] 0 rfl
    have K_r : Blk (allocs w [.cells #[.int .i64 0, .int .i64 (b : Int), .int .i64 (c : Int), .int .i64 (d : Int)] 105, .cells #[.int .i64 0, .int .i64 0, .int .i64 0, .int .i64 0] 105]) (w.heap.size + 1) 105 #[.int .i64 0, .int .i64 0, .int .i64 0, .int .i64 0] := allocs_at w [.cells #[.int .i64 0, .int .i64 (b : Int), .int .i64 (c : Int), .int .i64 (d : Int)] 105, .cells #[.int .i64 0, .int .i64 0, .int .i64 0, .int .i64 0] 105] 1 rfl
    unfold allocs at HB K_p K_r
    simp only [List.foldl_cons, List.foldl_nil] at HB K_p K_r
    rw [Nat.add_zero] at K_p
    go_enter Tryz.func57, Tryz.ntmps57
    go_upto_region 1 with (fail)
    generalize ((w.alloc (.cells #[.int .i64 0, .int .i64 (b : Int), .int .i64 (c : Int), .int .i64 (d : Int)] 105)).alloc (.cells #[.int .i64 0, .int .i64 0, .int .i64 0, .int .i64 0] 105)) = w0 at *
    replace K_p := hide K_p
    replace K_r := hide K_r
    replace HB := hide HB
    have p0 := (Blk.cell K_p.out 0).trans (rfl : _ = some (Value.int .i64 0))
    have p1 := (Blk.cell K_p.out 1).trans (rfl : _ = some (Value.int .i64 (b : Int)))
    have p2 := (Blk.cell K_p.out 2).trans (rfl : _ = some (Value.int .i64 (c : Int)))
    have p3 := (Blk.cell K_p.out 3).trans (rfl : _ = some (Value.int .i64 (d : Int)))
    have hrs := HB.out.size
    go_upto_region 3 with (fail)
    go_region_with (go_at_call 95; refine (HG.out _).mono ?_; rintro e wb ⟨rfl, hb⟩; have hb2 := ((Below.refl w0.heap.size w0).drew).trans (show Below w0.heap.size w0.drew wb from hb); clear hb; have hz := Blk.below K_r.out hb2 (Blk.lt K_r.out); have HBB := hide (HB.out.trans (hb2.mono HB.out.size)); clear hb2; have z0 := (Blk.cell hz 0).trans (rfl : _ = some (Value.int .i64 0)); have zf0 := Blk.frozen hz 0; have z1 := (Blk.cell hz 1).trans (rfl : _ = some (Value.int .i64 0)); have zf1 := Blk.frozen hz 1; have z2 := (Blk.cell hz 2).trans (rfl : _ = some (Value.int .i64 0)); have zf2 := Blk.frozen hz 2; have z3 := (Blk.cell hz 3).trans (rfl : _ = some (Value.int .i64 0)); have zf3 := Blk.frozen hz 3; have HZ := hide hz; clear hz; unfold ptV)
    all_goals (
      go_wp2_with fail
      have hk := ((((HZ.out.set_ 0 (.int .i64 (qa : Int))).set_ 1 (.int .i64 (qb : Int))).set_ 2 (.int .i64 (qc : Int))).set_ 3 (.int .i64 (qd : Int)))
      have rc0 := (Blk.cell hk 0).trans (rfl : _ = some (Value.int .i64 (qa : Int)))
      have rc1 := (Blk.cell hk 1).trans (rfl : _ = some (Value.int .i64 (qb : Int)))
      have rc2 := (Blk.cell hk 2).trans (rfl : _ = some (Value.int .i64 (qc : Int)))
      have rc3 := (Blk.cell hk 3).trans (rfl : _ = some (Value.int .i64 (qd : Int)))
      exact bodyPost_ret (v := .agg #[.int .i64 (qa : Int), .int .i64 (qb : Int), .int .i64 (qc : Int), .int .i64 (qd : Int)]) (by simp [results, Tryz.results57, go_sem, rc0, rc1, rc2, rc3]) rfl ⟨rfl, ((((HBB.out.setCell (p := ⟨w.heap.size + 1, 0, none⟩) (by show w.heap.size ≤ w.heap.size + 1; omega) (.int .i64 (qa : Int))).setCell (p := ⟨w.heap.size + 1, 1, none⟩) (by show w.heap.size ≤ w.heap.size + 1; omega) (.int .i64 (qb : Int))).setCell (p := ⟨w.heap.size + 1, 2, none⟩) (by show w.heap.size ≤ w.heap.size + 1; omega) (.int .i64 (qc : Int))).setCell (p := ⟨w.heap.size + 1, 3, none⟩) (by show w.heap.size ≤ w.heap.size + 1; omega) (.int .i64 (qd : Int)))⟩
    )
  · subst h
    have HG := hide (fun W => tightened_any W 1 b c d ok (by have := h6 rfl; omega) (by omega))
    have hr : goesP ⟨1, b, c, d⟩ ok = tightP ⟨1, b, c, d⟩ ok := rfl
    rw [hr]
    obtain ⟨q, hq⟩ : ∃ q, tightP ⟨1, b, c, d⟩ ok = q := ⟨_, rfl⟩
    rw [hq] at HG ⊢
    obtain ⟨qa, qb, qc, qd⟩ := q
    have HQ := hide hq
    have hix := idx_fun 1 (by omega)
    simp at hix
    clear hq hr h1 h2 h3 h4 h5 h6 h7
    have HB := allocs_below w [.cells #[.int .i64 1, .int .i64 (b : Int), .int .i64 (c : Int), .int .i64 (d : Int)] 105, .cells #[.int .i64 0, .int .i64 0, .int .i64 0, .int .i64 0] 105]
    have K_p : Blk (allocs w [.cells #[.int .i64 1, .int .i64 (b : Int), .int .i64 (c : Int), .int .i64 (d : Int)] 105, .cells #[.int .i64 0, .int .i64 0, .int .i64 0, .int .i64 0] 105]) (w.heap.size + 0) 105 #[.int .i64 1, .int .i64 (b : Int), .int .i64 (c : Int), .int .i64 (d : Int)] := allocs_at w [.cells #[.int .i64 1, .int .i64 (b : Int), .int .i64 (c : Int), .int .i64 (d : Int)] 105, .cells #[.int .i64 0, .int .i64 0, .int .i64 0, .int .i64 0] 105] 0 rfl
    have K_r : Blk (allocs w [.cells #[.int .i64 1, .int .i64 (b : Int), .int .i64 (c : Int), .int .i64 (d : Int)] 105, .cells #[.int .i64 0, .int .i64 0, .int .i64 0, .int .i64 0] 105]) (w.heap.size + 1) 105 #[.int .i64 0, .int .i64 0, .int .i64 0, .int .i64 0] := allocs_at w [.cells #[.int .i64 1, .int .i64 (b : Int), .int .i64 (c : Int), .int .i64 (d : Int)] 105, .cells #[.int .i64 0, .int .i64 0, .int .i64 0, .int .i64 0] 105] 1 rfl
    unfold allocs at HB K_p K_r
    simp only [List.foldl_cons, List.foldl_nil] at HB K_p K_r
    rw [Nat.add_zero] at K_p
    go_enter Tryz.func57, Tryz.ntmps57
    go_upto_region 1 with (fail)
    generalize ((w.alloc (.cells #[.int .i64 1, .int .i64 (b : Int), .int .i64 (c : Int), .int .i64 (d : Int)] 105)).alloc (.cells #[.int .i64 0, .int .i64 0, .int .i64 0, .int .i64 0] 105)) = w0 at *
    replace K_p := hide K_p
    replace K_r := hide K_r
    replace HB := hide HB
    have p0 := (Blk.cell K_p.out 0).trans (rfl : _ = some (Value.int .i64 1))
    have p1 := (Blk.cell K_p.out 1).trans (rfl : _ = some (Value.int .i64 (b : Int)))
    have p2 := (Blk.cell K_p.out 2).trans (rfl : _ = some (Value.int .i64 (c : Int)))
    have p3 := (Blk.cell K_p.out 3).trans (rfl : _ = some (Value.int .i64 (d : Int)))
    have hrs := HB.out.size
    go_upto_region 3 with (fail)
    go_region_with (go_at_call 96; refine (HG.out _).mono ?_; rintro e wb ⟨rfl, hb⟩; have hb2 := ((Below.refl w0.heap.size w0).drew).trans (show Below w0.heap.size w0.drew wb from hb); clear hb; have hz := Blk.below K_r.out hb2 (Blk.lt K_r.out); have HBB := hide (HB.out.trans (hb2.mono HB.out.size)); clear hb2; have z0 := (Blk.cell hz 0).trans (rfl : _ = some (Value.int .i64 0)); have zf0 := Blk.frozen hz 0; have z1 := (Blk.cell hz 1).trans (rfl : _ = some (Value.int .i64 0)); have zf1 := Blk.frozen hz 1; have z2 := (Blk.cell hz 2).trans (rfl : _ = some (Value.int .i64 0)); have zf2 := Blk.frozen hz 2; have z3 := (Blk.cell hz 3).trans (rfl : _ = some (Value.int .i64 0)); have zf3 := Blk.frozen hz 3; have HZ := hide hz; clear hz; unfold ptV)
    all_goals (
      go_wp2_with fail
      have hk := ((((HZ.out.set_ 0 (.int .i64 (qa : Int))).set_ 1 (.int .i64 (qb : Int))).set_ 2 (.int .i64 (qc : Int))).set_ 3 (.int .i64 (qd : Int)))
      have rc0 := (Blk.cell hk 0).trans (rfl : _ = some (Value.int .i64 (qa : Int)))
      have rc1 := (Blk.cell hk 1).trans (rfl : _ = some (Value.int .i64 (qb : Int)))
      have rc2 := (Blk.cell hk 2).trans (rfl : _ = some (Value.int .i64 (qc : Int)))
      have rc3 := (Blk.cell hk 3).trans (rfl : _ = some (Value.int .i64 (qd : Int)))
      exact bodyPost_ret (v := .agg #[.int .i64 (qa : Int), .int .i64 (qb : Int), .int .i64 (qc : Int), .int .i64 (qd : Int)]) (by simp [results, Tryz.results57, go_sem, rc0, rc1, rc2, rc3]) rfl ⟨rfl, ((((HBB.out.setCell (p := ⟨w.heap.size + 1, 0, none⟩) (by show w.heap.size ≤ w.heap.size + 1; omega) (.int .i64 (qa : Int))).setCell (p := ⟨w.heap.size + 1, 1, none⟩) (by show w.heap.size ≤ w.heap.size + 1; omega) (.int .i64 (qb : Int))).setCell (p := ⟨w.heap.size + 1, 2, none⟩) (by show w.heap.size ≤ w.heap.size + 1; omega) (.int .i64 (qc : Int))).setCell (p := ⟨w.heap.size + 1, 3, none⟩) (by show w.heap.size ≤ w.heap.size + 1; omega) (.int .i64 (qd : Int)))⟩
    )
  · subst h
    have HG := hide (fun W => reduced_any W 2 b c d ok)
    have hr : goesP ⟨2, b, c, d⟩ ok = redP ⟨2, b, c, d⟩ ok := rfl
    rw [hr]
    obtain ⟨q, hq⟩ : ∃ q, redP ⟨2, b, c, d⟩ ok = q := ⟨_, rfl⟩
    rw [hq] at HG ⊢
    obtain ⟨qa, qb, qc, qd⟩ := q
    have HQ := hide hq
    have hix := idx_fun 2 (by omega)
    simp at hix
    clear hq hr h1 h2 h3 h4 h5 h6 h7
    have HB := allocs_below w [.cells #[.int .i64 2, .int .i64 (b : Int), .int .i64 (c : Int), .int .i64 (d : Int)] 105, .cells #[.int .i64 0, .int .i64 0, .int .i64 0, .int .i64 0] 105]
    have K_p : Blk (allocs w [.cells #[.int .i64 2, .int .i64 (b : Int), .int .i64 (c : Int), .int .i64 (d : Int)] 105, .cells #[.int .i64 0, .int .i64 0, .int .i64 0, .int .i64 0] 105]) (w.heap.size + 0) 105 #[.int .i64 2, .int .i64 (b : Int), .int .i64 (c : Int), .int .i64 (d : Int)] := allocs_at w [.cells #[.int .i64 2, .int .i64 (b : Int), .int .i64 (c : Int), .int .i64 (d : Int)] 105, .cells #[.int .i64 0, .int .i64 0, .int .i64 0, .int .i64 0] 105] 0 rfl
    have K_r : Blk (allocs w [.cells #[.int .i64 2, .int .i64 (b : Int), .int .i64 (c : Int), .int .i64 (d : Int)] 105, .cells #[.int .i64 0, .int .i64 0, .int .i64 0, .int .i64 0] 105]) (w.heap.size + 1) 105 #[.int .i64 0, .int .i64 0, .int .i64 0, .int .i64 0] := allocs_at w [.cells #[.int .i64 2, .int .i64 (b : Int), .int .i64 (c : Int), .int .i64 (d : Int)] 105, .cells #[.int .i64 0, .int .i64 0, .int .i64 0, .int .i64 0] 105] 1 rfl
    unfold allocs at HB K_p K_r
    simp only [List.foldl_cons, List.foldl_nil] at HB K_p K_r
    rw [Nat.add_zero] at K_p
    go_enter Tryz.func57, Tryz.ntmps57
    go_upto_region 1 with (fail)
    generalize ((w.alloc (.cells #[.int .i64 2, .int .i64 (b : Int), .int .i64 (c : Int), .int .i64 (d : Int)] 105)).alloc (.cells #[.int .i64 0, .int .i64 0, .int .i64 0, .int .i64 0] 105)) = w0 at *
    replace K_p := hide K_p
    replace K_r := hide K_r
    replace HB := hide HB
    have p0 := (Blk.cell K_p.out 0).trans (rfl : _ = some (Value.int .i64 2))
    have p1 := (Blk.cell K_p.out 1).trans (rfl : _ = some (Value.int .i64 (b : Int)))
    have p2 := (Blk.cell K_p.out 2).trans (rfl : _ = some (Value.int .i64 (c : Int)))
    have p3 := (Blk.cell K_p.out 3).trans (rfl : _ = some (Value.int .i64 (d : Int)))
    have hrs := HB.out.size
    go_upto_region 3 with (fail)
    go_region_with (go_at_call 97; refine (HG.out _).mono ?_; rintro e wb ⟨rfl, hb⟩; have hb2 := ((Below.refl w0.heap.size w0).drew).trans (show Below w0.heap.size w0.drew wb from hb); clear hb; have hz := Blk.below K_r.out hb2 (Blk.lt K_r.out); have HBB := hide (HB.out.trans (hb2.mono HB.out.size)); clear hb2; have z0 := (Blk.cell hz 0).trans (rfl : _ = some (Value.int .i64 0)); have zf0 := Blk.frozen hz 0; have z1 := (Blk.cell hz 1).trans (rfl : _ = some (Value.int .i64 0)); have zf1 := Blk.frozen hz 1; have z2 := (Blk.cell hz 2).trans (rfl : _ = some (Value.int .i64 0)); have zf2 := Blk.frozen hz 2; have z3 := (Blk.cell hz 3).trans (rfl : _ = some (Value.int .i64 0)); have zf3 := Blk.frozen hz 3; have HZ := hide hz; clear hz; unfold ptV)
    all_goals (
      go_wp2_with fail
      have hk := ((((HZ.out.set_ 0 (.int .i64 (qa : Int))).set_ 1 (.int .i64 (qb : Int))).set_ 2 (.int .i64 (qc : Int))).set_ 3 (.int .i64 (qd : Int)))
      have rc0 := (Blk.cell hk 0).trans (rfl : _ = some (Value.int .i64 (qa : Int)))
      have rc1 := (Blk.cell hk 1).trans (rfl : _ = some (Value.int .i64 (qb : Int)))
      have rc2 := (Blk.cell hk 2).trans (rfl : _ = some (Value.int .i64 (qc : Int)))
      have rc3 := (Blk.cell hk 3).trans (rfl : _ = some (Value.int .i64 (qd : Int)))
      exact bodyPost_ret (v := .agg #[.int .i64 (qa : Int), .int .i64 (qb : Int), .int .i64 (qc : Int), .int .i64 (qd : Int)]) (by simp [results, Tryz.results57, go_sem, rc0, rc1, rc2, rc3]) rfl ⟨rfl, ((((HBB.out.setCell (p := ⟨w.heap.size + 1, 0, none⟩) (by show w.heap.size ≤ w.heap.size + 1; omega) (.int .i64 (qa : Int))).setCell (p := ⟨w.heap.size + 1, 1, none⟩) (by show w.heap.size ≤ w.heap.size + 1; omega) (.int .i64 (qb : Int))).setCell (p := ⟨w.heap.size + 1, 2, none⟩) (by show w.heap.size ≤ w.heap.size + 1; omega) (.int .i64 (qc : Int))).setCell (p := ⟨w.heap.size + 1, 3, none⟩) (by show w.heap.size ≤ w.heap.size + 1; omega) (.int .i64 (qd : Int)))⟩
    )
  · subst h
    rw [goesP_stop rfl]
    clear h1 h2 h3 h4 h5 h6 h7
    have HB := allocs_below w [.cells #[.int .i64 3, .int .i64 (b : Int), .int .i64 (c : Int), .int .i64 (d : Int)] 105, .cells #[.int .i64 0, .int .i64 0, .int .i64 0, .int .i64 0] 105]
    have K_p : Blk (allocs w [.cells #[.int .i64 3, .int .i64 (b : Int), .int .i64 (c : Int), .int .i64 (d : Int)] 105, .cells #[.int .i64 0, .int .i64 0, .int .i64 0, .int .i64 0] 105]) (w.heap.size + 0) 105 #[.int .i64 3, .int .i64 (b : Int), .int .i64 (c : Int), .int .i64 (d : Int)] := allocs_at w [.cells #[.int .i64 3, .int .i64 (b : Int), .int .i64 (c : Int), .int .i64 (d : Int)] 105, .cells #[.int .i64 0, .int .i64 0, .int .i64 0, .int .i64 0] 105] 0 rfl
    have K_r : Blk (allocs w [.cells #[.int .i64 3, .int .i64 (b : Int), .int .i64 (c : Int), .int .i64 (d : Int)] 105, .cells #[.int .i64 0, .int .i64 0, .int .i64 0, .int .i64 0] 105]) (w.heap.size + 1) 105 #[.int .i64 0, .int .i64 0, .int .i64 0, .int .i64 0] := allocs_at w [.cells #[.int .i64 3, .int .i64 (b : Int), .int .i64 (c : Int), .int .i64 (d : Int)] 105, .cells #[.int .i64 0, .int .i64 0, .int .i64 0, .int .i64 0] 105] 1 rfl
    unfold allocs at HB K_p K_r
    simp only [List.foldl_cons, List.foldl_nil] at HB K_p K_r
    rw [Nat.add_zero] at K_p
    go_enter Tryz.func57, Tryz.ntmps57
    go_upto_region 1 with (fail)
    generalize ((w.alloc (.cells #[.int .i64 3, .int .i64 (b : Int), .int .i64 (c : Int), .int .i64 (d : Int)] 105)).alloc (.cells #[.int .i64 0, .int .i64 0, .int .i64 0, .int .i64 0] 105)) = w0 at *
    replace K_p := hide K_p
    replace K_r := hide K_r
    replace HB := hide HB
    have p0 := (Blk.cell K_p.out 0).trans (rfl : _ = some (Value.int .i64 3))
    have p1 := (Blk.cell K_p.out 1).trans (rfl : _ = some (Value.int .i64 (b : Int)))
    have p2 := (Blk.cell K_p.out 2).trans (rfl : _ = some (Value.int .i64 (c : Int)))
    have p3 := (Blk.cell K_p.out 3).trans (rfl : _ = some (Value.int .i64 (d : Int)))
    have r0 := (Blk.cell K_r.out 0).trans (rfl : _ = some (Value.int .i64 0))
    have rf0 := Blk.frozen K_r.out 0
    have r1 := (Blk.cell K_r.out 1).trans (rfl : _ = some (Value.int .i64 0))
    have rf1 := Blk.frozen K_r.out 1
    have r2 := (Blk.cell K_r.out 2).trans (rfl : _ = some (Value.int .i64 0))
    have rf2 := Blk.frozen K_r.out 2
    have r3 := (Blk.cell K_r.out 3).trans (rfl : _ = some (Value.int .i64 0))
    have rf3 := Blk.frozen K_r.out 3
    go_wp2_with fail
    have rc0 := (Blk.cell ((((K_r.out.set_ 0 (.int .i64 3)).set_ 1 (.int .i64 (b : Int))).set_ 2 (.int .i64 (c : Int))).set_ 3 (.int .i64 (d : Int))) 0).trans (rfl : _ = some (Value.int .i64 3))
    have rc1 := (Blk.cell ((((K_r.out.set_ 0 (.int .i64 3)).set_ 1 (.int .i64 (b : Int))).set_ 2 (.int .i64 (c : Int))).set_ 3 (.int .i64 (d : Int))) 1).trans (rfl : _ = some (Value.int .i64 (b : Int)))
    have rc2 := (Blk.cell ((((K_r.out.set_ 0 (.int .i64 3)).set_ 1 (.int .i64 (b : Int))).set_ 2 (.int .i64 (c : Int))).set_ 3 (.int .i64 (d : Int))) 2).trans (rfl : _ = some (Value.int .i64 (c : Int)))
    have rc3 := (Blk.cell ((((K_r.out.set_ 0 (.int .i64 3)).set_ 1 (.int .i64 (b : Int))).set_ 2 (.int .i64 (c : Int))).set_ 3 (.int .i64 (d : Int))) 3).trans (rfl : _ = some (Value.int .i64 (d : Int)))
    exact bodyPost_ret (v := .agg #[.int .i64 3, .int .i64 (b : Int), .int .i64 (c : Int), .int .i64 (d : Int)]) (by simp [results, Tryz.results57, go_sem, rc0, rc1, rc2, rc3]) rfl ⟨rfl, ((((HB.out.setCell (p := ⟨(w.heap.size + 1), 0, none⟩) (by show w.heap.size ≤ (w.heap.size + 1); omega) (.int .i64 3)).setCell (p := ⟨(w.heap.size + 1), 1, none⟩) (by show w.heap.size ≤ (w.heap.size + 1); omega) (.int .i64 (b : Int))).setCell (p := ⟨(w.heap.size + 1), 2, none⟩) (by show w.heap.size ≤ (w.heap.size + 1); omega) (.int .i64 (c : Int))).setCell (p := ⟨(w.heap.size + 1), 3, none⟩) (by show w.heap.size ≤ (w.heap.size + 1); omega) (.int .i64 (d : Int)))⟩
end Go.Proofs.YthmmgjieppknkaaGreatDoor
