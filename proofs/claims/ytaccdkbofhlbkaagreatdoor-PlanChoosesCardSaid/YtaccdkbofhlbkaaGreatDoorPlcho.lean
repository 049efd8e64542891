/- PlanChooses: Least of the program and of the reference. -/
import Derived.Test.YtaccdkbofhlbkaaGreatDoorRleast
namespace Go.Proofs.YtaccdkbofhlbkaaGreatDoor
open Go.RowKit Go.Shelf MLab

theorem len_of_parts {l : List UInt8} {k : Nat} (h1 : (numL l).length ≤ k) (h2 : (denL l).length ≤ k) : l.length ≤ 2 * k + 1 := by
  have hn : (numL l).length = min (sl l) l.length := by rw [numL, List.length_take]
  unfold denL at h2
  split at h2
  · rename_i h
    rw [List.length_drop] at h2
    omega
  · omega
theorem unit_both (a : ByteArray) (h1 : (numL a.data.toList).length ≤ 30) (h2 : (denL a.data.toList).length ≤ 30) : ∃ u1, (∀ W, Calls Tryz.prog 68 #[.string a] W fun e w' => e = .returned (.int .i64 u1) ∧ Below W.heap.size W w') ∧ (chkR a.data.toList = 0 → ∃ p, a.data.toList = RT p ∧ Sz 30 30 p ∧ unitQ p = u1) := by
  by_cases hc : chkR a.data.toList = 0
  · obtain ⟨p, hp, hz⟩ := short_sz4 (k := 30) (by omega) hc h1 h2
    exact ⟨unitQ p, fun W => runit_any W a p hp hz, fun _ => ⟨p, hp, hz, rfl⟩⟩
  · have := len_of_parts h1 h2
    exact ⟨_, fun W => runit_bad W a _ rfl (by omega) hc, fun h => absurd h hc⟩
/-- There is a first plan. -/
theorem first_ex {lot good bad : Nat} {pr co : Rat} (h1 : 1 ≤ lot) (hg : good < bad) (hb : bad ≤ lot) (hp : 0 ≤ pr) (hc : 0 ≤ co) : ∃ n c, FirstP lot good bad pr co n c := by
  have key : ∀ m, (∃ n c, 1 ≤ n ∧ n ≤ lot ∧ c ≤ n ∧ n * (lot + 1) + c < m ∧ meetsP lot good bad pr co n c = true) → ∃ n c, FirstP lot good bad pr co n c := by
    intro m
    induction m with
    | zero => rintro ⟨n, c, _, _, _, h, _⟩; omega
    | succ m ih =>
      rintro ⟨n, c, a1, a2, a3, a4, a5⟩
      by_cases hx : ∃ n' c', 1 ≤ n' ∧ c' ≤ n' ∧ (n' < n ∨ (n' = n ∧ c' < c)) ∧ meetsP lot good bad pr co n' c' = true
      · obtain ⟨n', c', b1, b2, b3, b4⟩ := hx
        refine ih ⟨n', c', b1, by omega, b2, ?_, b4⟩
        rcases b3 with b3 | ⟨rfl, b3⟩
        · have h2 : (n' + 1) * (lot + 1) ≤ n * (lot + 1) := Nat.mul_le_mul_right _ b3
          rw [Nat.add_mul] at h2
          omega
        · omega
      · refine ⟨n, c, a1, a2, a3, a5, fun n' c' b1 b2 b3 => ?_⟩
        rcases hv : meetsP lot good bad pr co n' c' with _ | _
        · rfl
        · exact absurd ⟨n', c', b1, b2, b3, hv⟩ hx
  exact key (lot * (lot + 1) + good + 1) ⟨lot, good, h1, Nat.le_refl _, by omega, by omega, meets_last hg hb hp hc⟩

set_option maxRecDepth 100000 in
set_option maxHeartbeats 4000000 in
theorem plLeast_bad (w : World) (lot good bad z : Int) (a b : ByteArray) (hz : z ≠ 0) (hn : ∀ W, Std W → Calls Tryz.prog 50 #[.int .i64 lot, .int .i64 good, .int .i64 bad, .string a, .string b] W fun e w' => e = .returned (.int .i64 z) ∧ Below W.heap.size W w') (hs : Std w) :
    Calls Tryz.prog 21 #[.int .i64 lot, .int .i64 good, .int .i64 bad, .string a, .string b] w fun e w' => e = .returned (.tuple #[.agg #[.int .i64 0, .int .i64 0], .int .i64 z]) ∧ Below w.heap.size w w' := by
  have HS := hide hs
  have HN := hide hn
  have hz1 : (z != 0) = true := by simpa using hz
  have HB := hide (Below.refl w.heap.size w)
  have BW := (Below.refl w.heap.size w).alloc (Nat.le_refl _) (.cells #[.int .i64 0, .int .i64 0] 30)
  have K_r := Blk.new w 30 #[.int .i64 0, .int .i64 0]
  clear hs hn
  go_enter Tryz.func21, Tryz.ntmps21
  go_upto_region 1 with (fail)
  generalize w.alloc (.cells #[.int .i64 0, .int .i64 0] 30) = w0 at *
  replace K_r := hide K_r
  replace HB := hide BW
  clear BW
  go_wp2_with fail
  refine (HN.out _ (HS.out.below HB.out (Nat.le_refl _))).mono ?_
  rintro e w1 ⟨rfl, hb⟩
  replace K_r := hide (Blk.below K_r.out hb (Blk.lt K_r.out))
  replace HB := hide (HB.out.trans (hb.mono HB.out.size))
  clear hb
  have r0 := (Blk.cell K_r.out 0).trans (rfl : _ = some (Value.int .i64 0))
  have rf0 := Blk.frozen K_r.out 0
  have r1 := (Blk.cell K_r.out 1).trans (rfl : _ = some (Value.int .i64 0))
  have rf1 := Blk.frozen K_r.out 1
  go_wp2_with fail
  have k1 : Blk (w1.setCell ⟨w.heap.size, 0, none⟩ (.int .i64 0)) (w.heap.size) 30 #[.int .i64 0, .int .i64 0] := K_r.out.set_ 0 (.int .i64 0)
  have k2 : Blk ((w1.setCell ⟨w.heap.size, 0, none⟩ (.int .i64 0)).setCell ⟨w.heap.size, 1, none⟩ (.int .i64 0)) (w.heap.size) 30 #[.int .i64 0, .int .i64 0] := k1.set_ 1 (.int .i64 0)
  have e0 : (w1.setCell ⟨w.heap.size, 0, none⟩ (.int .i64 0)).cell? ⟨w.heap.size, 0, none⟩ = some (.int .i64 0) := (Blk.cell k1 0).trans rfl
  have e1 : ((w1.setCell ⟨w.heap.size, 0, none⟩ (.int .i64 0)).setCell ⟨w.heap.size, 1, none⟩ (.int .i64 0)).cell? ⟨w.heap.size, 1, none⟩ = some (.int .i64 0) := (Blk.cell k2 1).trans rfl
  exact bodyPost_ret (v := .tuple #[.agg #[.int .i64 0, .int .i64 0], .int .i64 z]) (by simp [results, Tryz.results21, go_sem, e0, e1]) rfl ⟨rfl, (HB.out.setCell (p := ⟨w.heap.size, 0, none⟩) (by show w.heap.size ≤ w.heap.size; omega) _).setCell (p := ⟨w.heap.size, 1, none⟩) (by show w.heap.size ≤ w.heap.size; omega) _⟩

set_option maxRecDepth 100000 in
set_option maxHeartbeats 4000000 in
theorem rfLeast_bad (w : World) (lot good bad z : Int) (a b : ByteArray) (hz : z ≠ 0) (hn : ∀ W, Calls Tryz.prog 52 #[.agg #[.int .i64 lot, .int .i64 good, .int .i64 bad, .string a, .string b]] W fun e w' => e = .returned (.int .i64 z) ∧ Below W.heap.size W w') :
    Calls Tryz.prog 22 #[.agg #[.int .i64 lot, .int .i64 good, .int .i64 bad, .string a, .string b]] w fun e w' => e = .returned (.tuple #[.agg #[.int .i64 0, .int .i64 0], .int .i64 z]) ∧ Below w.heap.size w w' := by
  have HN := hide hn
  have hz1 : (z != 0) = true := by simpa using hz
  clear hn
  have HB := allocs_below w [.cells #[.int .i64 lot, .int .i64 good, .int .i64 bad, .string a, .string b] 38, .cells #[.int .i64 0, .int .i64 0] 23]
  have K_x : Blk (allocs w [.cells #[.int .i64 lot, .int .i64 good, .int .i64 bad, .string a, .string b] 38, .cells #[.int .i64 0, .int .i64 0] 23]) (w.heap.size + 0) 38 #[.int .i64 lot, .int .i64 good, .int .i64 bad, .string a, .string b] := allocs_at w [.cells #[.int .i64 lot, .int .i64 good, .int .i64 bad, .string a, .string b] 38, .cells #[.int .i64 0, .int .i64 0] 23] 0 rfl
  have K_r : Blk (allocs w [.cells #[.int .i64 lot, .int .i64 good, .int .i64 bad, .string a, .string b] 38, .cells #[.int .i64 0, .int .i64 0] 23]) (w.heap.size + 1) 23 #[.int .i64 0, .int .i64 0] := allocs_at w [.cells #[.int .i64 lot, .int .i64 good, .int .i64 bad, .string a, .string b] 38, .cells #[.int .i64 0, .int .i64 0] 23] 1 rfl
  unfold allocs at HB K_x K_r
  simp only [List.foldl_cons, List.foldl_nil] at HB K_x K_r
  rw [Nat.add_zero] at K_x
  go_enter Tryz.func22, Tryz.ntmps22
  go_upto_region 1 with (fail)
  generalize ((w.alloc (.cells #[.int .i64 lot, .int .i64 good, .int .i64 bad, .string a, .string b] 38)).alloc (.cells #[.int .i64 0, .int .i64 0] 23)) = w0 at *
  replace K_x := hide K_x
  replace K_r := hide K_r
  replace HB := hide HB
  have x0 := (Blk.cell K_x.out 0).trans (rfl : _ = some (Value.int .i64 lot))
  have x1 := (Blk.cell K_x.out 1).trans (rfl : _ = some (Value.int .i64 good))
  have x2 := (Blk.cell K_x.out 2).trans (rfl : _ = some (Value.int .i64 bad))
  have x3 := (Blk.cell K_x.out 3).trans (rfl : _ = some (Value.string a))
  have x4 := (Blk.cell K_x.out 4).trans (rfl : _ = some (Value.string b))
  go_wp2_with fail
  refine (HN.out _).mono ?_
  rintro e w1 ⟨rfl, hb⟩
  clear x0 x1 x2 x3 x4
  replace K_x := hide (Blk.below K_x.out hb (Blk.lt K_x.out))
  replace K_r := hide (Blk.below K_r.out hb (Blk.lt K_r.out))
  replace HB := hide (HB.out.trans (hb.mono HB.out.size))
  clear hb
  have r0 := (Blk.cell K_r.out 0).trans (rfl : _ = some (Value.int .i64 0))
  have rf0 := Blk.frozen K_r.out 0
  have r1 := (Blk.cell K_r.out 1).trans (rfl : _ = some (Value.int .i64 0))
  have rf1 := Blk.frozen K_r.out 1
  go_wp2_with fail
  have k1 : Blk (w1.setCell ⟨(w.heap.size + 1), 0, none⟩ (.int .i64 0)) ((w.heap.size + 1)) 23 #[.int .i64 0, .int .i64 0] := K_r.out.set_ 0 (.int .i64 0)
  have k2 : Blk ((w1.setCell ⟨(w.heap.size + 1), 0, none⟩ (.int .i64 0)).setCell ⟨(w.heap.size + 1), 1, none⟩ (.int .i64 0)) ((w.heap.size + 1)) 23 #[.int .i64 0, .int .i64 0] := k1.set_ 1 (.int .i64 0)
  have e0 : (w1.setCell ⟨(w.heap.size + 1), 0, none⟩ (.int .i64 0)).cell? ⟨(w.heap.size + 1), 0, none⟩ = some (.int .i64 0) := (Blk.cell k1 0).trans rfl
  have e1 : ((w1.setCell ⟨(w.heap.size + 1), 0, none⟩ (.int .i64 0)).setCell ⟨(w.heap.size + 1), 1, none⟩ (.int .i64 0)).cell? ⟨(w.heap.size + 1), 1, none⟩ = some (.int .i64 0) := (Blk.cell k2 1).trans rfl
  exact bodyPost_ret (v := .tuple #[.agg #[.int .i64 0, .int .i64 0], .int .i64 z]) (by simp [results, Tryz.results22, go_sem, e0, e1]) rfl ⟨rfl, (HB.out.setCell (p := ⟨(w.heap.size + 1), 0, none⟩) (by show w.heap.size ≤ (w.heap.size + 1); omega) _).setCell (p := ⟨(w.heap.size + 1), 1, none⟩) (by show w.heap.size ≤ (w.heap.size + 1); omega) _⟩

set_option maxRecDepth 100000 in
set_option maxHeartbeats 8000000 in
theorem rfLeast_any (w : World) (lot good bad : Nat) (a b : ByteArray) (h1 : 1 ≤ lot) (h9 : lot ≤ 9) (hgb : good < bad) (hb1 : bad ≤ lot) (p q : Rat) (ha : a.data.toList = RT p) (hb : b.data.toList = RT q) (hp : Sz 30 30 p) (hq : Sz 30 30 q) (hup : unitQ p = 0) (huq : unitQ q = 0) (hn : ∀ W, Calls Tryz.prog 52 #[.agg #[.int .i64 (lot : Int), .int .i64 (good : Int), .int .i64 (bad : Int), .string a, .string b]] W fun e w' => e = .returned (.int .i64 0) ∧ Below W.heap.size W w') :
    Calls Tryz.prog 22 #[.agg #[.int .i64 (lot : Int), .int .i64 (good : Int), .int .i64 (bad : Int), .string a, .string b]] w fun e w' => ∃ n c, FirstP lot good bad p q n c ∧ e = .returned (.tuple #[.agg #[.int .i64 (n : Int), .int .i64 (c : Int)], .int .i64 0]) ∧ Below w.heap.size w w' := by
  have HN := hide hn
  have h01 : 0 ≤ p ∧ p ≤ 1 := by unfold unitQ at hup; split at hup; assumption; omega
  have h02 : 0 ≤ q ∧ q ≤ 1 := by unfold unitQ at huq; split at huq; assumption; omega
  have HLAST := hide (meets_last (lot := lot) (pr := p) (co := q) hgb hb1 h01.1 h02.1)
  have HM2 := hide (fun (n c : Nat) (h2 : n ≤ lot) (h3 : c ≤ n) W => meets_any W n c lot good bad a b h9 h2 h3 (by omega) hb1 p q ha hb hp hq)
  clear hn ha hb hp hq hup huq h01 h02
  have HB := allocs_below w [.cells #[.int .i64 (lot : Int), .int .i64 (good : Int), .int .i64 (bad : Int), .string a, .string b] 38, .cells #[.int .i64 0, .int .i64 0] 23]
  have K_x : Blk (allocs w [.cells #[.int .i64 (lot : Int), .int .i64 (good : Int), .int .i64 (bad : Int), .string a, .string b] 38, .cells #[.int .i64 0, .int .i64 0] 23]) (w.heap.size + 0) 38 #[.int .i64 (lot : Int), .int .i64 (good : Int), .int .i64 (bad : Int), .string a, .string b] := allocs_at w [.cells #[.int .i64 (lot : Int), .int .i64 (good : Int), .int .i64 (bad : Int), .string a, .string b] 38, .cells #[.int .i64 0, .int .i64 0] 23] 0 rfl
  have K_r : Blk (allocs w [.cells #[.int .i64 (lot : Int), .int .i64 (good : Int), .int .i64 (bad : Int), .string a, .string b] 38, .cells #[.int .i64 0, .int .i64 0] 23]) (w.heap.size + 1) 23 #[.int .i64 0, .int .i64 0] := allocs_at w [.cells #[.int .i64 (lot : Int), .int .i64 (good : Int), .int .i64 (bad : Int), .string a, .string b] 38, .cells #[.int .i64 0, .int .i64 0] 23] 1 rfl
  unfold allocs at HB K_x K_r
  simp only [List.foldl_cons, List.foldl_nil] at HB K_x K_r
  rw [Nat.add_zero] at K_x
  go_enter Tryz.func22, Tryz.ntmps22
  go_upto_region 1 with (fail)
  generalize ((w.alloc (.cells #[.int .i64 (lot : Int), .int .i64 (good : Int), .int .i64 (bad : Int), .string a, .string b] 38)).alloc (.cells #[.int .i64 0, .int .i64 0] 23)) = w0 at *
  replace K_x := hide K_x
  replace K_r := hide K_r
  replace HB := hide HB
  have x0 := (Blk.cell K_x.out 0).trans (rfl : _ = some (Value.int .i64 (lot : Int)))
  have x1 := (Blk.cell K_x.out 1).trans (rfl : _ = some (Value.int .i64 (good : Int)))
  have x2 := (Blk.cell K_x.out 2).trans (rfl : _ = some (Value.int .i64 (bad : Int)))
  have x3 := (Blk.cell K_x.out 3).trans (rfl : _ = some (Value.string a))
  have x4 := (Blk.cell K_x.out 4).trans (rfl : _ = some (Value.string b))
  go_wp2_with fail
  refine (HN.out _).mono ?_
  rintro e w1 ⟨rfl, hb⟩
  clear x0 x1 x2 x3 x4
  replace K_x := hide (Blk.below K_x.out hb (Blk.lt K_x.out))
  replace K_r := hide (Blk.below K_r.out hb (Blk.lt K_r.out))
  replace HB := hide (HB.out.trans (hb.mono HB.out.size))
  clear hb
  go_wp2_with fail
  have KX1 := K_x
  have KR1 := K_r
  have HB1 := HB
  go_loopg [5] lot (fun z iv wr => ∃ n : Nat, iv = .int .i64 (n : Int) ∧ z + n = lot + 1 ∧ 1 ≤ n ∧ (∀ n' c', 1 ≤ n' → c' ≤ n' → n' < n → meetsP lot good bad p q n' c' = false) ∧ Below w1.heap.size w1 wr)
  case atStart => exact ⟨1, rfl, rfl, Nat.le_refl _, fun n' c' h1 h2 h3 => by omega, Below.refl _ _⟩
  case round =>
    obtain ⟨n, rfl, hq, hn1, hM, hb⟩ := hrel
    have HQ := hide hq
    have HM := hide hM
    have HBA := hide hb
    have hnl : n ≤ lot + 1 := by omega
    clear hq hM
    obtain ⟨g0, hg0⟩ : ∃ g : Nat, g = gk := ⟨_, rfl⟩
    have HG0 := hide hg0
    replace K_x := hide (Blk.below KX1.out hb (Blk.lt KX1.out))
    clear hg0 hb
    by_cases hlt : n ≤ lot
    · skip
      have hni : (n : Int) ≤ (lot : Int) := by omega
      have x0 := (Blk.cell K_x.out 0).trans (rfl : _ = some (Value.int .i64 (lot : Int)))
      have x1 := (Blk.cell K_x.out 1).trans (rfl : _ = some (Value.int .i64 (good : Int)))
      have x2 := (Blk.cell K_x.out 2).trans (rfl : _ = some (Value.int .i64 (bad : Int)))
      have x3 := (Blk.cell K_x.out 3).trans (rfl : _ = some (Value.string a))
      have x4 := (Blk.cell K_x.out 4).trans (rfl : _ = some (Value.string b))
      go_wp2_with fail
      clear x0 x1 x2 x3 x4
      go_loopg [6] (n + 1) (fun z iv wr => ∃ c : Nat, iv = .int .i64 (c : Int) ∧ z + c = n + 1 ∧ (∀ n' c', 1 ≤ n' → c' ≤ n' → (n' < n ∨ (n' = n ∧ c' < c)) → meetsP lot good bad p q n' c' = false) ∧ Below w1.heap.size w1 wr)
      case atStart => exact ⟨0, rfl, rfl, fun n' c' h1 h2 h3 => HM.out n' c' h1 h2 (by omega), HBA.out⟩
      case round =>
        obtain ⟨c, rfl, hq, hM, hb⟩ := hrel
        have HQ1 := hide hq
        have HM1 := hide hM
        have HBC := hide hb
        have hcl : c ≤ n + 1 := by omega
        replace K_x := hide (Blk.below KX1.out hb (Blk.lt KX1.out))
        replace K_r := hide (Blk.below KR1.out hb (Blk.lt KR1.out))
        replace HB := hide (HB1.out.trans (hb.mono HB1.out.size))
        have hwz : w1.heap.size ≤ wr.heap.size := hb.size
        clear hq hM hb
        by_cases hlc : c ≤ n
        · skip
          have hci : (c : Int) ≤ (n : Int) := by omega
          have HME := hide (HM2.out n c hlt hlc)
          obtain ⟨me, hme⟩ : ∃ m, meetsP lot good bad p q n c = m := ⟨_, rfl⟩
          rw [hme] at HME
          have HMV := hide hme
          clear hme
          have x0 := (Blk.cell K_x.out 0).trans (rfl : _ = some (Value.int .i64 (lot : Int)))
          have x1 := (Blk.cell K_x.out 1).trans (rfl : _ = some (Value.int .i64 (good : Int)))
          have x2 := (Blk.cell K_x.out 2).trans (rfl : _ = some (Value.int .i64 (bad : Int)))
          have x3 := (Blk.cell K_x.out 3).trans (rfl : _ = some (Value.string a))
          have x4 := (Blk.cell K_x.out 4).trans (rfl : _ = some (Value.string b))
          go_wp2_with fail
          refine (HME.out _).mono ?_
          rintro e w5 ⟨rfl, hb⟩
          replace HBC := hide (HBC.out.trans (hb.mono hwz))
          clear x0 x1 x2 x3 x4
          replace K_x := hide (Blk.below K_x.out hb (Blk.lt K_x.out))
          replace K_r := hide (Blk.below K_r.out hb (Blk.lt K_r.out))
          replace HB := hide (HB.out.trans (hb.mono HB.out.size))
          clear hb
          cases me
          · skip
            go_wp2_with fail
            go_roundg (gk - 1)
            case measure => have := HQ1.out; omega
            case rel => exact ⟨c + 1, by go_num, by have := HQ1.out; omega, fun n' c' h1 h2 h3 => by
    by_cases he : n' = n ∧ c' = c
    · rw [he.1, he.2]; exact HMV.out
    · exact HM1.out n' c' h1 h2 (by omega), HBC.out⟩
          · skip
            clear HM2 HME
            have r0 := (Blk.cell K_r.out 0).trans (rfl : _ = some (Value.int .i64 0))
            have rf0 := Blk.frozen K_r.out 0
            have r1 := (Blk.cell K_r.out 1).trans (rfl : _ = some (Value.int .i64 0))
            have rf1 := Blk.frozen K_r.out 1
            go_wp2_with fail
            have k1 : Blk (w5.setCell ⟨(w.heap.size + 1), 0, none⟩ (.int .i64 (n : Int))) ((w.heap.size + 1)) 23 #[.int .i64 (n : Int), .int .i64 0] := K_r.out.set_ 0 (.int .i64 (n : Int))
            have k2 : Blk ((w5.setCell ⟨(w.heap.size + 1), 0, none⟩ (.int .i64 (n : Int))).setCell ⟨(w.heap.size + 1), 1, none⟩ (.int .i64 (c : Int))) ((w.heap.size + 1)) 23 #[.int .i64 (n : Int), .int .i64 (c : Int)] := k1.set_ 1 (.int .i64 (c : Int))
            have e0 : (w5.setCell ⟨(w.heap.size + 1), 0, none⟩ (.int .i64 (n : Int))).cell? ⟨(w.heap.size + 1), 0, none⟩ = some (.int .i64 (n : Int)) := (Blk.cell k1 0).trans rfl
            have e1 : ((w5.setCell ⟨(w.heap.size + 1), 0, none⟩ (.int .i64 (n : Int))).setCell ⟨(w.heap.size + 1), 1, none⟩ (.int .i64 (c : Int))).cell? ⟨(w.heap.size + 1), 1, none⟩ = some (.int .i64 (c : Int)) := (Blk.cell k2 1).trans rfl
            exact bodyPost_ret (v := .tuple #[.agg #[.int .i64 (n : Int), .int .i64 (c : Int)], .int .i64 0]) (by simp [results, Tryz.results22, go_sem, e0, e1]) rfl ⟨n, c, ⟨hn1, hlt, hlc, HMV.out, HM1.out⟩, rfl, (HB.out.setCell (p := ⟨(w.heap.size + 1), 0, none⟩) (by show w.heap.size ≤ (w.heap.size + 1); omega) _).setCell (p := ⟨(w.heap.size + 1), 1, none⟩) (by show w.heap.size ≤ (w.heap.size + 1); omega) _⟩
        · have hci : ¬ (c : Int) ≤ (n : Int) := by omega
          obtain rfl : c = n + 1 := by omega
          go_wp2_with fail
          go_roundg (g0 - 1)
          case measure => have := HQ.out; have := HG0.out; omega
          case rel => exact ⟨n + 1, by go_num, by have := HQ.out; have := HG0.out; omega, by omega, fun n' c' h1 h2 h3 => HM1.out n' c' h1 h2 (by omega), HBC.out⟩
    · obtain rfl : n = lot + 1 := by omega
      have := HM.out lot good (by omega) (by omega) (by omega)
      rw [HLAST.out] at this
      cases this

set_option maxRecDepth 100000 in
set_option maxHeartbeats 2000000 in
theorem cho_great (w : World) (lot good bad : Int) (a b : ByteArray) (h7 : 7 < lot) (h64 : lot ≤ 64) (hs : Std w) :
    Calls Tryz.prog 4 #[.agg #[.int .i64 lot, .int .i64 good, .int .i64 bad, .string a, .string b]] w fun e w' => e = .returned (.bool true) ∧ Below w.heap.size w w' := by
  have HS := hide hs
  have HA := hide (fun W (hS : Std W) => awake54_any W hS)
  clear hs
  have HB := allocs_below w [.cells #[.int .i64 lot, .int .i64 good, .int .i64 bad, .string a, .string b] 38]
  have K_x : Blk (allocs w [.cells #[.int .i64 lot, .int .i64 good, .int .i64 bad, .string a, .string b] 38]) (w.heap.size + 0) 38 #[.int .i64 lot, .int .i64 good, .int .i64 bad, .string a, .string b] := allocs_at w [.cells #[.int .i64 lot, .int .i64 good, .int .i64 bad, .string a, .string b] 38] 0 rfl
  unfold allocs at HB K_x
  simp only [List.foldl_cons, List.foldl_nil] at HB K_x
  rw [Nat.add_zero] at K_x
  go_enter Tryz.func4, Tryz.ntmps4
  go_upto_region 1 with (fail)
  generalize (w.alloc (.cells #[.int .i64 lot, .int .i64 good, .int .i64 bad, .string a, .string b] 38)) = w0 at *
  replace K_x := hide K_x
  replace HB := hide HB
  have x0 := (Blk.cell K_x.out 0).trans (rfl : _ = some (Value.int .i64 lot))
  have x1 := (Blk.cell K_x.out 1).trans (rfl : _ = some (Value.int .i64 good))
  have x2 := (Blk.cell K_x.out 2).trans (rfl : _ = some (Value.int .i64 bad))
  have x3 := (Blk.cell K_x.out 3).trans (rfl : _ = some (Value.string a))
  have x4 := (Blk.cell K_x.out 4).trans (rfl : _ = some (Value.string b))
  go_wp2_with fail
  refine (HA.out _ (HS.out.below HB.out (Nat.le_refl _))).mono ?_
  rintro e wz ⟨rfl, hb⟩
  clear x0 x1 x2 x3 x4
  replace K_x := hide (Blk.below K_x.out hb (Blk.lt K_x.out))
  replace HB := hide (HB.out.trans (hb.mono HB.out.size))
  clear hb
  go_wp2_with fail
  go_ret
  exact ⟨rfl, HB.out⟩

set_option maxRecDepth 100000 in
set_option maxHeartbeats 2000000 in
theorem cho_long1 (w : World) (lot good bad : Int) (a b : ByteArray) (h : ¬ (7 < lot ∧ lot ≤ 64)) (hza : a.size ≤ 9223372036854775807) (hsa : shortR a.data.toList = false) (hs : Std w) :
    Calls Tryz.prog 4 #[.agg #[.int .i64 lot, .int .i64 good, .int .i64 bad, .string a, .string b]] w fun e w' => e = .returned (.bool true) ∧ Below w.heap.size w w' := by
  by_cases h7 : 7 < lot
  · skip
    have h64 : ¬ lot ≤ 64 := by omega
    clear h
    have HS := hide hs
    have HA := hide (fun W (hS : Std W) => awake54_any W hS)
    have HP1 := hide (fun W => rshortL_any W a _ rfl hza)
    rw [hsa] at HP1
    clear hs
    have HB := allocs_below w [.cells #[.int .i64 lot, .int .i64 good, .int .i64 bad, .string a, .string b] 38]
    have K_x : Blk (allocs w [.cells #[.int .i64 lot, .int .i64 good, .int .i64 bad, .string a, .string b] 38]) (w.heap.size + 0) 38 #[.int .i64 lot, .int .i64 good, .int .i64 bad, .string a, .string b] := allocs_at w [.cells #[.int .i64 lot, .int .i64 good, .int .i64 bad, .string a, .string b] 38] 0 rfl
    unfold allocs at HB K_x
    simp only [List.foldl_cons, List.foldl_nil] at HB K_x
    rw [Nat.add_zero] at K_x
    go_enter Tryz.func4, Tryz.ntmps4
    go_upto_region 1 with (fail)
    generalize (w.alloc (.cells #[.int .i64 lot, .int .i64 good, .int .i64 bad, .string a, .string b] 38)) = w0 at *
    replace K_x := hide K_x
    replace HB := hide HB
    have x0 := (Blk.cell K_x.out 0).trans (rfl : _ = some (Value.int .i64 lot))
    have x1 := (Blk.cell K_x.out 1).trans (rfl : _ = some (Value.int .i64 good))
    have x2 := (Blk.cell K_x.out 2).trans (rfl : _ = some (Value.int .i64 bad))
    have x3 := (Blk.cell K_x.out 3).trans (rfl : _ = some (Value.string a))
    have x4 := (Blk.cell K_x.out 4).trans (rfl : _ = some (Value.string b))
    go_wp2_with fail
    refine (HP1.out _).mono ?_
    rintro e w1 ⟨rfl, hb⟩
    clear x0 x1 x2 x3 x4
    replace K_x := hide (Blk.below K_x.out hb (Blk.lt K_x.out))
    replace HB := hide (HB.out.trans (hb.mono HB.out.size))
    clear hb
    go_wp2_with fail
    refine (HA.out _ (HS.out.below HB.out (Nat.le_refl _))).mono ?_
    rintro e wz ⟨rfl, hb⟩
    replace K_x := hide (Blk.below K_x.out hb (Blk.lt K_x.out))
    replace HB := hide (HB.out.trans (hb.mono HB.out.size))
    clear hb
    go_wp2_with fail
    go_ret
    exact ⟨rfl, HB.out⟩
  · skip
    clear h
    have HS := hide hs
    have HA := hide (fun W (hS : Std W) => awake54_any W hS)
    have HP1 := hide (fun W => rshortL_any W a _ rfl hza)
    rw [hsa] at HP1
    clear hs
    have HB := allocs_below w [.cells #[.int .i64 lot, .int .i64 good, .int .i64 bad, .string a, .string b] 38]
    have K_x : Blk (allocs w [.cells #[.int .i64 lot, .int .i64 good, .int .i64 bad, .string a, .string b] 38]) (w.heap.size + 0) 38 #[.int .i64 lot, .int .i64 good, .int .i64 bad, .string a, .string b] := allocs_at w [.cells #[.int .i64 lot, .int .i64 good, .int .i64 bad, .string a, .string b] 38] 0 rfl
    unfold allocs at HB K_x
    simp only [List.foldl_cons, List.foldl_nil] at HB K_x
    rw [Nat.add_zero] at K_x
    go_enter Tryz.func4, Tryz.ntmps4
    go_upto_region 1 with (fail)
    generalize (w.alloc (.cells #[.int .i64 lot, .int .i64 good, .int .i64 bad, .string a, .string b] 38)) = w0 at *
    replace K_x := hide K_x
    replace HB := hide HB
    have x0 := (Blk.cell K_x.out 0).trans (rfl : _ = some (Value.int .i64 lot))
    have x1 := (Blk.cell K_x.out 1).trans (rfl : _ = some (Value.int .i64 good))
    have x2 := (Blk.cell K_x.out 2).trans (rfl : _ = some (Value.int .i64 bad))
    have x3 := (Blk.cell K_x.out 3).trans (rfl : _ = some (Value.string a))
    have x4 := (Blk.cell K_x.out 4).trans (rfl : _ = some (Value.string b))
    go_wp2_with fail
    refine (HP1.out _).mono ?_
    rintro e w1 ⟨rfl, hb⟩
    clear x0 x1 x2 x3 x4
    replace K_x := hide (Blk.below K_x.out hb (Blk.lt K_x.out))
    replace HB := hide (HB.out.trans (hb.mono HB.out.size))
    clear hb
    go_wp2_with fail
    refine (HA.out _ (HS.out.below HB.out (Nat.le_refl _))).mono ?_
    rintro e wz ⟨rfl, hb⟩
    replace K_x := hide (Blk.below K_x.out hb (Blk.lt K_x.out))
    replace HB := hide (HB.out.trans (hb.mono HB.out.size))
    clear hb
    go_wp2_with fail
    go_ret
    exact ⟨rfl, HB.out⟩

set_option maxRecDepth 100000 in
set_option maxHeartbeats 2000000 in
theorem cho_long2 (w : World) (lot good bad : Int) (a b : ByteArray) (h : ¬ (7 < lot ∧ lot ≤ 64)) (hza : a.size ≤ 9223372036854775807) (hzb : b.size ≤ 9223372036854775807) (hsa : shortR a.data.toList = true) (hsb : shortR b.data.toList = false) (hs : Std w) :
    Calls Tryz.prog 4 #[.agg #[.int .i64 lot, .int .i64 good, .int .i64 bad, .string a, .string b]] w fun e w' => e = .returned (.bool true) ∧ Below w.heap.size w w' := by
  by_cases h7 : 7 < lot
  · skip
    have h64 : ¬ lot ≤ 64 := by omega
    clear h
    have HS := hide hs
    have HA := hide (fun W (hS : Std W) => awake54_any W hS)
    have HP1 := hide (fun W => rshortL_any W a _ rfl hza)
    rw [hsa] at HP1
    have HP2 := hide (fun W => rshortL_any W b _ rfl hzb)
    rw [hsb] at HP2
    clear hs
    have HB := allocs_below w [.cells #[.int .i64 lot, .int .i64 good, .int .i64 bad, .string a, .string b] 38]
    have K_x : Blk (allocs w [.cells #[.int .i64 lot, .int .i64 good, .int .i64 bad, .string a, .string b] 38]) (w.heap.size + 0) 38 #[.int .i64 lot, .int .i64 good, .int .i64 bad, .string a, .string b] := allocs_at w [.cells #[.int .i64 lot, .int .i64 good, .int .i64 bad, .string a, .string b] 38] 0 rfl
    unfold allocs at HB K_x
    simp only [List.foldl_cons, List.foldl_nil] at HB K_x
    rw [Nat.add_zero] at K_x
    go_enter Tryz.func4, Tryz.ntmps4
    go_upto_region 1 with (fail)
    generalize (w.alloc (.cells #[.int .i64 lot, .int .i64 good, .int .i64 bad, .string a, .string b] 38)) = w0 at *
    replace K_x := hide K_x
    replace HB := hide HB
    have x0 := (Blk.cell K_x.out 0).trans (rfl : _ = some (Value.int .i64 lot))
    have x1 := (Blk.cell K_x.out 1).trans (rfl : _ = some (Value.int .i64 good))
    have x2 := (Blk.cell K_x.out 2).trans (rfl : _ = some (Value.int .i64 bad))
    have x3 := (Blk.cell K_x.out 3).trans (rfl : _ = some (Value.string a))
    have x4 := (Blk.cell K_x.out 4).trans (rfl : _ = some (Value.string b))
    go_wp2_with fail
    refine (HP1.out _).mono ?_
    rintro e w1 ⟨rfl, hb⟩
    clear x0 x1 x2 x3 x4
    replace K_x := hide (Blk.below K_x.out hb (Blk.lt K_x.out))
    replace HB := hide (HB.out.trans (hb.mono HB.out.size))
    clear hb
    have x0 := (Blk.cell K_x.out 0).trans (rfl : _ = some (Value.int .i64 lot))
    have x1 := (Blk.cell K_x.out 1).trans (rfl : _ = some (Value.int .i64 good))
    have x2 := (Blk.cell K_x.out 2).trans (rfl : _ = some (Value.int .i64 bad))
    have x3 := (Blk.cell K_x.out 3).trans (rfl : _ = some (Value.string a))
    have x4 := (Blk.cell K_x.out 4).trans (rfl : _ = some (Value.string b))
    go_wp2_with fail
    refine (HP2.out _).mono ?_
    rintro e w2 ⟨rfl, hb⟩
    clear x0 x1 x2 x3 x4
    replace K_x := hide (Blk.below K_x.out hb (Blk.lt K_x.out))
    replace HB := hide (HB.out.trans (hb.mono HB.out.size))
    clear hb
    go_wp2_with fail
    refine (HA.out _ (HS.out.below HB.out (Nat.le_refl _))).mono ?_
    rintro e wz ⟨rfl, hb⟩
    replace K_x := hide (Blk.below K_x.out hb (Blk.lt K_x.out))
    replace HB := hide (HB.out.trans (hb.mono HB.out.size))
    clear hb
    go_wp2_with fail
    go_ret
    exact ⟨rfl, HB.out⟩
  · skip
    clear h
    have HS := hide hs
    have HA := hide (fun W (hS : Std W) => awake54_any W hS)
    have HP1 := hide (fun W => rshortL_any W a _ rfl hza)
    rw [hsa] at HP1
    have HP2 := hide (fun W => rshortL_any W b _ rfl hzb)
    rw [hsb] at HP2
    clear hs
    have HB := allocs_below w [.cells #[.int .i64 lot, .int .i64 good, .int .i64 bad, .string a, .string b] 38]
    have K_x : Blk (allocs w [.cells #[.int .i64 lot, .int .i64 good, .int .i64 bad, .string a, .string b] 38]) (w.heap.size + 0) 38 #[.int .i64 lot, .int .i64 good, .int .i64 bad, .string a, .string b] := allocs_at w [.cells #[.int .i64 lot, .int .i64 good, .int .i64 bad, .string a, .string b] 38] 0 rfl
    unfold allocs at HB K_x
    simp only [List.foldl_cons, List.foldl_nil] at HB K_x
    rw [Nat.add_zero] at K_x
    go_enter Tryz.func4, Tryz.ntmps4
    go_upto_region 1 with (fail)
    generalize (w.alloc (.cells #[.int .i64 lot, .int .i64 good, .int .i64 bad, .string a, .string b] 38)) = w0 at *
    replace K_x := hide K_x
    replace HB := hide HB
    have x0 := (Blk.cell K_x.out 0).trans (rfl : _ = some (Value.int .i64 lot))
    have x1 := (Blk.cell K_x.out 1).trans (rfl : _ = some (Value.int .i64 good))
    have x2 := (Blk.cell K_x.out 2).trans (rfl : _ = some (Value.int .i64 bad))
    have x3 := (Blk.cell K_x.out 3).trans (rfl : _ = some (Value.string a))
    have x4 := (Blk.cell K_x.out 4).trans (rfl : _ = some (Value.string b))
    go_wp2_with fail
    refine (HP1.out _).mono ?_
    rintro e w1 ⟨rfl, hb⟩
    clear x0 x1 x2 x3 x4
    replace K_x := hide (Blk.below K_x.out hb (Blk.lt K_x.out))
    replace HB := hide (HB.out.trans (hb.mono HB.out.size))
    clear hb
    have x0 := (Blk.cell K_x.out 0).trans (rfl : _ = some (Value.int .i64 lot))
    have x1 := (Blk.cell K_x.out 1).trans (rfl : _ = some (Value.int .i64 good))
    have x2 := (Blk.cell K_x.out 2).trans (rfl : _ = some (Value.int .i64 bad))
    have x3 := (Blk.cell K_x.out 3).trans (rfl : _ = some (Value.string a))
    have x4 := (Blk.cell K_x.out 4).trans (rfl : _ = some (Value.string b))
    go_wp2_with fail
    refine (HP2.out _).mono ?_
    rintro e w2 ⟨rfl, hb⟩
    clear x0 x1 x2 x3 x4
    replace K_x := hide (Blk.below K_x.out hb (Blk.lt K_x.out))
    replace HB := hide (HB.out.trans (hb.mono HB.out.size))
    clear hb
    go_wp2_with fail
    refine (HA.out _ (HS.out.below HB.out (Nat.le_refl _))).mono ?_
    rintro e wz ⟨rfl, hb⟩
    replace K_x := hide (Blk.below K_x.out hb (Blk.lt K_x.out))
    replace HB := hide (HB.out.trans (hb.mono HB.out.size))
    clear hb
    go_wp2_with fail
    go_ret
    exact ⟨rfl, HB.out⟩

set_option maxRecDepth 100000 in
set_option maxHeartbeats 8000000 in
theorem cho_main (w : World) (lot good bad : Int) (a b : ByteArray) (h : ¬ (7 < lot ∧ lot ≤ 64)) (hza : a.size ≤ 9223372036854775807) (hzb : b.size ≤ 9223372036854775807) (hsa : shortR a.data.toList = true) (hsb : shortR b.data.toList = true) (n1 c1 e1 : Int) (g1 : ∀ W, Std W → Calls Tryz.prog 21 #[.int .i64 lot, .int .i64 good, .int .i64 bad, .string a, .string b] W fun e w' => e = .returned (.tuple #[.agg #[.int .i64 n1, .int .i64 c1], .int .i64 e1]) ∧ Below W.heap.size W w') (g2 : ∀ W, Std W → Calls Tryz.prog 22 #[.agg #[.int .i64 lot, .int .i64 good, .int .i64 bad, .string a, .string b]] W fun e w' => e = .returned (.tuple #[.agg #[.int .i64 n1, .int .i64 c1], .int .i64 e1]) ∧ Below W.heap.size W w') (hs : Std w) :
    Calls Tryz.prog 4 #[.agg #[.int .i64 lot, .int .i64 good, .int .i64 bad, .string a, .string b]] w fun e w' => e = .returned (.bool true) ∧ Below w.heap.size w w' := by
  by_cases h7 : 7 < lot
  · skip
    have h64 : ¬ lot ≤ 64 := by omega
    clear h
    have HS := hide hs
    have HA := hide (fun W (hS : Std W) => awake54_any W hS)
    have HP1 := hide (fun W => rshortL_any W a _ rfl hza)
    rw [hsa] at HP1
    have HP2 := hide (fun W => rshortL_any W b _ rfl hzb)
    rw [hsb] at HP2
    clear hs
    have HB := allocs_below w [.cells #[.int .i64 lot, .int .i64 good, .int .i64 bad, .string a, .string b] 38]
    have K_x : Blk (allocs w [.cells #[.int .i64 lot, .int .i64 good, .int .i64 bad, .string a, .string b] 38]) (w.heap.size + 0) 38 #[.int .i64 lot, .int .i64 good, .int .i64 bad, .string a, .string b] := allocs_at w [.cells #[.int .i64 lot, .int .i64 good, .int .i64 bad, .string a, .string b] 38] 0 rfl
    unfold allocs at HB K_x
    simp only [List.foldl_cons, List.foldl_nil] at HB K_x
    rw [Nat.add_zero] at K_x
    go_enter Tryz.func4, Tryz.ntmps4
    go_upto_region 1 with (fail)
    generalize (w.alloc (.cells #[.int .i64 lot, .int .i64 good, .int .i64 bad, .string a, .string b] 38)) = w0 at *
    replace K_x := hide K_x
    replace HB := hide HB
    have x0 := (Blk.cell K_x.out 0).trans (rfl : _ = some (Value.int .i64 lot))
    have x1 := (Blk.cell K_x.out 1).trans (rfl : _ = some (Value.int .i64 good))
    have x2 := (Blk.cell K_x.out 2).trans (rfl : _ = some (Value.int .i64 bad))
    have x3 := (Blk.cell K_x.out 3).trans (rfl : _ = some (Value.string a))
    have x4 := (Blk.cell K_x.out 4).trans (rfl : _ = some (Value.string b))
    go_wp2_with fail
    refine (HP1.out _).mono ?_
    rintro e w1 ⟨rfl, hb⟩
    clear x0 x1 x2 x3 x4
    replace K_x := hide (Blk.below K_x.out hb (Blk.lt K_x.out))
    replace HB := hide (HB.out.trans (hb.mono HB.out.size))
    clear hb
    have x0 := (Blk.cell K_x.out 0).trans (rfl : _ = some (Value.int .i64 lot))
    have x1 := (Blk.cell K_x.out 1).trans (rfl : _ = some (Value.int .i64 good))
    have x2 := (Blk.cell K_x.out 2).trans (rfl : _ = some (Value.int .i64 bad))
    have x3 := (Blk.cell K_x.out 3).trans (rfl : _ = some (Value.string a))
    have x4 := (Blk.cell K_x.out 4).trans (rfl : _ = some (Value.string b))
    go_wp2_with fail
    refine (HP2.out _).mono ?_
    rintro e w2 ⟨rfl, hb⟩
    clear x0 x1 x2 x3 x4
    replace K_x := hide (Blk.below K_x.out hb (Blk.lt K_x.out))
    replace HB := hide (HB.out.trans (hb.mono HB.out.size))
    clear hb
    have H1 := hide g1
    have H2 := hide g2
    have HSE := hide (fun W => sent_any W n1 c1)
    clear g1 g2
    have x0 := (Blk.cell K_x.out 0).trans (rfl : _ = some (Value.int .i64 lot))
    have x1 := (Blk.cell K_x.out 1).trans (rfl : _ = some (Value.int .i64 good))
    have x2 := (Blk.cell K_x.out 2).trans (rfl : _ = some (Value.int .i64 bad))
    have x3 := (Blk.cell K_x.out 3).trans (rfl : _ = some (Value.string a))
    have x4 := (Blk.cell K_x.out 4).trans (rfl : _ = some (Value.string b))
    go_wp2_with fail
    refine (H1.out _ (HS.out.below HB.out (Nat.le_refl _))).mono ?_
    rintro e w3 ⟨rfl, hb⟩
    clear x0 x1 x2 x3 x4
    replace K_x := hide (Blk.below K_x.out hb (Blk.lt K_x.out))
    replace HB := hide (HB.out.trans (hb.mono HB.out.size))
    clear hb
    go_upto_region 4 with (fail)
    have lt_t_x : w.heap.size < w3.heap.size := Blk.lt K_x.out
    replace K_x := K_x.out.alloc (.cells #[.int .i64 n1, .int .i64 c1] 30)
    replace HB := HB.out.alloc HB.out.size (.cells #[.int .i64 n1, .int .i64 c1] 30)
    have K_t := Blk.new w3 30 #[.int .i64 n1, .int .i64 c1]
    generalize w3.alloc (.cells #[.int .i64 n1, .int .i64 c1] 30) = wp at *
    replace K_x := hide K_x
    replace K_t := hide K_t
    replace HB := hide HB
    have x0 := (Blk.cell K_x.out 0).trans (rfl : _ = some (Value.int .i64 lot))
    have x1 := (Blk.cell K_x.out 1).trans (rfl : _ = some (Value.int .i64 good))
    have x2 := (Blk.cell K_x.out 2).trans (rfl : _ = some (Value.int .i64 bad))
    have x3 := (Blk.cell K_x.out 3).trans (rfl : _ = some (Value.string a))
    have x4 := (Blk.cell K_x.out 4).trans (rfl : _ = some (Value.string b))
    go_wp2_with fail
    refine (H2.out _ (HS.out.below HB.out (Nat.le_refl _))).mono ?_
    rintro e w4 ⟨rfl, hb⟩
    clear x0 x1 x2 x3 x4
    replace K_x := hide (Blk.below K_x.out hb (Blk.lt K_x.out))
    replace K_t := hide (Blk.below K_t.out hb (Blk.lt K_t.out))
    replace HB := hide (HB.out.trans (hb.mono HB.out.size))
    clear hb
    go_upto_region 5 with (fail)
    have lt_u_x : w.heap.size < w4.heap.size := Blk.lt K_x.out
    have lt_u_t : w3.heap.size < w4.heap.size := Blk.lt K_t.out
    replace K_x := K_x.out.alloc (.cells #[.int .i64 n1, .int .i64 c1] 23)
    replace K_t := K_t.out.alloc (.cells #[.int .i64 n1, .int .i64 c1] 23)
    replace HB := HB.out.alloc HB.out.size (.cells #[.int .i64 n1, .int .i64 c1] 23)
    have K_u := Blk.new w4 23 #[.int .i64 n1, .int .i64 c1]
    generalize w4.alloc (.cells #[.int .i64 n1, .int .i64 c1] 23) = wq at *
    replace K_x := hide K_x
    replace K_t := hide K_t
    replace K_u := hide K_u
    replace HB := hide HB
    have t0 := (Blk.cell K_t.out 0).trans (rfl : _ = some (Value.int .i64 n1))
    have t1 := (Blk.cell K_t.out 1).trans (rfl : _ = some (Value.int .i64 c1))
    have u0 := (Blk.cell K_u.out 0).trans (rfl : _ = some (Value.int .i64 n1))
    have u1 := (Blk.cell K_u.out 1).trans (rfl : _ = some (Value.int .i64 c1))
    have SK : ∀ w', Below wq.heap.size wq w' → Below wq.heap.size wq w' ∧ w'.cell? ⟨w3.heap.size, 0, none⟩ = some (.int .i64 n1) ∧ w'.cell? ⟨w3.heap.size, 1, none⟩ = some (.int .i64 c1) ∧ w'.cell? ⟨w4.heap.size, 0, none⟩ = some (.int .i64 n1) ∧ w'.cell? ⟨w4.heap.size, 1, none⟩ = some (.int .i64 c1) := fun w' h => ⟨h, (bcell h _ _ (block_lt_of_cell t0)).trans t0, (bcell h _ _ (block_lt_of_cell t1)).trans t1, (bcell h _ _ (block_lt_of_cell u0)).trans u0, (bcell h _ _ (block_lt_of_cell u1)).trans u1⟩
    have SS' : ∀ {R : Prop} {W : World}, Below wq.heap.size wq W ∧ R → Std W := fun h => (HS.out.below HB.out (Nat.le_refl _)).below h.1 (Nat.le_refl _)
    go_region_held3 (fun w' => Below wq.heap.size wq w' ∧ w'.cell? ⟨w3.heap.size, 0, none⟩ = some (.int .i64 n1) ∧ w'.cell? ⟨w3.heap.size, 1, none⟩ = some (.int .i64 c1) ∧ w'.cell? ⟨w4.heap.size, 0, none⟩ = some (.int .i64 n1) ∧ w'.cell? ⟨w4.heap.size, 1, none⟩ = some (.int .i64 c1)) (first | exact SK _ (Below.refl _ _).drew | exact SK _ (Below.refl _ _) | exact SK _ (bel_next (by assumption) (by assumption) (Nat.le_refl _)))
      (first
        | (go_at_call 12; refine (HA.out _ (SS' (by assumption))).mono ?_; rintro e wx ⟨rfl, hbW⟩)
        | (go_at_call 14; refine (HSE.out _).mono ?_; rintro e wx ⟨rfl, hbW⟩))
    obtain ⟨hbx, _⟩ : Below wq.heap.size wq _ ∧ _ := by assumption
    have HX := hide (HB.out.trans (hbx.mono HB.out.size))
    clear hbx
    go_wp2_with fail
    go_ret
    exact ⟨rfl, HX.out⟩
  · skip
    clear h
    have HS := hide hs
    have HA := hide (fun W (hS : Std W) => awake54_any W hS)
    have HP1 := hide (fun W => rshortL_any W a _ rfl hza)
    rw [hsa] at HP1
    have HP2 := hide (fun W => rshortL_any W b _ rfl hzb)
    rw [hsb] at HP2
    clear hs
    have HB := allocs_below w [.cells #[.int .i64 lot, .int .i64 good, .int .i64 bad, .string a, .string b] 38]
    have K_x : Blk (allocs w [.cells #[.int .i64 lot, .int .i64 good, .int .i64 bad, .string a, .string b] 38]) (w.heap.size + 0) 38 #[.int .i64 lot, .int .i64 good, .int .i64 bad, .string a, .string b] := allocs_at w [.cells #[.int .i64 lot, .int .i64 good, .int .i64 bad, .string a, .string b] 38] 0 rfl
    unfold allocs at HB K_x
    simp only [List.foldl_cons, List.foldl_nil] at HB K_x
    rw [Nat.add_zero] at K_x
    go_enter Tryz.func4, Tryz.ntmps4
    go_upto_region 1 with (fail)
    generalize (w.alloc (.cells #[.int .i64 lot, .int .i64 good, .int .i64 bad, .string a, .string b] 38)) = w0 at *
    replace K_x := hide K_x
    replace HB := hide HB
    have x0 := (Blk.cell K_x.out 0).trans (rfl : _ = some (Value.int .i64 lot))
    have x1 := (Blk.cell K_x.out 1).trans (rfl : _ = some (Value.int .i64 good))
    have x2 := (Blk.cell K_x.out 2).trans (rfl : _ = some (Value.int .i64 bad))
    have x3 := (Blk.cell K_x.out 3).trans (rfl : _ = some (Value.string a))
    have x4 := (Blk.cell K_x.out 4).trans (rfl : _ = some (Value.string b))
    go_wp2_with fail
    refine (HP1.out _).mono ?_
    rintro e w1 ⟨rfl, hb⟩
    clear x0 x1 x2 x3 x4
    replace K_x := hide (Blk.below K_x.out hb (Blk.lt K_x.out))
    replace HB := hide (HB.out.trans (hb.mono HB.out.size))
    clear hb
    have x0 := (Blk.cell K_x.out 0).trans (rfl : _ = some (Value.int .i64 lot))
    have x1 := (Blk.cell K_x.out 1).trans (rfl : _ = some (Value.int .i64 good))
    have x2 := (Blk.cell K_x.out 2).trans (rfl : _ = some (Value.int .i64 bad))
    have x3 := (Blk.cell K_x.out 3).trans (rfl : _ = some (Value.string a))
    have x4 := (Blk.cell K_x.out 4).trans (rfl : _ = some (Value.string b))
    go_wp2_with fail
    refine (HP2.out _).mono ?_
    rintro e w2 ⟨rfl, hb⟩
    clear x0 x1 x2 x3 x4
    replace K_x := hide (Blk.below K_x.out hb (Blk.lt K_x.out))
    replace HB := hide (HB.out.trans (hb.mono HB.out.size))
    clear hb
    have H1 := hide g1
    have H2 := hide g2
    have HSE := hide (fun W => sent_any W n1 c1)
    clear g1 g2
    have x0 := (Blk.cell K_x.out 0).trans (rfl : _ = some (Value.int .i64 lot))
    have x1 := (Blk.cell K_x.out 1).trans (rfl : _ = some (Value.int .i64 good))
    have x2 := (Blk.cell K_x.out 2).trans (rfl : _ = some (Value.int .i64 bad))
    have x3 := (Blk.cell K_x.out 3).trans (rfl : _ = some (Value.string a))
    have x4 := (Blk.cell K_x.out 4).trans (rfl : _ = some (Value.string b))
    go_wp2_with fail
    refine (H1.out _ (HS.out.below HB.out (Nat.le_refl _))).mono ?_
    rintro e w3 ⟨rfl, hb⟩
    clear x0 x1 x2 x3 x4
    replace K_x := hide (Blk.below K_x.out hb (Blk.lt K_x.out))
    replace HB := hide (HB.out.trans (hb.mono HB.out.size))
    clear hb
    go_upto_region 4 with (fail)
    have lt_t_x : w.heap.size < w3.heap.size := Blk.lt K_x.out
    replace K_x := K_x.out.alloc (.cells #[.int .i64 n1, .int .i64 c1] 30)
    replace HB := HB.out.alloc HB.out.size (.cells #[.int .i64 n1, .int .i64 c1] 30)
    have K_t := Blk.new w3 30 #[.int .i64 n1, .int .i64 c1]
    generalize w3.alloc (.cells #[.int .i64 n1, .int .i64 c1] 30) = wp at *
    replace K_x := hide K_x
    replace K_t := hide K_t
    replace HB := hide HB
    have x0 := (Blk.cell K_x.out 0).trans (rfl : _ = some (Value.int .i64 lot))
    have x1 := (Blk.cell K_x.out 1).trans (rfl : _ = some (Value.int .i64 good))
    have x2 := (Blk.cell K_x.out 2).trans (rfl : _ = some (Value.int .i64 bad))
    have x3 := (Blk.cell K_x.out 3).trans (rfl : _ = some (Value.string a))
    have x4 := (Blk.cell K_x.out 4).trans (rfl : _ = some (Value.string b))
    go_wp2_with fail
    refine (H2.out _ (HS.out.below HB.out (Nat.le_refl _))).mono ?_
    rintro e w4 ⟨rfl, hb⟩
    clear x0 x1 x2 x3 x4
    replace K_x := hide (Blk.below K_x.out hb (Blk.lt K_x.out))
    replace K_t := hide (Blk.below K_t.out hb (Blk.lt K_t.out))
    replace HB := hide (HB.out.trans (hb.mono HB.out.size))
    clear hb
    go_upto_region 5 with (fail)
    have lt_u_x : w.heap.size < w4.heap.size := Blk.lt K_x.out
    have lt_u_t : w3.heap.size < w4.heap.size := Blk.lt K_t.out
    replace K_x := K_x.out.alloc (.cells #[.int .i64 n1, .int .i64 c1] 23)
    replace K_t := K_t.out.alloc (.cells #[.int .i64 n1, .int .i64 c1] 23)
    replace HB := HB.out.alloc HB.out.size (.cells #[.int .i64 n1, .int .i64 c1] 23)
    have K_u := Blk.new w4 23 #[.int .i64 n1, .int .i64 c1]
    generalize w4.alloc (.cells #[.int .i64 n1, .int .i64 c1] 23) = wq at *
    replace K_x := hide K_x
    replace K_t := hide K_t
    replace K_u := hide K_u
    replace HB := hide HB
    have t0 := (Blk.cell K_t.out 0).trans (rfl : _ = some (Value.int .i64 n1))
    have t1 := (Blk.cell K_t.out 1).trans (rfl : _ = some (Value.int .i64 c1))
    have u0 := (Blk.cell K_u.out 0).trans (rfl : _ = some (Value.int .i64 n1))
    have u1 := (Blk.cell K_u.out 1).trans (rfl : _ = some (Value.int .i64 c1))
    have SK : ∀ w', Below wq.heap.size wq w' → Below wq.heap.size wq w' ∧ w'.cell? ⟨w3.heap.size, 0, none⟩ = some (.int .i64 n1) ∧ w'.cell? ⟨w3.heap.size, 1, none⟩ = some (.int .i64 c1) ∧ w'.cell? ⟨w4.heap.size, 0, none⟩ = some (.int .i64 n1) ∧ w'.cell? ⟨w4.heap.size, 1, none⟩ = some (.int .i64 c1) := fun w' h => ⟨h, (bcell h _ _ (block_lt_of_cell t0)).trans t0, (bcell h _ _ (block_lt_of_cell t1)).trans t1, (bcell h _ _ (block_lt_of_cell u0)).trans u0, (bcell h _ _ (block_lt_of_cell u1)).trans u1⟩
    have SS' : ∀ {R : Prop} {W : World}, Below wq.heap.size wq W ∧ R → Std W := fun h => (HS.out.below HB.out (Nat.le_refl _)).below h.1 (Nat.le_refl _)
    go_region_held3 (fun w' => Below wq.heap.size wq w' ∧ w'.cell? ⟨w3.heap.size, 0, none⟩ = some (.int .i64 n1) ∧ w'.cell? ⟨w3.heap.size, 1, none⟩ = some (.int .i64 c1) ∧ w'.cell? ⟨w4.heap.size, 0, none⟩ = some (.int .i64 n1) ∧ w'.cell? ⟨w4.heap.size, 1, none⟩ = some (.int .i64 c1)) (first | exact SK _ (Below.refl _ _).drew | exact SK _ (Below.refl _ _) | exact SK _ (bel_next (by assumption) (by assumption) (Nat.le_refl _)))
      (first
        | (go_at_call 12; refine (HA.out _ (SS' (by assumption))).mono ?_; rintro e wx ⟨rfl, hbW⟩)
        | (go_at_call 14; refine (HSE.out _).mono ?_; rintro e wx ⟨rfl, hbW⟩))
    obtain ⟨hbx, _⟩ : Below wq.heap.size wq _ ∧ _ := by assumption
    have HX := hide (HB.out.trans (hbx.mono HB.out.size))
    clear hbx
    go_wp2_with fail
    go_ret
    exact ⟨rfl, HX.out⟩


theorem chooses_any (w : World) (lot good bad : Int) (a b : ByteArray) (hza : a.size ≤ maxLen) (hzb : b.size ≤ maxLen) (hs : Std w) :
    Calls Tryz.prog 4 #[.agg #[.int .i64 lot, .int .i64 good, .int .i64 bad, .string a, .string b]] w fun e w' => e = .returned (.bool true) ∧ Below w.heap.size w w' := by
  have hza2 : a.size ≤ 9223372036854775807 := by unfold maxLen at hza; omega
  have hzb2 : b.size ≤ 9223372036854775807 := by unfold maxLen at hzb; omega
  by_cases h : 7 < lot ∧ lot ≤ 64
  · exact cho_great w lot good bad a b h.1 h.2 hs
  · rcases hsa : shortR a.data.toList with _ | _
    · exact cho_long1 w lot good bad a b h hza2 hsa hs
    · rcases hsb : shortR b.data.toList with _ | _
      · exact cho_long2 w lot good bad a b h hza2 hzb2 hsa hsb hs
      · have sa := hsa
        have sb := hsb
        unfold shortR at sa sb
        rw [Bool.and_eq_true, decide_eq_true_eq, decide_eq_true_eq] at sa sb
        have la := len_of_parts sa.1 sa.2
        have lb := len_of_parts sb.1 sb.2
        obtain ⟨u1, k1⟩ : ∃ u1, (∀ W, Calls Tryz.prog 68 #[.string a] W fun e w' => e = .returned (.int .i64 u1) ∧ Below W.heap.size W w') ∧ (chkR a.data.toList = 0 → ∃ p, a.data.toList = RT p ∧ Sz 30 30 p ∧ unitQ p = u1) := unit_both a sa.1 sa.2
        obtain ⟨u2, k2⟩ : ∃ u2, (∀ W, Calls Tryz.prog 68 #[.string b] W fun e w' => e = .returned (.int .i64 u2) ∧ Below W.heap.size W w') ∧ (chkR b.data.toList = 0 → ∃ p, b.data.toList = RT p ∧ Sz 30 30 p ∧ unitQ p = u2) := unit_both b sb.1 sb.2
        have hR := fun W => right_any W lot good bad (chkR a.data.toList) (chkR b.data.toList) u1 u2 a b (fun W => rrcheck_any W a _ rfl (by rw [Lib.size_eq]; omega)) (fun W => rrcheck_any W b _ rfl (by rw [Lib.size_eq]; omega)) k1.1 k2.1
        have wrong : ∀ z, z ≠ 0 → rtV lot good bad (chkR a.data.toList) (chkR b.data.toList) u1 u2 = z → (∀ W, Std W → Calls Tryz.prog 50 #[.int .i64 lot, .int .i64 good, .int .i64 bad, .string a, .string b] W fun e w' => e = .returned (.int .i64 z) ∧ Below W.heap.size W w') → Calls Tryz.prog 4 #[.agg #[.int .i64 lot, .int .i64 good, .int .i64 bad, .string a, .string b]] w fun e w' => e = .returned (.bool true) ∧ Below w.heap.size w w' := fun z hz hv hn =>
          cho_main w lot good bad a b h hza2 hzb2 hsa hsb 0 0 z (fun W hS => plLeast_bad W lot good bad z a b hz hn hS) (fun W _ => rfLeast_bad W lot good bad z a b hz (by rw [hv] at hR; exact hR)) hs
        by_cases hr : 1 ≤ lot ∧ lot ≤ 64 ∧ (0 ≤ good ∧ good ≤ lot) ∧ 0 ≤ bad ∧ bad ≤ lot
        · obtain ⟨r1, r2, ⟨r3, r4⟩, r5, r6⟩ := hr
          by_cases ho : bad ≤ good
          · exact wrong 9 (by decide) (by unfold rtV; rw [if_neg (by omega), if_pos ho]) (fun W hS => needs_order W lot good bad a b r1 r2 r3 r4 r5 r6 ho)
          · by_cases c1 : chkR a.data.toList = 0
            · by_cases c2 : chkR b.data.toList = 0
              · obtain ⟨p, hp, hpz, hpu⟩ := k1.2 c1
                obtain ⟨q, hq, hqz, hqu⟩ := k2.2 c2
                have fp : Fit p := hpz.fit (by omega) (by omega)
                have fq : Fit q := hqz.fit (by omega) (by omega)
                have v0 : unitQ p = 0 ∨ unitQ p = 2 := by unfold unitQ; split <;> simp
                have v1 : unitQ q = 0 ∨ unitQ q = 2 := by unfold unitQ; split <;> simp
                rcases v0 with v0 | v0
                · rcases v1 with v1 | v1
                  · have hz : rtV lot good bad (chkR a.data.toList) (chkR b.data.toList) u1 u2 = 0 := by
                      unfold rtV
                      rw [if_neg (by omega), if_neg ho, if_neg (fun h => h c1), if_neg (fun h => h c2), if_neg (by omega)]
                    rw [hz] at hR
                    obtain ⟨l, rfl⟩ : ∃ n : Nat, lot = (n : Int) := ⟨lot.toNat, by omega⟩
                    obtain ⟨g, rfl⟩ : ∃ n : Nat, good = (n : Int) := ⟨good.toNat, by omega⟩
                    obtain ⟨d, rfl⟩ : ∃ n : Nat, bad = (n : Int) := ⟨bad.toNat, by omega⟩
                    obtain ⟨n, c, hF⟩ := first_ex (lot := l) (good := g) (bad := d) (pr := p) (co := q) (by omega) (by omega) (by omega) (by unfold unitQ at v0; split at v0; exact (by assumption : 0 ≤ p ∧ p ≤ 1).1; omega) (by unfold unitQ at v1; split at v1; exact (by assumption : 0 ≤ q ∧ q ≤ 1).1; omega)
                    exact cho_main w l g d a b h hza2 hzb2 hsa hsb n c 0
                      (fun W hS => (plLeast_any W l g d a b (by omega) (by omega) (by omega) (by omega) p q hp hq hpz hqz v0 v1 hS).mono fun e w' ⟨n', c', h1, h2, h3⟩ => by obtain ⟨rfl, rfl⟩ := h1.uniq hF; exact ⟨h2, h3⟩)
                      (fun W _ => (rfLeast_any W l g d a b (by omega) (by omega) (by omega) (by omega) p q hp hq hpz hqz v0 v1 hR).mono fun e w' ⟨n', c', h1, h2, h3⟩ => by obtain ⟨rfl, rfl⟩ := h1.uniq hF; exact ⟨h2, h3⟩) hs
                  · exact wrong 2 (by decide) (by unfold rtV; rw [if_neg (by omega), if_neg ho, if_neg (fun h => h c1), if_neg (fun h => h c2), if_pos (by omega)]) (fun W hS => needs_unit2 W lot good bad a b r1 r2 r3 r4 r5 r6 (by omega) p q hp hq fp fq v0 v1 hS)
                · exact wrong 2 (by decide) (by unfold rtV; rw [if_neg (by omega), if_neg ho, if_neg (fun h => h c1), if_neg (fun h => h c2), if_pos (by omega)]) (fun W hS => needs_unit1 W lot good bad a b r1 r2 r3 r4 r5 r6 (by omega) p q hp hq fp fq v0 hS)
              · exact wrong _ c2 (by unfold rtV; rw [if_neg (by omega), if_neg ho, if_neg (fun h => h c1), if_pos c2]) (fun W hS => needs_chk2 W lot good bad a b r1 r2 r3 r4 r5 r6 (by omega) _ _ rfl rfl (by omega) (by omega) c1 c2 hS)
            · exact wrong _ c1 (by unfold rtV; rw [if_neg (by omega), if_neg ho, if_pos c1]) (fun W hS => needs_chk1 W lot good bad a b r1 r2 r3 r4 r5 r6 (by omega) _ rfl (by omega) c1 hS)
        · exact wrong 2 (by decide) (by unfold rtV; rw [if_pos hr]) (fun W hS => needs_range W lot good bad a b hr)
end Go.Proofs.YtaccdkbofhlbkaaGreatDoor
