/- Contracts and plain laws that the statements of this seat share (part Kag). -/
import Derived.Test.YthmmgjieppknkaaGreatDoorKaa
import Derived.Test.YthmmgjieppknkaaGreatDoorKab
import Derived.Test.YthmmgjieppknkaaGreatDoorKac
import Derived.Test.YthmmgjieppknkaaGreatDoorKad
import Derived.Deep.QuietTactic
import Derived.BigQuiet
namespace Go.Proofs.YthmmgjieppknkaaGreatDoor
open Go.RowKit MLab
def schV (S : Nat → Int × Int) : Value := .agg #[.int .i64 (S 0).1, .int .i64 (S 0).2, .int .i64 (S 1).1, .int .i64 (S 1).2, .int .i64 (S 2).1, .int .i64 (S 2).2]
def rOk (p : Int × Int) : Bool := decide (1 ≤ p.1 ∧ p.1 ≤ 1048576 ∧ 0 ≤ p.2 ∧ p.2 < p.1)
def ckS (S : Nat → Int × Int) : Int := if rOk (S 0) = true ∧ rOk (S 1) = true ∧ rOk (S 2) = true then 0 else 2
theorem ckS_bad {S : Nat → Int × Int} {j : Nat} (hj : j < 3) (h : ¬ (1 ≤ (S j).1 ∧ (S j).1 ≤ 1048576 ∧ 0 ≤ (S j).2 ∧ (S j).2 < (S j).1)) : ckS S = 2 := by
  have h2 : rOk (S j) = false := decide_eq_false h
  unfold ckS
  rw [if_neg]
  rintro ⟨a, b, c⟩
  rcases (by omega : j = 0 ∨ j = 1 ∨ j = 2) with rfl | rfl | rfl <;> simp_all
theorem ckS_ok {S : Nat → Int × Int} (h : ∀ j, j < 3 → 1 ≤ (S j).1 ∧ (S j).1 ≤ 1048576 ∧ 0 ≤ (S j).2 ∧ (S j).2 < (S j).1) : ckS S = 0 := by
  unfold ckS
  rw [if_pos ⟨decide_eq_true (h 0 (by omega)), decide_eq_true (h 1 (by omega)), decide_eq_true (h 2 (by omega))⟩]
theorem ckS_zero {S : Nat → Int × Int} (h : ckS S = 0) : ∀ j, j < 3 → 1 ≤ (S j).1 ∧ (S j).1 ≤ 1048576 ∧ 0 ≤ (S j).2 ∧ (S j).2 < (S j).1 := by
  unfold ckS at h
  split at h
  · rename_i h2
    obtain ⟨a, b, c⟩ := h2
    intro j hj
    rcases (by omega : j = 0 ∨ j = 1 ∨ j = 2) with rfl | rfl | rfl
    · exact of_decide_eq_true a
    · exact of_decide_eq_true b
    · exact of_decide_eq_true c
  · omega
theorem idx_rule (S : Nat → Int × Int) {j : Nat} (hj : j < 3) (W : World) : (Instr.index 24 (schV S) (.int .i64 (j : Int))).run Tryz.prog W = .ok (.agg #[.int .i64 (S j).1, .int .i64 (S j).2]) W := by
  have hu : Tryz.prog.underlying 24 = some (.array 3 23) := by kernel_rfl
  obtain ⟨i, hi⟩ : ∃ i, Tryz.prog.info? 23 = some i := Option.isSome_iff_exists.1 (by kernel_rfl)
  have hs := run_sizeOf W hi
  have hc : Tryz.prog.cellsOf 23 = 2 := by kernel_rfl
  rw [hc] at hs
  unfold schV
  rcases (by omega : j = 0 ∨ j = 1 ∨ j = 2) with rfl | rfl | rfl
  · simp [Instr.index, run_underlying hu, asIntOf, hs, go_sem, part]
  · simp [Instr.index, run_underlying hu, asIntOf, hs, go_sem, part]
  · simp [Instr.index, run_underlying hu, asIntOf, hs, go_sem, part]
set_option maxRecDepth 100000 in
set_option maxHeartbeats 2000000 in
theorem swck_any (w : World) (S : Nat → Int × Int) :
    Calls Tryz.prog 19 #[schV S] w fun e w' => e = .returned (.int .i64 (ckS S)) ∧ Below w.heap.size w w' := by
  have HI := hide (fun (j : Nat) (hj : j < 3) W => idx_rule S hj W)
  have HBJ := hide (fun j (hj : j < 3) h => ckS_bad (S := S) (j := j) hj h)
  have HOK := hide (fun h => ckS_ok (S := S) h)
  unfold schV at HI
  show Calls Tryz.prog 19 #[.agg #[.int .i64 (S 0).1, .int .i64 (S 0).2, .int .i64 (S 1).1, .int .i64 (S 1).2, .int .i64 (S 2).1, .int .i64 (S 2).2]] w _
  go_enter Tryz.func19, Tryz.ntmps19
  go_wp2_with fail
  go_loopg [7] 3 (fun z iv wr => ∃ j : Nat, iv = .int .i64 (j : Int) ∧ z + j = 3 ∧ Below w.heap.size w wr ∧ ∀ i, i < j → 1 ≤ (S i).1 ∧ (S i).1 ≤ 1048576 ∧ 0 ≤ (S i).2 ∧ (S i).2 < (S i).1)
  case atStart => exact ⟨0, rfl, rfl, (Below.refl _ _).alloc (Nat.le_refl _) _, fun i hi => absurd hi (by omega)⟩
  case round =>
    obtain ⟨j, rfl, hq, hb, hr⟩ := hrel
    have HQ := hide hq
    have HB := hide hb
    have HR := hide hr
    have hj : j ≤ 3 := by omega
    clear hq hb hr
    by_cases hlt : j < 3
    · have hji : (j : Int) < 3 := by omega
      have hx := HI.out j hlt
      have HBAD := hide (fun h => HBJ.out j hlt h)
      obtain ⟨p, hp⟩ : ∃ p, S j = p := ⟨_, rfl⟩
      obtain ⟨s, a⟩ := p
      rw [hp] at hx HBAD
      simp only at hx
      have HSJ := hide hp
      clear hp
      have hbs := HB.out.size
      by_cases c1 : s < 1
      · have hz := HBAD.out (by omega)
        have HZ := hide hz
        clear hz
        go_wp2_with fail
        go_ret
        rw [HZ.out]
        exact ⟨rfl, HB.out.alloc hbs _⟩
      · by_cases c2 : 1048576 < s
        · have hz := HBAD.out (by omega)
          have HZ := hide hz
          clear hz
          go_wp2_with fail
          go_ret
          rw [HZ.out]
          exact ⟨rfl, HB.out.alloc hbs _⟩
        · by_cases c3 : a < 0
          · have hz := HBAD.out (by omega)
            have HZ := hide hz
            clear hz
            go_wp2_with fail
            go_ret
            rw [HZ.out]
            exact ⟨rfl, HB.out.alloc hbs _⟩
          · by_cases c4 : s ≤ a
            · have hz := HBAD.out (by omega)
              have HZ := hide hz
              clear hz
              go_wp2_with fail
              go_ret
              rw [HZ.out]
              exact ⟨rfl, HB.out.alloc hbs _⟩
            · go_wp2_with fail
              go_roundg (gk - 1)
              case measure => have := HQ.out; omega
              case rel => exact ⟨j + 1, by go_num, by have := HQ.out; omega, HB.out.alloc hbs _, fun i hi => by
  rcases (by omega : i < j ∨ i = j) with h | h
  · exact HR.out i h
  · subst h; rw [HSJ.out]; exact ⟨by show 1 ≤ s; omega, by show s ≤ 1048576; omega, by show 0 ≤ a; omega, by show a < s; omega⟩⟩
    · have hji : ¬ (j : Int) < 3 := by omega
      have h3 : j = 3 := by omega
      subst h3
      go_wp2_with fail
      go_ret
      rw [HOK.out HR.out]
      exact ⟨rfl, HB.out⟩
end Go.Proofs.YthmmgjieppknkaaGreatDoor

namespace Go.Proofs.YthmmgjieppknkaaGreatDoor
open Go.RowKit MLab
def idxF (l : List Bool) : Int := match firstF l with | some k => (k : Int) | none => -1
theorem firstF_some {l : List Bool} {j : Nat} (h : ∀ i, i < j → l[i]? = some true) (hj : l[j]? = some false) : firstF l = some j := by
  induction l generalizing j with
  | nil => simp at hj
  | cons b l ih =>
    cases j with
    | zero =>
      obtain rfl : b = false := by simpa using hj
      rfl
    | succ j =>
      obtain rfl : b = true := by simpa using h 0 (by omega)
      rw [firstF, ih (j := j) (fun i hi => by simpa using h (i + 1) (by omega)) (by simpa using hj)]; rfl
theorem firstF_none {l : List Bool} (h : ∀ i, i < l.length → l[i]? = some true) : firstF l = none := by
  induction l with
  | nil => rfl
  | cons b l ih =>
    obtain rfl : b = true := by simpa using h 0 (by simp)
    rw [firstF, ih (fun i hi => by simpa using h (i + 1) (by simpa using hi))]; rfl
theorem firstF_lt {l : List Bool} {j : Nat} (h : firstF l = some j) : j < l.length ∧ l[j]? = some false ∧ ∀ i, i < j → l[i]? = some true := by
  induction l generalizing j with
  | nil => simp [firstF] at h
  | cons b l ih =>
    cases b with
    | false => simp [firstF] at h; subst h; exact ⟨by simp, by simp, fun i hi => absurd hi (by omega)⟩
    | true =>
      simp [firstF] at h
      obtain ⟨k, hk, rfl⟩ := h
      obtain ⟨h1, h2, h3⟩ := ih hk
      refine ⟨by simp; omega, by simpa using h2, fun i hi => ?_⟩
      cases i with
      | zero => simp
      | succ i => simpa using h3 i (by omega)
theorem firstF_no {l : List Bool} (h : firstF l = none) : ∀ i, i < l.length → l[i]? = some true := by
  induction l with
  | nil => intro i hi; simp at hi
  | cons b l ih =>
    cases b with
    | false => simp [firstF] at h
    | true =>
      simp [firstF] at h
      intro i hi
      cases i with
      | zero => simp
      | succ i => simpa using ih h i (by simpa using hi)
theorem idxF_some {l : List Bool} {k : Nat} (h : firstF l = some k) : idxF l = (k : Int) := by unfold idxF; rw [h]
theorem idxF_none {l : List Bool} (h : firstF l = none) : idxF l = -1 := by unfold idxF; rw [h]
theorem contains_idx (l : List Bool) : l.contains false = decide (0 ≤ idxF l) := by
  cases h : firstF l with
  | none =>
    rw [idxF_none h]
    have := firstF_no h
    rw [show l.contains false = false from by
      rw [Bool.eq_false_iff]; intro hc
      obtain ⟨i, hi⟩ := List.mem_iff_getElem?.1 (List.contains_iff_mem.1 hc)
      have := this i (List.getElem?_eq_some_iff.1 hi).1
      rw [hi] at this; cases this]
    rfl
  | some k =>
    rw [idxF_some h]
    have := (firstF_lt h).2.1
    rw [show l.contains false = true from List.contains_iff_mem.2 (List.mem_of_getElem? this)]
    exact (decide_eq_true (by omega)).symm
theorem bcl_drop (l : List Bool) (k : Nat) : bcl (l.drop k) = (bcl l).drop k := by simp [bcl, List.map_drop]
theorem bcl_lt {l : List Bool} {p : Nat} {x : Value} (h : (bcl l)[p]? = some x) : ∃ b, l[p]? = some b ∧ x = .bool b := by
  unfold bcl at h
  rw [List.getElem?_map] at h
  obtain ⟨b, hb, rfl⟩ := Option.map_eq_some_iff.1 h
  exact ⟨b, hb, rfl⟩
set_option maxRecDepth 100000 in
set_option maxHeartbeats 2000000 in
theorem sidx_any (w : World) (v : Value) (l : List Bool) (hv : SlL w v (bcl l)) (hl : l.length ≤ 1000000) :
    Calls Tryz.prog 93 #[v, .bool false] w fun e w' => e = .returned (.int .i64 (idxF l)) ∧ Below w.heap.size w w' := by
  obtain ⟨A, c, rfl, -, hc⟩ := hv
  rw [bcl_len] at hc ⊢
  have HC := hide hc
  have HS := hide (fun j h1 h2 => idxF_some (firstF_some (l := l) (j := j) h1 h2))
  have HN := hide (fun h => idxF_none (firstF_none (l := l) h))
  obtain ⟨N, hN⟩ : ∃ N, l.length = N := ⟨_, rfl⟩
  rw [hN] at HC HN hl ⊢
  have HNN := hide hN
  clear hc hN
  go_enter Tryz.func93, Tryz.ntmps93
  go_wp2_with fail
  go_loopg [8] N (fun z iv wr => ∃ j : Nat, iv = .int .i64 (j : Int) ∧ z + j = N ∧ Below w.heap.size w wr ∧ ∀ i, i < j → l[i]? = some true)
  case atStart => exact ⟨0, rfl, rfl, Below.refl _ _, fun i hi => absurd hi (by omega)⟩
  case round =>
    obtain ⟨j, rfl, hq, hb, hr⟩ := hrel
    have HQ := hide hq
    have HB := hide hb
    have HR := hide hr
    have hj : j ≤ N := by omega
    clear hq hb hr
    by_cases hlt : j < N
    · have hji : (j : Int) < (N : Int) := by omega
      have hj0 : (0 : Int) ≤ (j : Int) := by omega
      obtain ⟨g, og, rfl, hcell⟩ := HC.out (by omega)
      obtain ⟨b, hx⟩ : ∃ b, l[j]? = some b := ⟨_, List.getElem?_eq_getElem (by rw [HNN.out]; exact hlt)⟩
      have a := hcell j _ (bcl_at hx)
      have a2 := (bcell HB.out _ _ (block_lt_of_cell a)).trans a
      have HX := hide hx
      clear a hcell hx HC
      cases b with
      | false =>
        go_wp2_with fail
        go_ret
        rw [HS.out j HR.out HX.out]
        exact ⟨rfl, HB.out⟩
      | true =>
        go_wp2_with fail
        go_roundg (gk - 1)
        case measure => have := HQ.out; omega
        case rel => exact ⟨j + 1, by go_num, by have := HQ.out; omega, HB.out, fun i hi => by
          rcases (by omega : i < j ∨ i = j) with h | h
          · exact HR.out i h
          · subst h; exact HX.out⟩
    · have hji : ¬ (j : Int) < (N : Int) := by omega
      have hjN : j = N := by omega
      subst hjN
      go_wp2_with fail
      go_ret
      rw [HN.out HR.out]
      exact ⟨rfl, HB.out⟩
set_option maxRecDepth 100000 in
set_option maxHeartbeats 1000000 in
theorem scon_any (w : World) (v : Value) (l : List Bool) (hv : SlL w v (bcl l)) (hl : l.length ≤ 1000000) :
    Calls Tryz.prog 94 #[v, .bool false] w fun e w' => e = .returned (.bool (l.contains false)) ∧ Below w.heap.size w w' := by
  have HI := hide (sidx_any w v l hv hl)
  have HC := hide (contains_idx l)
  obtain ⟨z, hz⟩ : ∃ z, idxF l = z := ⟨_, rfl⟩
  rw [hz] at HI HC
  obtain ⟨b, hb⟩ : ∃ b, l.contains false = b := ⟨_, rfl⟩
  rw [hb] at HC ⊢
  clear hz hb hv
  by_cases h0 : 0 ≤ z
  · have hb : b = true := by rw [HC.out]; exact decide_eq_true h0
    subst hb
    clear HC
    go_enter Tryz.func94, Tryz.ntmps94
    go_wp2_with fail
    refine HI.out.mono ?_
    rintro e w1 ⟨rfl, hb⟩
    have HB := hide hb
    clear hb
    go_wp2_with fail
    go_ret
    exact ⟨rfl, HB.out⟩
  · have hb : b = false := by rw [HC.out]; exact decide_eq_false h0
    have hd : decide (0 ≤ z) = false := decide_eq_false h0
    subst hb
    clear HC
    go_enter Tryz.func94, Tryz.ntmps94
    go_wp2_with fail
    refine HI.out.mono ?_
    rintro e w1 ⟨rfl, hb⟩
    have HB := hide hb
    clear hb
    go_wp2_with fail
    go_ret
    exact ⟨rfl, HB.out⟩
set_option maxRecDepth 100000 in
set_option maxHeartbeats 2000000 in
theorem swfits_any (w : World) (mode run rej : Int) (v : Value) (l : List Bool) (hv : SlL w v (bcl l)) (hl : l.length ≤ 4) :
    Calls Tryz.prog 52 #[.agg #[.int .i64 mode, .int .i64 run, v, .int .i64 rej]] w fun e w' => e = .returned (.bool (fitsI mode run l)) ∧ Below w.heap.size w w' := by
  have HV := hide hv
  obtain ⟨A, c, rfl, -⟩ := hv
  rw [bcl_len] at HV ⊢
  obtain ⟨N, hN⟩ : ∃ N, l.length = N := ⟨_, rfl⟩
  have HIX := hide (fun (W : World) (h : SlL W (.slice A N c) (bcl l)) => sidx_any W _ l h (by omega))
  have HCO := hide (fun (W : World) (v : Value) (m : List Bool) (h : SlL W v (bcl m)) (hm : m.length ≤ 4) => scon_any W v m h (by omega))
  rw [hN] at HV hl ⊢
  by_cases h0 : mode = 0
  · subst h0
    cases hf : firstF l with
    | none =>
      have HF := hide hf
      have hi := idxF_none hf
      rw [hi] at HIX
      clear hi
      by_cases h4 : N < 4
      · have h4i : (N : Int) < 4 := by omega
        by_cases hq : run = (N : Int)
        · have hr : fitsI 0 run l = true := by
            unfold fitsI
            rw [if_neg (by simp), HF.out]
            simp only [hN]
            rw [if_pos (by omega)]
            exact decide_eq_true (by omega)
          rw [hr]
          clear hr hf
          have hd : (run == (N : Int)) = true := by rw [hq]; exact beq_self_eq_true _
          have HN := hide hN
          clear hN
          have HQ := hide hq
          clear hq
          have HB := allocs_below w [.cells #[.int .i64 0, .int .i64 run, .slice A N c, .int .i64 rej] 29]
          have K_p : Blk (allocs w [.cells #[.int .i64 0, .int .i64 run, .slice A N c, .int .i64 rej] 29]) (w.heap.size + 0) 29 #[.int .i64 0, .int .i64 run, .slice A N c, .int .i64 rej] := allocs_at w [.cells #[.int .i64 0, .int .i64 run, .slice A N c, .int .i64 rej] 29] 0 rfl
          unfold allocs at HB K_p
          simp only [List.foldl_cons, List.foldl_nil] at HB K_p
          rw [Nat.add_zero] at K_p
          go_enter Tryz.func52, Tryz.ntmps52
          go_upto_region 1 with (fail)
          generalize (w.alloc (.cells #[.int .i64 0, .int .i64 run, .slice A N c, .int .i64 rej] 29)) = w0 at *
          replace K_p := hide K_p
          replace HB := hide HB
          have p0 := (Blk.cell K_p.out 0).trans (rfl : _ = some (Value.int .i64 0))
          have p1 := (Blk.cell K_p.out 1).trans (rfl : _ = some (Value.int .i64 run))
          have p2 := (Blk.cell K_p.out 2).trans (rfl : _ = some (Value.slice A N c))
          have p3 := (Blk.cell K_p.out 3).trans (rfl : _ = some (Value.int .i64 rej))
          go_wp2_with fail
          refine (HIX.out _ (HV.out.below HB.out)).mono ?_
          rintro e w1 ⟨rfl, hb⟩
          clear p0 p1 p2 p3
          replace K_p := hide (Blk.below K_p.out hb (Blk.lt K_p.out))
          replace HB := hide (HB.out.trans (hb.mono HB.out.size))
          clear hb
          have p0 := (Blk.cell K_p.out 0).trans (rfl : _ = some (Value.int .i64 0))
          have p1 := (Blk.cell K_p.out 1).trans (rfl : _ = some (Value.int .i64 run))
          have p2 := (Blk.cell K_p.out 2).trans (rfl : _ = some (Value.slice A N c))
          have p3 := (Blk.cell K_p.out 3).trans (rfl : _ = some (Value.int .i64 rej))
          go_wp2_with fail
          go_ret
          exact ⟨rfl, HB.out⟩
        · have hr : fitsI 0 run l = false := by
            unfold fitsI
            rw [if_neg (by simp), HF.out]
            simp only [hN]
            rw [if_pos (by omega)]
            exact decide_eq_false (by omega)
          rw [hr]
          clear hr hf
          have hd : (run == (N : Int)) = false := by simpa using hq
          have HN := hide hN
          clear hN
          have HQ := hide hq
          clear hq
          have HB := allocs_below w [.cells #[.int .i64 0, .int .i64 run, .slice A N c, .int .i64 rej] 29]
          have K_p : Blk (allocs w [.cells #[.int .i64 0, .int .i64 run, .slice A N c, .int .i64 rej] 29]) (w.heap.size + 0) 29 #[.int .i64 0, .int .i64 run, .slice A N c, .int .i64 rej] := allocs_at w [.cells #[.int .i64 0, .int .i64 run, .slice A N c, .int .i64 rej] 29] 0 rfl
          unfold allocs at HB K_p
          simp only [List.foldl_cons, List.foldl_nil] at HB K_p
          rw [Nat.add_zero] at K_p
          go_enter Tryz.func52, Tryz.ntmps52
          go_upto_region 1 with (fail)
          generalize (w.alloc (.cells #[.int .i64 0, .int .i64 run, .slice A N c, .int .i64 rej] 29)) = w0 at *
          replace K_p := hide K_p
          replace HB := hide HB
          have p0 := (Blk.cell K_p.out 0).trans (rfl : _ = some (Value.int .i64 0))
          have p1 := (Blk.cell K_p.out 1).trans (rfl : _ = some (Value.int .i64 run))
          have p2 := (Blk.cell K_p.out 2).trans (rfl : _ = some (Value.slice A N c))
          have p3 := (Blk.cell K_p.out 3).trans (rfl : _ = some (Value.int .i64 rej))
          go_wp2_with fail
          refine (HIX.out _ (HV.out.below HB.out)).mono ?_
          rintro e w1 ⟨rfl, hb⟩
          clear p0 p1 p2 p3
          replace K_p := hide (Blk.below K_p.out hb (Blk.lt K_p.out))
          replace HB := hide (HB.out.trans (hb.mono HB.out.size))
          clear hb
          have p0 := (Blk.cell K_p.out 0).trans (rfl : _ = some (Value.int .i64 0))
          have p1 := (Blk.cell K_p.out 1).trans (rfl : _ = some (Value.int .i64 run))
          have p2 := (Blk.cell K_p.out 2).trans (rfl : _ = some (Value.slice A N c))
          have p3 := (Blk.cell K_p.out 3).trans (rfl : _ = some (Value.int .i64 rej))
          go_wp2_with fail
          go_ret
          exact ⟨rfl, HB.out⟩
      · have h4i : ¬ (N : Int) < 4 := by omega
        by_cases hq : 4 ≤ run
        · have hr : fitsI 0 run l = true := by
            unfold fitsI
            rw [if_neg (by simp), HF.out]
            simp only [hN]
            rw [if_neg (by omega)]
            exact decide_eq_true (by omega)
          rw [hr]
          clear hr hf
          have HN := hide hN
          clear hN
          have HB := allocs_below w [.cells #[.int .i64 0, .int .i64 run, .slice A N c, .int .i64 rej] 29]
          have K_p : Blk (allocs w [.cells #[.int .i64 0, .int .i64 run, .slice A N c, .int .i64 rej] 29]) (w.heap.size + 0) 29 #[.int .i64 0, .int .i64 run, .slice A N c, .int .i64 rej] := allocs_at w [.cells #[.int .i64 0, .int .i64 run, .slice A N c, .int .i64 rej] 29] 0 rfl
          unfold allocs at HB K_p
          simp only [List.foldl_cons, List.foldl_nil] at HB K_p
          rw [Nat.add_zero] at K_p
          go_enter Tryz.func52, Tryz.ntmps52
          go_upto_region 1 with (fail)
          generalize (w.alloc (.cells #[.int .i64 0, .int .i64 run, .slice A N c, .int .i64 rej] 29)) = w0 at *
          replace K_p := hide K_p
          replace HB := hide HB
          have p0 := (Blk.cell K_p.out 0).trans (rfl : _ = some (Value.int .i64 0))
          have p1 := (Blk.cell K_p.out 1).trans (rfl : _ = some (Value.int .i64 run))
          have p2 := (Blk.cell K_p.out 2).trans (rfl : _ = some (Value.slice A N c))
          have p3 := (Blk.cell K_p.out 3).trans (rfl : _ = some (Value.int .i64 rej))
          go_wp2_with fail
          refine (HIX.out _ (HV.out.below HB.out)).mono ?_
          rintro e w1 ⟨rfl, hb⟩
          clear p0 p1 p2 p3
          replace K_p := hide (Blk.below K_p.out hb (Blk.lt K_p.out))
          replace HB := hide (HB.out.trans (hb.mono HB.out.size))
          clear hb
          have p0 := (Blk.cell K_p.out 0).trans (rfl : _ = some (Value.int .i64 0))
          have p1 := (Blk.cell K_p.out 1).trans (rfl : _ = some (Value.int .i64 run))
          have p2 := (Blk.cell K_p.out 2).trans (rfl : _ = some (Value.slice A N c))
          have p3 := (Blk.cell K_p.out 3).trans (rfl : _ = some (Value.int .i64 rej))
          go_wp2_with fail
          go_ret
          exact ⟨rfl, HB.out⟩
        · have hr : fitsI 0 run l = false := by
            unfold fitsI
            rw [if_neg (by simp), HF.out]
            simp only [hN]
            rw [if_neg (by omega)]
            exact decide_eq_false (by omega)
          rw [hr]
          clear hr hf
          have hd : decide (4 ≤ run) = false := decide_eq_false hq
          have HN := hide hN
          clear hN
          have HB := allocs_below w [.cells #[.int .i64 0, .int .i64 run, .slice A N c, .int .i64 rej] 29]
          have K_p : Blk (allocs w [.cells #[.int .i64 0, .int .i64 run, .slice A N c, .int .i64 rej] 29]) (w.heap.size + 0) 29 #[.int .i64 0, .int .i64 run, .slice A N c, .int .i64 rej] := allocs_at w [.cells #[.int .i64 0, .int .i64 run, .slice A N c, .int .i64 rej] 29] 0 rfl
          unfold allocs at HB K_p
          simp only [List.foldl_cons, List.foldl_nil] at HB K_p
          rw [Nat.add_zero] at K_p
          go_enter Tryz.func52, Tryz.ntmps52
          go_upto_region 1 with (fail)
          generalize (w.alloc (.cells #[.int .i64 0, .int .i64 run, .slice A N c, .int .i64 rej] 29)) = w0 at *
          replace K_p := hide K_p
          replace HB := hide HB
          have p0 := (Blk.cell K_p.out 0).trans (rfl : _ = some (Value.int .i64 0))
          have p1 := (Blk.cell K_p.out 1).trans (rfl : _ = some (Value.int .i64 run))
          have p2 := (Blk.cell K_p.out 2).trans (rfl : _ = some (Value.slice A N c))
          have p3 := (Blk.cell K_p.out 3).trans (rfl : _ = some (Value.int .i64 rej))
          go_wp2_with fail
          refine (HIX.out _ (HV.out.below HB.out)).mono ?_
          rintro e w1 ⟨rfl, hb⟩
          clear p0 p1 p2 p3
          replace K_p := hide (Blk.below K_p.out hb (Blk.lt K_p.out))
          replace HB := hide (HB.out.trans (hb.mono HB.out.size))
          clear hb
          have p0 := (Blk.cell K_p.out 0).trans (rfl : _ = some (Value.int .i64 0))
          have p1 := (Blk.cell K_p.out 1).trans (rfl : _ = some (Value.int .i64 run))
          have p2 := (Blk.cell K_p.out 2).trans (rfl : _ = some (Value.slice A N c))
          have p3 := (Blk.cell K_p.out 3).trans (rfl : _ = some (Value.int .i64 rej))
          go_wp2_with fail
          go_ret
          exact ⟨rfl, HB.out⟩
    | some k =>
      have HF := hide hf
      have hi := idxF_some hf
      rw [hi] at HIX
      obtain ⟨hkN, -, -⟩ := firstF_lt hf
      rw [hN] at hkN
      clear hi
      obtain ⟨D, hD⟩ : ∃ D, (l.drop (k + 1)).contains false = D := ⟨_, rfl⟩
      obtain ⟨k1, hk1⟩ : ∃ d, k + 1 = d := ⟨_, rfl⟩
      cases D with
      | true =>
        by_cases hck : c = k1
        · replace hck := hck.symm
          subst hck
          have hr : fitsI 0 run l = false := by
            unfold fitsI
            rw [if_neg (by simp), HF.out]
            simp only [hN, hD]
            rfl
          rw [hr]
          have hw1 : IntKind.i64.wrap ((k : Int) + 1) = (k1 : Int) := (IntWalk.i64_in _ (by omega)).trans (by omega)
          have HC2 := hide (fun (W : World) (v : Value) (h : SlL W v (bcl (l.drop (k + 1)))) => HCO.out W v (l.drop (k + 1)) h (by rw [List.length_drop, hN]; omega))
          rw [hD, hk1] at HC2
          have hs1 : (k1 : Int) ≤ (N : Int) := by omega
          have hs2 : k1 ≤ N := by omega
          have hs0 : (0 : Int) ≤ (k1 : Int) := by omega
          have HK1 := hide hk1
          have hk0 : (0 : Int) ≤ (k : Int) := by omega
          have HN := hide hN
          have HD := hide hD
          clear hN hD hr hf hk1
          have HB := allocs_below w [.cells #[.int .i64 0, .int .i64 run, .slice A N k1, .int .i64 rej] 29]
          have K_p : Blk (allocs w [.cells #[.int .i64 0, .int .i64 run, .slice A N k1, .int .i64 rej] 29]) (w.heap.size + 0) 29 #[.int .i64 0, .int .i64 run, .slice A N k1, .int .i64 rej] := allocs_at w [.cells #[.int .i64 0, .int .i64 run, .slice A N k1, .int .i64 rej] 29] 0 rfl
          unfold allocs at HB K_p
          simp only [List.foldl_cons, List.foldl_nil] at HB K_p
          rw [Nat.add_zero] at K_p
          go_enter Tryz.func52, Tryz.ntmps52
          go_upto_region 1 with (fail)
          generalize (w.alloc (.cells #[.int .i64 0, .int .i64 run, .slice A N k1, .int .i64 rej] 29)) = w0 at *
          replace K_p := hide K_p
          replace HB := hide HB
          have p0 := (Blk.cell K_p.out 0).trans (rfl : _ = some (Value.int .i64 0))
          have p1 := (Blk.cell K_p.out 1).trans (rfl : _ = some (Value.int .i64 run))
          have p2 := (Blk.cell K_p.out 2).trans (rfl : _ = some (Value.slice A N k1))
          have p3 := (Blk.cell K_p.out 3).trans (rfl : _ = some (Value.int .i64 rej))
          go_wp2_with fail
          refine (HIX.out _ (HV.out.below HB.out)).mono ?_
          rintro e w1 ⟨rfl, hb⟩
          clear p0 p1 p2 p3
          replace K_p := hide (Blk.below K_p.out hb (Blk.lt K_p.out))
          replace HB := hide (HB.out.trans (hb.mono HB.out.size))
          clear hb
          have p0 := (Blk.cell K_p.out 0).trans (rfl : _ = some (Value.int .i64 0))
          have p1 := (Blk.cell K_p.out 1).trans (rfl : _ = some (Value.int .i64 run))
          have p2 := (Blk.cell K_p.out 2).trans (rfl : _ = some (Value.slice A N k1))
          have p3 := (Blk.cell K_p.out 3).trans (rfl : _ = some (Value.int .i64 rej))
          go_wp2_with fail
          refine (HC2.out _ _ ?slk).mono ?_
          case slk => rw [bcl_drop]; have h := (HV.out.below HB.out).drop_cap hs2; rw [Nat.sub_self] at h; exact h
          rintro e w2 ⟨rfl, hb⟩
          clear p0 p1 p2 p3
          replace K_p := hide (Blk.below K_p.out hb (Blk.lt K_p.out))
          replace HB := hide (HB.out.trans (hb.mono HB.out.size))
          clear hb
          have p0 := (Blk.cell K_p.out 0).trans (rfl : _ = some (Value.int .i64 0))
          have p1 := (Blk.cell K_p.out 1).trans (rfl : _ = some (Value.int .i64 run))
          have p2 := (Blk.cell K_p.out 2).trans (rfl : _ = some (Value.slice A N k1))
          have p3 := (Blk.cell K_p.out 3).trans (rfl : _ = some (Value.int .i64 rej))
          go_wp2_with fail
          go_ret
          exact ⟨rfl, HB.out⟩
        · have hr : fitsI 0 run l = false := by
            unfold fitsI
            rw [if_neg (by simp), HF.out]
            simp only [hN, hD]
            rfl
          rw [hr]
          have hw1 : IntKind.i64.wrap ((k : Int) + 1) = (k1 : Int) := (IntWalk.i64_in _ (by omega)).trans (by omega)
          have HC2 := hide (fun (W : World) (v : Value) (h : SlL W v (bcl (l.drop (k + 1)))) => HCO.out W v (l.drop (k + 1)) h (by rw [List.length_drop, hN]; omega))
          rw [hD, hk1] at HC2
          have hs1 : (k1 : Int) ≤ (N : Int) := by omega
          have hs2 : k1 ≤ N := by omega
          have hs0 : (0 : Int) ≤ (k1 : Int) := by omega
          have HK1 := hide hk1
          have hk0 : (0 : Int) ≤ (k : Int) := by omega
          have HN := hide hN
          have HD := hide hD
          clear hN hD hr hf hk1
          have HB := allocs_below w [.cells #[.int .i64 0, .int .i64 run, .slice A N c, .int .i64 rej] 29]
          have K_p : Blk (allocs w [.cells #[.int .i64 0, .int .i64 run, .slice A N c, .int .i64 rej] 29]) (w.heap.size + 0) 29 #[.int .i64 0, .int .i64 run, .slice A N c, .int .i64 rej] := allocs_at w [.cells #[.int .i64 0, .int .i64 run, .slice A N c, .int .i64 rej] 29] 0 rfl
          unfold allocs at HB K_p
          simp only [List.foldl_cons, List.foldl_nil] at HB K_p
          rw [Nat.add_zero] at K_p
          go_enter Tryz.func52, Tryz.ntmps52
          go_upto_region 1 with (fail)
          generalize (w.alloc (.cells #[.int .i64 0, .int .i64 run, .slice A N c, .int .i64 rej] 29)) = w0 at *
          replace K_p := hide K_p
          replace HB := hide HB
          have p0 := (Blk.cell K_p.out 0).trans (rfl : _ = some (Value.int .i64 0))
          have p1 := (Blk.cell K_p.out 1).trans (rfl : _ = some (Value.int .i64 run))
          have p2 := (Blk.cell K_p.out 2).trans (rfl : _ = some (Value.slice A N c))
          have p3 := (Blk.cell K_p.out 3).trans (rfl : _ = some (Value.int .i64 rej))
          go_wp2_with fail
          refine (HIX.out _ (HV.out.below HB.out)).mono ?_
          rintro e w1 ⟨rfl, hb⟩
          clear p0 p1 p2 p3
          replace K_p := hide (Blk.below K_p.out hb (Blk.lt K_p.out))
          replace HB := hide (HB.out.trans (hb.mono HB.out.size))
          clear hb
          have p0 := (Blk.cell K_p.out 0).trans (rfl : _ = some (Value.int .i64 0))
          have p1 := (Blk.cell K_p.out 1).trans (rfl : _ = some (Value.int .i64 run))
          have p2 := (Blk.cell K_p.out 2).trans (rfl : _ = some (Value.slice A N c))
          have p3 := (Blk.cell K_p.out 3).trans (rfl : _ = some (Value.int .i64 rej))
          go_wp2_with fail
          refine (HC2.out _ _ ?slk).mono ?_
          case slk => rw [bcl_drop]; have h := (HV.out.below HB.out).drop hs2; exact h
          rintro e w2 ⟨rfl, hb⟩
          clear p0 p1 p2 p3
          replace K_p := hide (Blk.below K_p.out hb (Blk.lt K_p.out))
          replace HB := hide (HB.out.trans (hb.mono HB.out.size))
          clear hb
          have p0 := (Blk.cell K_p.out 0).trans (rfl : _ = some (Value.int .i64 0))
          have p1 := (Blk.cell K_p.out 1).trans (rfl : _ = some (Value.int .i64 run))
          have p2 := (Blk.cell K_p.out 2).trans (rfl : _ = some (Value.slice A N c))
          have p3 := (Blk.cell K_p.out 3).trans (rfl : _ = some (Value.int .i64 rej))
          go_wp2_with fail
          go_ret
          exact ⟨rfl, HB.out⟩
      | false =>
        by_cases hq : run = (N : Int) - 1 - (k : Int)
        · by_cases hck : c = k1
          · replace hck := hck.symm
            subst hck
            have hr : fitsI 0 run l = true := by
              unfold fitsI
              rw [if_neg (by simp), HF.out]
              simp only [hN, hD]
              rw [decide_eq_true (by omega)]; rfl
            rw [hr]
            have hw1 : IntKind.i64.wrap ((k : Int) + 1) = (k1 : Int) := (IntWalk.i64_in _ (by omega)).trans (by omega)
            have HC2 := hide (fun (W : World) (v : Value) (h : SlL W v (bcl (l.drop (k + 1)))) => HCO.out W v (l.drop (k + 1)) h (by rw [List.length_drop, hN]; omega))
            rw [hD, hk1] at HC2
            have hw2 : IntKind.i64.wrap (IntKind.i64.wrap ((N : Int) - 1) - (k : Int)) = (N : Int) - 1 - (k : Int) := by rw [IntWalk.i64_in ((N : Int) - 1) (by omega)]; exact IntWalk.i64_in _ (by omega)
            have hw3 : IntKind.i64.wrap ((N : Int) - 1) = (N : Int) - 1 := IntWalk.i64_in _ (by omega)
            have hw4 : IntKind.i64.wrap ((N : Int) - 1 - (k : Int)) = (N : Int) - 1 - (k : Int) := IntWalk.i64_in _ (by omega)
            have hd : (run == (N : Int) - 1 - (k : Int)) = true := by rw [hq]; exact beq_self_eq_true _
            have HQ := hide hq
            clear hq
            have hs1 : (k1 : Int) ≤ (N : Int) := by omega
            have hs2 : k1 ≤ N := by omega
            have hs0 : (0 : Int) ≤ (k1 : Int) := by omega
            have HK1 := hide hk1
            have hk0 : (0 : Int) ≤ (k : Int) := by omega
            have HN := hide hN
            have HD := hide hD
            clear hN hD hr hf hk1
            have HB := allocs_below w [.cells #[.int .i64 0, .int .i64 run, .slice A N k1, .int .i64 rej] 29]
            have K_p : Blk (allocs w [.cells #[.int .i64 0, .int .i64 run, .slice A N k1, .int .i64 rej] 29]) (w.heap.size + 0) 29 #[.int .i64 0, .int .i64 run, .slice A N k1, .int .i64 rej] := allocs_at w [.cells #[.int .i64 0, .int .i64 run, .slice A N k1, .int .i64 rej] 29] 0 rfl
            unfold allocs at HB K_p
            simp only [List.foldl_cons, List.foldl_nil] at HB K_p
            rw [Nat.add_zero] at K_p
            go_enter Tryz.func52, Tryz.ntmps52
            go_upto_region 1 with (fail)
            generalize (w.alloc (.cells #[.int .i64 0, .int .i64 run, .slice A N k1, .int .i64 rej] 29)) = w0 at *
            replace K_p := hide K_p
            replace HB := hide HB
            have p0 := (Blk.cell K_p.out 0).trans (rfl : _ = some (Value.int .i64 0))
            have p1 := (Blk.cell K_p.out 1).trans (rfl : _ = some (Value.int .i64 run))
            have p2 := (Blk.cell K_p.out 2).trans (rfl : _ = some (Value.slice A N k1))
            have p3 := (Blk.cell K_p.out 3).trans (rfl : _ = some (Value.int .i64 rej))
            go_wp2_with fail
            refine (HIX.out _ (HV.out.below HB.out)).mono ?_
            rintro e w1 ⟨rfl, hb⟩
            clear p0 p1 p2 p3
            replace K_p := hide (Blk.below K_p.out hb (Blk.lt K_p.out))
            replace HB := hide (HB.out.trans (hb.mono HB.out.size))
            clear hb
            have p0 := (Blk.cell K_p.out 0).trans (rfl : _ = some (Value.int .i64 0))
            have p1 := (Blk.cell K_p.out 1).trans (rfl : _ = some (Value.int .i64 run))
            have p2 := (Blk.cell K_p.out 2).trans (rfl : _ = some (Value.slice A N k1))
            have p3 := (Blk.cell K_p.out 3).trans (rfl : _ = some (Value.int .i64 rej))
            go_wp2_with fail
            refine (HC2.out _ _ ?slk).mono ?_
            case slk => rw [bcl_drop]; have h := (HV.out.below HB.out).drop_cap hs2; rw [Nat.sub_self] at h; exact h
            rintro e w2 ⟨rfl, hb⟩
            clear p0 p1 p2 p3
            replace K_p := hide (Blk.below K_p.out hb (Blk.lt K_p.out))
            replace HB := hide (HB.out.trans (hb.mono HB.out.size))
            clear hb
            have p0 := (Blk.cell K_p.out 0).trans (rfl : _ = some (Value.int .i64 0))
            have p1 := (Blk.cell K_p.out 1).trans (rfl : _ = some (Value.int .i64 run))
            have p2 := (Blk.cell K_p.out 2).trans (rfl : _ = some (Value.slice A N k1))
            have p3 := (Blk.cell K_p.out 3).trans (rfl : _ = some (Value.int .i64 rej))
            go_wp2_with fail
            go_ret
            exact ⟨rfl, HB.out⟩
          · have hr : fitsI 0 run l = true := by
              unfold fitsI
              rw [if_neg (by simp), HF.out]
              simp only [hN, hD]
              rw [decide_eq_true (by omega)]; rfl
            rw [hr]
            have hw1 : IntKind.i64.wrap ((k : Int) + 1) = (k1 : Int) := (IntWalk.i64_in _ (by omega)).trans (by omega)
            have HC2 := hide (fun (W : World) (v : Value) (h : SlL W v (bcl (l.drop (k + 1)))) => HCO.out W v (l.drop (k + 1)) h (by rw [List.length_drop, hN]; omega))
            rw [hD, hk1] at HC2
            have hw2 : IntKind.i64.wrap (IntKind.i64.wrap ((N : Int) - 1) - (k : Int)) = (N : Int) - 1 - (k : Int) := by rw [IntWalk.i64_in ((N : Int) - 1) (by omega)]; exact IntWalk.i64_in _ (by omega)
            have hw3 : IntKind.i64.wrap ((N : Int) - 1) = (N : Int) - 1 := IntWalk.i64_in _ (by omega)
            have hw4 : IntKind.i64.wrap ((N : Int) - 1 - (k : Int)) = (N : Int) - 1 - (k : Int) := IntWalk.i64_in _ (by omega)
            have hd : (run == (N : Int) - 1 - (k : Int)) = true := by rw [hq]; exact beq_self_eq_true _
            have HQ := hide hq
            clear hq
            have hs1 : (k1 : Int) ≤ (N : Int) := by omega
            have hs2 : k1 ≤ N := by omega
            have hs0 : (0 : Int) ≤ (k1 : Int) := by omega
            have HK1 := hide hk1
            have hk0 : (0 : Int) ≤ (k : Int) := by omega
            have HN := hide hN
            have HD := hide hD
            clear hN hD hr hf hk1
            have HB := allocs_below w [.cells #[.int .i64 0, .int .i64 run, .slice A N c, .int .i64 rej] 29]
            have K_p : Blk (allocs w [.cells #[.int .i64 0, .int .i64 run, .slice A N c, .int .i64 rej] 29]) (w.heap.size + 0) 29 #[.int .i64 0, .int .i64 run, .slice A N c, .int .i64 rej] := allocs_at w [.cells #[.int .i64 0, .int .i64 run, .slice A N c, .int .i64 rej] 29] 0 rfl
            unfold allocs at HB K_p
            simp only [List.foldl_cons, List.foldl_nil] at HB K_p
            rw [Nat.add_zero] at K_p
            go_enter Tryz.func52, Tryz.ntmps52
            go_upto_region 1 with (fail)
            generalize (w.alloc (.cells #[.int .i64 0, .int .i64 run, .slice A N c, .int .i64 rej] 29)) = w0 at *
            replace K_p := hide K_p
            replace HB := hide HB
            have p0 := (Blk.cell K_p.out 0).trans (rfl : _ = some (Value.int .i64 0))
            have p1 := (Blk.cell K_p.out 1).trans (rfl : _ = some (Value.int .i64 run))
            have p2 := (Blk.cell K_p.out 2).trans (rfl : _ = some (Value.slice A N c))
            have p3 := (Blk.cell K_p.out 3).trans (rfl : _ = some (Value.int .i64 rej))
            go_wp2_with fail
            refine (HIX.out _ (HV.out.below HB.out)).mono ?_
            rintro e w1 ⟨rfl, hb⟩
            clear p0 p1 p2 p3
            replace K_p := hide (Blk.below K_p.out hb (Blk.lt K_p.out))
            replace HB := hide (HB.out.trans (hb.mono HB.out.size))
            clear hb
            have p0 := (Blk.cell K_p.out 0).trans (rfl : _ = some (Value.int .i64 0))
            have p1 := (Blk.cell K_p.out 1).trans (rfl : _ = some (Value.int .i64 run))
            have p2 := (Blk.cell K_p.out 2).trans (rfl : _ = some (Value.slice A N c))
            have p3 := (Blk.cell K_p.out 3).trans (rfl : _ = some (Value.int .i64 rej))
            go_wp2_with fail
            refine (HC2.out _ _ ?slk).mono ?_
            case slk => rw [bcl_drop]; have h := (HV.out.below HB.out).drop hs2; exact h
            rintro e w2 ⟨rfl, hb⟩
            clear p0 p1 p2 p3
            replace K_p := hide (Blk.below K_p.out hb (Blk.lt K_p.out))
            replace HB := hide (HB.out.trans (hb.mono HB.out.size))
            clear hb
            have p0 := (Blk.cell K_p.out 0).trans (rfl : _ = some (Value.int .i64 0))
            have p1 := (Blk.cell K_p.out 1).trans (rfl : _ = some (Value.int .i64 run))
            have p2 := (Blk.cell K_p.out 2).trans (rfl : _ = some (Value.slice A N c))
            have p3 := (Blk.cell K_p.out 3).trans (rfl : _ = some (Value.int .i64 rej))
            go_wp2_with fail
            go_ret
            exact ⟨rfl, HB.out⟩
        · by_cases hck : c = k1
          · replace hck := hck.symm
            subst hck
            have hr : fitsI 0 run l = false := by
              unfold fitsI
              rw [if_neg (by simp), HF.out]
              simp only [hN, hD]
              rw [decide_eq_false (by omega)]; rfl
            rw [hr]
            have hw1 : IntKind.i64.wrap ((k : Int) + 1) = (k1 : Int) := (IntWalk.i64_in _ (by omega)).trans (by omega)
            have HC2 := hide (fun (W : World) (v : Value) (h : SlL W v (bcl (l.drop (k + 1)))) => HCO.out W v (l.drop (k + 1)) h (by rw [List.length_drop, hN]; omega))
            rw [hD, hk1] at HC2
            have hw2 : IntKind.i64.wrap (IntKind.i64.wrap ((N : Int) - 1) - (k : Int)) = (N : Int) - 1 - (k : Int) := by rw [IntWalk.i64_in ((N : Int) - 1) (by omega)]; exact IntWalk.i64_in _ (by omega)
            have hw3 : IntKind.i64.wrap ((N : Int) - 1) = (N : Int) - 1 := IntWalk.i64_in _ (by omega)
            have hw4 : IntKind.i64.wrap ((N : Int) - 1 - (k : Int)) = (N : Int) - 1 - (k : Int) := IntWalk.i64_in _ (by omega)
            have hd : (run == (N : Int) - 1 - (k : Int)) = false := by simpa using hq
            have HQ := hide hq
            clear hq
            have hs1 : (k1 : Int) ≤ (N : Int) := by omega
            have hs2 : k1 ≤ N := by omega
            have hs0 : (0 : Int) ≤ (k1 : Int) := by omega
            have HK1 := hide hk1
            have hk0 : (0 : Int) ≤ (k : Int) := by omega
            have HN := hide hN
            have HD := hide hD
            clear hN hD hr hf hk1
            have HB := allocs_below w [.cells #[.int .i64 0, .int .i64 run, .slice A N k1, .int .i64 rej] 29]
            have K_p : Blk (allocs w [.cells #[.int .i64 0, .int .i64 run, .slice A N k1, .int .i64 rej] 29]) (w.heap.size + 0) 29 #[.int .i64 0, .int .i64 run, .slice A N k1, .int .i64 rej] := allocs_at w [.cells #[.int .i64 0, .int .i64 run, .slice A N k1, .int .i64 rej] 29] 0 rfl
            unfold allocs at HB K_p
            simp only [List.foldl_cons, List.foldl_nil] at HB K_p
            rw [Nat.add_zero] at K_p
            go_enter Tryz.func52, Tryz.ntmps52
            go_upto_region 1 with (fail)
            generalize (w.alloc (.cells #[.int .i64 0, .int .i64 run, .slice A N k1, .int .i64 rej] 29)) = w0 at *
            replace K_p := hide K_p
            replace HB := hide HB
            have p0 := (Blk.cell K_p.out 0).trans (rfl : _ = some (Value.int .i64 0))
            have p1 := (Blk.cell K_p.out 1).trans (rfl : _ = some (Value.int .i64 run))
            have p2 := (Blk.cell K_p.out 2).trans (rfl : _ = some (Value.slice A N k1))
            have p3 := (Blk.cell K_p.out 3).trans (rfl : _ = some (Value.int .i64 rej))
            go_wp2_with fail
            refine (HIX.out _ (HV.out.below HB.out)).mono ?_
            rintro e w1 ⟨rfl, hb⟩
            clear p0 p1 p2 p3
            replace K_p := hide (Blk.below K_p.out hb (Blk.lt K_p.out))
            replace HB := hide (HB.out.trans (hb.mono HB.out.size))
            clear hb
            have p0 := (Blk.cell K_p.out 0).trans (rfl : _ = some (Value.int .i64 0))
            have p1 := (Blk.cell K_p.out 1).trans (rfl : _ = some (Value.int .i64 run))
            have p2 := (Blk.cell K_p.out 2).trans (rfl : _ = some (Value.slice A N k1))
            have p3 := (Blk.cell K_p.out 3).trans (rfl : _ = some (Value.int .i64 rej))
            go_wp2_with fail
            refine (HC2.out _ _ ?slk).mono ?_
            case slk => rw [bcl_drop]; have h := (HV.out.below HB.out).drop_cap hs2; rw [Nat.sub_self] at h; exact h
            rintro e w2 ⟨rfl, hb⟩
            clear p0 p1 p2 p3
            replace K_p := hide (Blk.below K_p.out hb (Blk.lt K_p.out))
            replace HB := hide (HB.out.trans (hb.mono HB.out.size))
            clear hb
            have p0 := (Blk.cell K_p.out 0).trans (rfl : _ = some (Value.int .i64 0))
            have p1 := (Blk.cell K_p.out 1).trans (rfl : _ = some (Value.int .i64 run))
            have p2 := (Blk.cell K_p.out 2).trans (rfl : _ = some (Value.slice A N k1))
            have p3 := (Blk.cell K_p.out 3).trans (rfl : _ = some (Value.int .i64 rej))
            go_wp2_with fail
            go_ret
            exact ⟨rfl, HB.out⟩
          · have hr : fitsI 0 run l = false := by
              unfold fitsI
              rw [if_neg (by simp), HF.out]
              simp only [hN, hD]
              rw [decide_eq_false (by omega)]; rfl
            rw [hr]
            have hw1 : IntKind.i64.wrap ((k : Int) + 1) = (k1 : Int) := (IntWalk.i64_in _ (by omega)).trans (by omega)
            have HC2 := hide (fun (W : World) (v : Value) (h : SlL W v (bcl (l.drop (k + 1)))) => HCO.out W v (l.drop (k + 1)) h (by rw [List.length_drop, hN]; omega))
            rw [hD, hk1] at HC2
            have hw2 : IntKind.i64.wrap (IntKind.i64.wrap ((N : Int) - 1) - (k : Int)) = (N : Int) - 1 - (k : Int) := by rw [IntWalk.i64_in ((N : Int) - 1) (by omega)]; exact IntWalk.i64_in _ (by omega)
            have hw3 : IntKind.i64.wrap ((N : Int) - 1) = (N : Int) - 1 := IntWalk.i64_in _ (by omega)
            have hw4 : IntKind.i64.wrap ((N : Int) - 1 - (k : Int)) = (N : Int) - 1 - (k : Int) := IntWalk.i64_in _ (by omega)
            have hd : (run == (N : Int) - 1 - (k : Int)) = false := by simpa using hq
            have HQ := hide hq
            clear hq
            have hs1 : (k1 : Int) ≤ (N : Int) := by omega
            have hs2 : k1 ≤ N := by omega
            have hs0 : (0 : Int) ≤ (k1 : Int) := by omega
            have HK1 := hide hk1
            have hk0 : (0 : Int) ≤ (k : Int) := by omega
            have HN := hide hN
            have HD := hide hD
            clear hN hD hr hf hk1
            have HB := allocs_below w [.cells #[.int .i64 0, .int .i64 run, .slice A N c, .int .i64 rej] 29]
            have K_p : Blk (allocs w [.cells #[.int .i64 0, .int .i64 run, .slice A N c, .int .i64 rej] 29]) (w.heap.size + 0) 29 #[.int .i64 0, .int .i64 run, .slice A N c, .int .i64 rej] := allocs_at w [.cells #[.int .i64 0, .int .i64 run, .slice A N c, .int .i64 rej] 29] 0 rfl
            unfold allocs at HB K_p
            simp only [List.foldl_cons, List.foldl_nil] at HB K_p
            rw [Nat.add_zero] at K_p
            go_enter Tryz.func52, Tryz.ntmps52
            go_upto_region 1 with (fail)
            generalize (w.alloc (.cells #[.int .i64 0, .int .i64 run, .slice A N c, .int .i64 rej] 29)) = w0 at *
            replace K_p := hide K_p
            replace HB := hide HB
            have p0 := (Blk.cell K_p.out 0).trans (rfl : _ = some (Value.int .i64 0))
            have p1 := (Blk.cell K_p.out 1).trans (rfl : _ = some (Value.int .i64 run))
            have p2 := (Blk.cell K_p.out 2).trans (rfl : _ = some (Value.slice A N c))
            have p3 := (Blk.cell K_p.out 3).trans (rfl : _ = some (Value.int .i64 rej))
            go_wp2_with fail
            refine (HIX.out _ (HV.out.below HB.out)).mono ?_
            rintro e w1 ⟨rfl, hb⟩
            clear p0 p1 p2 p3
            replace K_p := hide (Blk.below K_p.out hb (Blk.lt K_p.out))
            replace HB := hide (HB.out.trans (hb.mono HB.out.size))
            clear hb
            have p0 := (Blk.cell K_p.out 0).trans (rfl : _ = some (Value.int .i64 0))
            have p1 := (Blk.cell K_p.out 1).trans (rfl : _ = some (Value.int .i64 run))
            have p2 := (Blk.cell K_p.out 2).trans (rfl : _ = some (Value.slice A N c))
            have p3 := (Blk.cell K_p.out 3).trans (rfl : _ = some (Value.int .i64 rej))
            go_wp2_with fail
            refine (HC2.out _ _ ?slk).mono ?_
            case slk => rw [bcl_drop]; have h := (HV.out.below HB.out).drop hs2; exact h
            rintro e w2 ⟨rfl, hb⟩
            clear p0 p1 p2 p3
            replace K_p := hide (Blk.below K_p.out hb (Blk.lt K_p.out))
            replace HB := hide (HB.out.trans (hb.mono HB.out.size))
            clear hb
            have p0 := (Blk.cell K_p.out 0).trans (rfl : _ = some (Value.int .i64 0))
            have p1 := (Blk.cell K_p.out 1).trans (rfl : _ = some (Value.int .i64 run))
            have p2 := (Blk.cell K_p.out 2).trans (rfl : _ = some (Value.slice A N c))
            have p3 := (Blk.cell K_p.out 3).trans (rfl : _ = some (Value.int .i64 rej))
            go_wp2_with fail
            go_ret
            exact ⟨rfl, HB.out⟩
  · by_cases hz : N = 0
    · have hr : fitsI mode run l = true := by
        unfold fitsI
        rw [if_pos h0, hN]
        exact decide_eq_true hz
      rw [hr]
      subst hz
      clear hr
      have HN := hide hN
      clear hN
      have HB := allocs_below w [.cells #[.int .i64 mode, .int .i64 run, .slice A 0 c, .int .i64 rej] 29]
      have K_p : Blk (allocs w [.cells #[.int .i64 mode, .int .i64 run, .slice A 0 c, .int .i64 rej] 29]) (w.heap.size + 0) 29 #[.int .i64 mode, .int .i64 run, .slice A 0 c, .int .i64 rej] := allocs_at w [.cells #[.int .i64 mode, .int .i64 run, .slice A 0 c, .int .i64 rej] 29] 0 rfl
      unfold allocs at HB K_p
      simp only [List.foldl_cons, List.foldl_nil] at HB K_p
      rw [Nat.add_zero] at K_p
      go_enter Tryz.func52, Tryz.ntmps52
      go_upto_region 1 with (fail)
      generalize (w.alloc (.cells #[.int .i64 mode, .int .i64 run, .slice A 0 c, .int .i64 rej] 29)) = w0 at *
      replace K_p := hide K_p
      replace HB := hide HB
      have p0 := (Blk.cell K_p.out 0).trans (rfl : _ = some (Value.int .i64 mode))
      have p1 := (Blk.cell K_p.out 1).trans (rfl : _ = some (Value.int .i64 run))
      have p2 := (Blk.cell K_p.out 2).trans (rfl : _ = some (Value.slice A 0 c))
      have p3 := (Blk.cell K_p.out 3).trans (rfl : _ = some (Value.int .i64 rej))
      go_wp2_with fail
      go_ret
      exact ⟨rfl, HB.out⟩
    · have hr : fitsI mode run l = false := by
        unfold fitsI
        rw [if_pos h0, hN]
        exact decide_eq_false hz
      rw [hr]
      have hd : ((N : Int) == 0) = false := by simp; omega
      clear hr
      have HN := hide hN
      clear hN
      have HB := allocs_below w [.cells #[.int .i64 mode, .int .i64 run, .slice A N c, .int .i64 rej] 29]
      have K_p : Blk (allocs w [.cells #[.int .i64 mode, .int .i64 run, .slice A N c, .int .i64 rej] 29]) (w.heap.size + 0) 29 #[.int .i64 mode, .int .i64 run, .slice A N c, .int .i64 rej] := allocs_at w [.cells #[.int .i64 mode, .int .i64 run, .slice A N c, .int .i64 rej] 29] 0 rfl
      unfold allocs at HB K_p
      simp only [List.foldl_cons, List.foldl_nil] at HB K_p
      rw [Nat.add_zero] at K_p
      go_enter Tryz.func52, Tryz.ntmps52
      go_upto_region 1 with (fail)
      generalize (w.alloc (.cells #[.int .i64 mode, .int .i64 run, .slice A N c, .int .i64 rej] 29)) = w0 at *
      replace K_p := hide K_p
      replace HB := hide HB
      have p0 := (Blk.cell K_p.out 0).trans (rfl : _ = some (Value.int .i64 mode))
      have p1 := (Blk.cell K_p.out 1).trans (rfl : _ = some (Value.int .i64 run))
      have p2 := (Blk.cell K_p.out 2).trans (rfl : _ = some (Value.slice A N c))
      have p3 := (Blk.cell K_p.out 3).trans (rfl : _ = some (Value.int .i64 rej))
      go_wp2_with fail
      go_ret
      exact ⟨rfl, HB.out⟩
end Go.Proofs.YthmmgjieppknkaaGreatDoor

namespace Go.Proofs.YthmmgjieppknkaaGreatDoor
open Go.RowKit MLab
theorem idx_ten (m : Nat) (hm : m < 4) (W : World) : (Instr.index 100 (.agg #[.int .i64 10, .int .i64 5, .int .i64 1, .int .i64 1]) (.int .i64 (m : Int))).run Tryz.prog W = .ok (.int .i64 (longI (m : Int))) W := by
  have hu : Tryz.prog.underlying 100 = some (.array 4 3) := by kernel_rfl
  refine idx_int hu hm ?_ W
  match m, hm with
  | 0, _ => rfl
  | 1, _ => rfl
  | 2, _ => rfl
  | 3, _ => rfl
def fourI (mode : Int) : Int := if mode = 1 then 4 else 0
theorem idx_four (m : Nat) (hm : m < 4) (W : World) : (Instr.index 100 (.agg #[.int .i64 0, .int .i64 4, .int .i64 0, .int .i64 0]) (.int .i64 (m : Int))).run Tryz.prog W = .ok (.int .i64 (fourI (m : Int))) W := by
  have hu : Tryz.prog.underlying 100 = some (.array 4 3) := by kernel_rfl
  refine idx_int hu hm ?_ W
  match m, hm with
  | 0, _ => rfl
  | 1, _ => rfl
  | 2, _ => rfl
  | 3, _ => rfl
theorem rightI_eq (mode run : Int) (l : List Bool) (rej : Int) : rightI mode run l rej =
    if mode < 0 ∨ 3 < mode then 1 else if run < 0 ∨ longI mode ≤ run then 2 else if rej < 0 ∨ fourI mode < rej then 2 else if 4 < l.length then 5 else if fitsI mode run l = false then 14 else 0 := rfl
set_option maxRecDepth 100000 in
set_option maxHeartbeats 4000000 in
theorem swright_any (w : World) (mode run rej : Int) (v : Value) (l : List Bool) (hv : SlL w v (bcl l)) (hl : l.length ≤ 1000000) :
    Calls Tryz.prog 22 #[.agg #[.int .i64 mode, .int .i64 run, v, .int .i64 rej]] w fun e w' => e = .returned (.int .i64 (rightI mode run l rej)) ∧ Below w.heap.size w w' := by
  have HV := hide hv
  obtain ⟨A, c, rfl, -⟩ := hv
  rw [bcl_len] at HV ⊢
  obtain ⟨N, hN⟩ : ∃ N, l.length = N := ⟨_, rfl⟩
  have HFI := hide (fun (W : World) (h : SlL W (.slice A N c) (bcl l)) (h4 : l.length ≤ 4) => swfits_any W mode run rej _ l h h4)
  rw [hN] at HV HFI hl ⊢
  have hre := rightI_eq mode run l rej
  rw [hN] at hre
  by_cases c1 : mode < 0
  · rw [if_pos (by omega)] at hre
    have HR := hide hre
    clear hre
    have HN := hide hN
    clear hN
    have HB := allocs_below w [.cells #[.int .i64 mode, .int .i64 run, .slice A N c, .int .i64 rej] 29]
    have K_p : Blk (allocs w [.cells #[.int .i64 mode, .int .i64 run, .slice A N c, .int .i64 rej] 29]) (w.heap.size + 0) 29 #[.int .i64 mode, .int .i64 run, .slice A N c, .int .i64 rej] := allocs_at w [.cells #[.int .i64 mode, .int .i64 run, .slice A N c, .int .i64 rej] 29] 0 rfl
    unfold allocs at HB K_p
    simp only [List.foldl_cons, List.foldl_nil] at HB K_p
    rw [Nat.add_zero] at K_p
    go_enter Tryz.func22, Tryz.ntmps22
    go_upto_region 1 with (fail)
    generalize (w.alloc (.cells #[.int .i64 mode, .int .i64 run, .slice A N c, .int .i64 rej] 29)) = w0 at *
    replace K_p := hide K_p
    replace HB := hide HB
    have p0 := (Blk.cell K_p.out 0).trans (rfl : _ = some (Value.int .i64 mode))
    have p1 := (Blk.cell K_p.out 1).trans (rfl : _ = some (Value.int .i64 run))
    have p2 := (Blk.cell K_p.out 2).trans (rfl : _ = some (Value.slice A N c))
    have p3 := (Blk.cell K_p.out 3).trans (rfl : _ = some (Value.int .i64 rej))
    go_wp2_with fail
    go_ret
    rw [HR.out]
    exact ⟨rfl, HB.out⟩
  · by_cases c2 : 3 < mode
    · rw [if_pos (by omega)] at hre
      have HR := hide hre
      clear hre
      have HN := hide hN
      clear hN
      have HB := allocs_below w [.cells #[.int .i64 mode, .int .i64 run, .slice A N c, .int .i64 rej] 29]
      have K_p : Blk (allocs w [.cells #[.int .i64 mode, .int .i64 run, .slice A N c, .int .i64 rej] 29]) (w.heap.size + 0) 29 #[.int .i64 mode, .int .i64 run, .slice A N c, .int .i64 rej] := allocs_at w [.cells #[.int .i64 mode, .int .i64 run, .slice A N c, .int .i64 rej] 29] 0 rfl
      unfold allocs at HB K_p
      simp only [List.foldl_cons, List.foldl_nil] at HB K_p
      rw [Nat.add_zero] at K_p
      go_enter Tryz.func22, Tryz.ntmps22
      go_upto_region 1 with (fail)
      generalize (w.alloc (.cells #[.int .i64 mode, .int .i64 run, .slice A N c, .int .i64 rej] 29)) = w0 at *
      replace K_p := hide K_p
      replace HB := hide HB
      have p0 := (Blk.cell K_p.out 0).trans (rfl : _ = some (Value.int .i64 mode))
      have p1 := (Blk.cell K_p.out 1).trans (rfl : _ = some (Value.int .i64 run))
      have p2 := (Blk.cell K_p.out 2).trans (rfl : _ = some (Value.slice A N c))
      have p3 := (Blk.cell K_p.out 3).trans (rfl : _ = some (Value.int .i64 rej))
      go_wp2_with fail
      go_ret
      rw [HR.out]
      exact ⟨rfl, HB.out⟩
    · obtain ⟨m, rfl⟩ : ∃ m : Nat, mode = (m : Int) := ⟨mode.toNat, by omega⟩
      obtain ⟨lg, hlg⟩ : ∃ z, longI (m : Int) = z := ⟨_, rfl⟩
      obtain ⟨fo, hfo⟩ : ∃ z, fourI (m : Int) = z := ⟨_, rfl⟩
      rw [hlg, hfo] at hre
      by_cases c3 : run < 0
      · rw [if_neg (by omega)] at hre
        rw [if_pos (by omega)] at hre
        have HR := hide hre
        clear hre
        have h1 := idx_ten m (by omega)
        have h2 := idx_four m (by omega)
        rw [hlg] at h1
        rw [hfo] at h2
        have HLG := hide hlg
        have HFO := hide hfo
        clear hlg hfo
        clear h2
        clear h1
        have HN := hide hN
        clear hN
        have hm3 : (m : Int) ≤ 3 := by omega
        have hm0 : (0 : Int) ≤ (m : Int) := by omega
        have hmd : decide ((m : Int) < 0) = false := decide_eq_false (by omega)
        have hd1 : decide (run < 0) = true := decide_eq_true c3
        have HB := allocs_below w [.cells #[.int .i64 (m : Int), .int .i64 run, .slice A N c, .int .i64 rej] 29]
        have K_p : Blk (allocs w [.cells #[.int .i64 (m : Int), .int .i64 run, .slice A N c, .int .i64 rej] 29]) (w.heap.size + 0) 29 #[.int .i64 (m : Int), .int .i64 run, .slice A N c, .int .i64 rej] := allocs_at w [.cells #[.int .i64 (m : Int), .int .i64 run, .slice A N c, .int .i64 rej] 29] 0 rfl
        unfold allocs at HB K_p
        simp only [List.foldl_cons, List.foldl_nil] at HB K_p
        rw [Nat.add_zero] at K_p
        go_enter Tryz.func22, Tryz.ntmps22
        go_upto_region 1 with (fail)
        generalize (w.alloc (.cells #[.int .i64 (m : Int), .int .i64 run, .slice A N c, .int .i64 rej] 29)) = w0 at *
        replace K_p := hide K_p
        replace HB := hide HB
        have p0 := (Blk.cell K_p.out 0).trans (rfl : _ = some (Value.int .i64 (m : Int)))
        have p1 := (Blk.cell K_p.out 1).trans (rfl : _ = some (Value.int .i64 run))
        have p2 := (Blk.cell K_p.out 2).trans (rfl : _ = some (Value.slice A N c))
        have p3 := (Blk.cell K_p.out 3).trans (rfl : _ = some (Value.int .i64 rej))
        go_upto_region 3 with (fail)
        go_quiet (fail)
        go_wp2_with fail
        go_ret
        rw [HR.out]
        exact ⟨rfl, below_drewN HB.out _⟩
      · by_cases c4 : lg ≤ run
        · rw [if_neg (by omega)] at hre
          rw [if_pos (by omega)] at hre
          have HR := hide hre
          clear hre
          have h1 := idx_ten m (by omega)
          have h2 := idx_four m (by omega)
          rw [hlg] at h1
          rw [hfo] at h2
          have HLG := hide hlg
          have HFO := hide hfo
          clear hlg hfo
          clear h2
          have HN := hide hN
          clear hN
          have hm3 : (m : Int) ≤ 3 := by omega
          have hm0 : (0 : Int) ≤ (m : Int) := by omega
          have hmd : decide ((m : Int) < 0) = false := decide_eq_false (by omega)
          have hd1 : decide (run < 0) = false := decide_eq_false c3
          have hd2 : decide (lg ≤ run) = true := decide_eq_true c4
          have HB := allocs_below w [.cells #[.int .i64 (m : Int), .int .i64 run, .slice A N c, .int .i64 rej] 29]
          have K_p : Blk (allocs w [.cells #[.int .i64 (m : Int), .int .i64 run, .slice A N c, .int .i64 rej] 29]) (w.heap.size + 0) 29 #[.int .i64 (m : Int), .int .i64 run, .slice A N c, .int .i64 rej] := allocs_at w [.cells #[.int .i64 (m : Int), .int .i64 run, .slice A N c, .int .i64 rej] 29] 0 rfl
          unfold allocs at HB K_p
          simp only [List.foldl_cons, List.foldl_nil] at HB K_p
          rw [Nat.add_zero] at K_p
          go_enter Tryz.func22, Tryz.ntmps22
          go_upto_region 1 with (fail)
          generalize (w.alloc (.cells #[.int .i64 (m : Int), .int .i64 run, .slice A N c, .int .i64 rej] 29)) = w0 at *
          replace K_p := hide K_p
          replace HB := hide HB
          have p0 := (Blk.cell K_p.out 0).trans (rfl : _ = some (Value.int .i64 (m : Int)))
          have p1 := (Blk.cell K_p.out 1).trans (rfl : _ = some (Value.int .i64 run))
          have p2 := (Blk.cell K_p.out 2).trans (rfl : _ = some (Value.slice A N c))
          have p3 := (Blk.cell K_p.out 3).trans (rfl : _ = some (Value.int .i64 rej))
          go_upto_region 3 with (fail)
          go_quiet (fail)
          go_wp2_with fail
          go_ret
          rw [HR.out]
          exact ⟨rfl, below_drewN HB.out _⟩
        · by_cases c5 : rej < 0
          · rw [if_neg (by omega)] at hre
            rw [if_neg (by omega)] at hre
            rw [if_pos (by omega)] at hre
            have HR := hide hre
            clear hre
            have h1 := idx_ten m (by omega)
            have h2 := idx_four m (by omega)
            rw [hlg] at h1
            rw [hfo] at h2
            have HLG := hide hlg
            have HFO := hide hfo
            clear hlg hfo
            clear h2
            have HN := hide hN
            clear hN
            have hm3 : (m : Int) ≤ 3 := by omega
            have hm0 : (0 : Int) ≤ (m : Int) := by omega
            have hmd : decide ((m : Int) < 0) = false := decide_eq_false (by omega)
            have hd1 : decide (run < 0) = false := decide_eq_false c3
            have hd2 : decide (lg ≤ run) = false := decide_eq_false c4
            have hd3 : decide (rej < 0) = true := decide_eq_true c5
            have HB := allocs_below w [.cells #[.int .i64 (m : Int), .int .i64 run, .slice A N c, .int .i64 rej] 29]
            have K_p : Blk (allocs w [.cells #[.int .i64 (m : Int), .int .i64 run, .slice A N c, .int .i64 rej] 29]) (w.heap.size + 0) 29 #[.int .i64 (m : Int), .int .i64 run, .slice A N c, .int .i64 rej] := allocs_at w [.cells #[.int .i64 (m : Int), .int .i64 run, .slice A N c, .int .i64 rej] 29] 0 rfl
            unfold allocs at HB K_p
            simp only [List.foldl_cons, List.foldl_nil] at HB K_p
            rw [Nat.add_zero] at K_p
            go_enter Tryz.func22, Tryz.ntmps22
            go_upto_region 1 with (fail)
            generalize (w.alloc (.cells #[.int .i64 (m : Int), .int .i64 run, .slice A N c, .int .i64 rej] 29)) = w0 at *
            replace K_p := hide K_p
            replace HB := hide HB
            have p0 := (Blk.cell K_p.out 0).trans (rfl : _ = some (Value.int .i64 (m : Int)))
            have p1 := (Blk.cell K_p.out 1).trans (rfl : _ = some (Value.int .i64 run))
            have p2 := (Blk.cell K_p.out 2).trans (rfl : _ = some (Value.slice A N c))
            have p3 := (Blk.cell K_p.out 3).trans (rfl : _ = some (Value.int .i64 rej))
            go_upto_region 3 with (fail)
            go_quiet (fail)
            go_upto_region 5 with (fail)
            go_quiet (fail)
            go_wp2_with fail
            go_ret
            rw [HR.out]
            exact ⟨rfl, below_drewN HB.out _⟩
          · by_cases c6 : fo < rej
            · rw [if_neg (by omega)] at hre
              rw [if_neg (by omega)] at hre
              rw [if_pos (by omega)] at hre
              have HR := hide hre
              clear hre
              have h1 := idx_ten m (by omega)
              have h2 := idx_four m (by omega)
              rw [hlg] at h1
              rw [hfo] at h2
              have HLG := hide hlg
              have HFO := hide hfo
              clear hlg hfo
              have HN := hide hN
              clear hN
              have hm3 : (m : Int) ≤ 3 := by omega
              have hm0 : (0 : Int) ≤ (m : Int) := by omega
              have hmd : decide ((m : Int) < 0) = false := decide_eq_false (by omega)
              have hd1 : decide (run < 0) = false := decide_eq_false c3
              have hd2 : decide (lg ≤ run) = false := decide_eq_false c4
              have hd3 : decide (rej < 0) = false := decide_eq_false c5
              have hd4 : decide (fo < rej) = true := decide_eq_true c6
              have HB := allocs_below w [.cells #[.int .i64 (m : Int), .int .i64 run, .slice A N c, .int .i64 rej] 29]
              have K_p : Blk (allocs w [.cells #[.int .i64 (m : Int), .int .i64 run, .slice A N c, .int .i64 rej] 29]) (w.heap.size + 0) 29 #[.int .i64 (m : Int), .int .i64 run, .slice A N c, .int .i64 rej] := allocs_at w [.cells #[.int .i64 (m : Int), .int .i64 run, .slice A N c, .int .i64 rej] 29] 0 rfl
              unfold allocs at HB K_p
              simp only [List.foldl_cons, List.foldl_nil] at HB K_p
              rw [Nat.add_zero] at K_p
              go_enter Tryz.func22, Tryz.ntmps22
              go_upto_region 1 with (fail)
              generalize (w.alloc (.cells #[.int .i64 (m : Int), .int .i64 run, .slice A N c, .int .i64 rej] 29)) = w0 at *
              replace K_p := hide K_p
              replace HB := hide HB
              have p0 := (Blk.cell K_p.out 0).trans (rfl : _ = some (Value.int .i64 (m : Int)))
              have p1 := (Blk.cell K_p.out 1).trans (rfl : _ = some (Value.int .i64 run))
              have p2 := (Blk.cell K_p.out 2).trans (rfl : _ = some (Value.slice A N c))
              have p3 := (Blk.cell K_p.out 3).trans (rfl : _ = some (Value.int .i64 rej))
              go_upto_region 3 with (fail)
              go_quiet (fail)
              go_upto_region 5 with (fail)
              go_quiet (fail)
              go_wp2_with fail
              go_ret
              rw [HR.out]
              exact ⟨rfl, below_drewN HB.out _⟩
            · by_cases c7 : 4 < N
              · rw [if_neg (by omega)] at hre
                rw [if_neg (by omega)] at hre
                rw [if_neg (by omega)] at hre
                rw [if_pos c7] at hre
                have HR := hide hre
                clear hre
                have h1 := idx_ten m (by omega)
                have h2 := idx_four m (by omega)
                rw [hlg] at h1
                rw [hfo] at h2
                have HLG := hide hlg
                have HFO := hide hfo
                clear hlg hfo
                have HN := hide hN
                clear hN
                have hm3 : (m : Int) ≤ 3 := by omega
                have hm0 : (0 : Int) ≤ (m : Int) := by omega
                have hmd : decide ((m : Int) < 0) = false := decide_eq_false (by omega)
                have hd1 : decide (run < 0) = false := decide_eq_false c3
                have hd2 : decide (lg ≤ run) = false := decide_eq_false c4
                have hd3 : decide (rej < 0) = false := decide_eq_false c5
                have hd4 : decide (fo < rej) = false := decide_eq_false c6
                have hd5 : decide ((4 : Int) < (N : Int)) = true := decide_eq_true (by omega)
                have hd6 : (4 : Int) < (N : Int) := by omega
                have HB := allocs_below w [.cells #[.int .i64 (m : Int), .int .i64 run, .slice A N c, .int .i64 rej] 29]
                have K_p : Blk (allocs w [.cells #[.int .i64 (m : Int), .int .i64 run, .slice A N c, .int .i64 rej] 29]) (w.heap.size + 0) 29 #[.int .i64 (m : Int), .int .i64 run, .slice A N c, .int .i64 rej] := allocs_at w [.cells #[.int .i64 (m : Int), .int .i64 run, .slice A N c, .int .i64 rej] 29] 0 rfl
                unfold allocs at HB K_p
                simp only [List.foldl_cons, List.foldl_nil] at HB K_p
                rw [Nat.add_zero] at K_p
                go_enter Tryz.func22, Tryz.ntmps22
                go_upto_region 1 with (fail)
                generalize (w.alloc (.cells #[.int .i64 (m : Int), .int .i64 run, .slice A N c, .int .i64 rej] 29)) = w0 at *
                replace K_p := hide K_p
                replace HB := hide HB
                have p0 := (Blk.cell K_p.out 0).trans (rfl : _ = some (Value.int .i64 (m : Int)))
                have p1 := (Blk.cell K_p.out 1).trans (rfl : _ = some (Value.int .i64 run))
                have p2 := (Blk.cell K_p.out 2).trans (rfl : _ = some (Value.slice A N c))
                have p3 := (Blk.cell K_p.out 3).trans (rfl : _ = some (Value.int .i64 rej))
                go_upto_region 3 with (fail)
                go_quiet (fail)
                go_upto_region 5 with (fail)
                go_quiet (fail)
                go_wp2_with fail
                go_ret
                rw [HR.out]
                exact ⟨rfl, below_drewN HB.out _⟩
              · by_cases c8 : fitsI (m : Int) run l = false
                · rw [if_neg (by omega)] at hre
                  rw [if_neg (by omega)] at hre
                  rw [if_neg (by omega)] at hre
                  rw [if_neg c7] at hre
                  rw [if_pos c8] at hre
                  have HR := hide hre
                  clear hre
                  have h1 := idx_ten m (by omega)
                  have h2 := idx_four m (by omega)
                  rw [hlg] at h1
                  rw [hfo] at h2
                  have HLG := hide hlg
                  have HFO := hide hfo
                  clear hlg hfo
                  have HF2 := hide (fun W h => HFI.out W h (by omega))
                  rw [c8] at HF2
                  clear c8
                  have HN := hide hN
                  clear hN
                  have hm3 : (m : Int) ≤ 3 := by omega
                  have hm0 : (0 : Int) ≤ (m : Int) := by omega
                  have hmd : decide ((m : Int) < 0) = false := decide_eq_false (by omega)
                  have hd1 : decide (run < 0) = false := decide_eq_false c3
                  have hd2 : decide (lg ≤ run) = false := decide_eq_false c4
                  have hd3 : decide (rej < 0) = false := decide_eq_false c5
                  have hd4 : decide (fo < rej) = false := decide_eq_false c6
                  have hd5 : decide ((4 : Int) < (N : Int)) = false := decide_eq_false (by omega)
                  have hd6 : ¬ (4 : Int) < (N : Int) := by omega
                  have HB := allocs_below w [.cells #[.int .i64 (m : Int), .int .i64 run, .slice A N c, .int .i64 rej] 29]
                  have K_p : Blk (allocs w [.cells #[.int .i64 (m : Int), .int .i64 run, .slice A N c, .int .i64 rej] 29]) (w.heap.size + 0) 29 #[.int .i64 (m : Int), .int .i64 run, .slice A N c, .int .i64 rej] := allocs_at w [.cells #[.int .i64 (m : Int), .int .i64 run, .slice A N c, .int .i64 rej] 29] 0 rfl
                  unfold allocs at HB K_p
                  simp only [List.foldl_cons, List.foldl_nil] at HB K_p
                  rw [Nat.add_zero] at K_p
                  go_enter Tryz.func22, Tryz.ntmps22
                  go_upto_region 1 with (fail)
                  generalize (w.alloc (.cells #[.int .i64 (m : Int), .int .i64 run, .slice A N c, .int .i64 rej] 29)) = w0 at *
                  replace K_p := hide K_p
                  replace HB := hide HB
                  have p0 := (Blk.cell K_p.out 0).trans (rfl : _ = some (Value.int .i64 (m : Int)))
                  have p1 := (Blk.cell K_p.out 1).trans (rfl : _ = some (Value.int .i64 run))
                  have p2 := (Blk.cell K_p.out 2).trans (rfl : _ = some (Value.slice A N c))
                  have p3 := (Blk.cell K_p.out 3).trans (rfl : _ = some (Value.int .i64 rej))
                  go_upto_region 3 with (fail)
                  go_quiet (fail)
                  go_upto_region 5 with (fail)
                  go_quiet (fail)
                  go_wp2_with fail
                  refine (HF2.out _ (HV.out.below ?bel)).mono ?_
                  case bel => exact below_drewN HB.out _
                  rintro e w1 ⟨rfl, hb⟩
                  have HX := hide ((below_drewN HB.out _).trans (hb.mono HB.out.size))
                  clear hb
                  go_wp2_with fail
                  go_ret
                  rw [HR.out]
                  exact ⟨rfl, HX.out⟩
                · rw [if_neg (by omega)] at hre
                  rw [if_neg (by omega)] at hre
                  rw [if_neg (by omega)] at hre
                  rw [if_neg c7] at hre
                  rw [if_neg c8] at hre
                  have HR := hide hre
                  clear hre
                  have h1 := idx_ten m (by omega)
                  have h2 := idx_four m (by omega)
                  rw [hlg] at h1
                  rw [hfo] at h2
                  have HLG := hide hlg
                  have HFO := hide hfo
                  clear hlg hfo
                  have HF2 := hide (fun W h => HFI.out W h (by omega))
                  rw [show fitsI (m : Int) run l = true by simpa using c8] at HF2
                  clear c8
                  have HN := hide hN
                  clear hN
                  have hm3 : (m : Int) ≤ 3 := by omega
                  have hm0 : (0 : Int) ≤ (m : Int) := by omega
                  have hmd : decide ((m : Int) < 0) = false := decide_eq_false (by omega)
                  have hd1 : decide (run < 0) = false := decide_eq_false c3
                  have hd2 : decide (lg ≤ run) = false := decide_eq_false c4
                  have hd3 : decide (rej < 0) = false := decide_eq_false c5
                  have hd4 : decide (fo < rej) = false := decide_eq_false c6
                  have hd5 : decide ((4 : Int) < (N : Int)) = false := decide_eq_false (by omega)
                  have hd6 : ¬ (4 : Int) < (N : Int) := by omega
                  have HB := allocs_below w [.cells #[.int .i64 (m : Int), .int .i64 run, .slice A N c, .int .i64 rej] 29]
                  have K_p : Blk (allocs w [.cells #[.int .i64 (m : Int), .int .i64 run, .slice A N c, .int .i64 rej] 29]) (w.heap.size + 0) 29 #[.int .i64 (m : Int), .int .i64 run, .slice A N c, .int .i64 rej] := allocs_at w [.cells #[.int .i64 (m : Int), .int .i64 run, .slice A N c, .int .i64 rej] 29] 0 rfl
                  unfold allocs at HB K_p
                  simp only [List.foldl_cons, List.foldl_nil] at HB K_p
                  rw [Nat.add_zero] at K_p
                  go_enter Tryz.func22, Tryz.ntmps22
                  go_upto_region 1 with (fail)
                  generalize (w.alloc (.cells #[.int .i64 (m : Int), .int .i64 run, .slice A N c, .int .i64 rej] 29)) = w0 at *
                  replace K_p := hide K_p
                  replace HB := hide HB
                  have p0 := (Blk.cell K_p.out 0).trans (rfl : _ = some (Value.int .i64 (m : Int)))
                  have p1 := (Blk.cell K_p.out 1).trans (rfl : _ = some (Value.int .i64 run))
                  have p2 := (Blk.cell K_p.out 2).trans (rfl : _ = some (Value.slice A N c))
                  have p3 := (Blk.cell K_p.out 3).trans (rfl : _ = some (Value.int .i64 rej))
                  go_upto_region 3 with (fail)
                  go_quiet (fail)
                  go_upto_region 5 with (fail)
                  go_quiet (fail)
                  go_wp2_with fail
                  refine (HF2.out _ (HV.out.below ?bel)).mono ?_
                  case bel => exact below_drewN HB.out _
                  rintro e w1 ⟨rfl, hb⟩
                  have HX := hide ((below_drewN HB.out _).trans (hb.mono HB.out.size))
                  clear hb
                  go_wp2_with fail
                  go_ret
                  rw [HR.out]
                  exact ⟨rfl, HX.out⟩
end Go.Proofs.YthmmgjieppknkaaGreatDoor

namespace Go.Proofs.YthmmgjieppknkaaGreatDoor
open Go.RowKit MLab
set_option maxRecDepth 100000 in
set_option maxHeartbeats 1000000 in
theorem begun_any (w : World) (m : Nat) : Calls Tryz.prog 64 #[.int .i64 (m : Int)] w fun e w' => e = .returned (.agg #[.int .i64 (m : Int), .int .i64 0, .int .i64 1, .int .i64 0]) ∧ Below w.heap.size w w' := by
  have HB := allocs_below w [.cells #[.int .i64 0, .int .i64 0, .int .i64 0, .int .i64 0] 105]
  have K_r : Blk (allocs w [.cells #[.int .i64 0, .int .i64 0, .int .i64 0, .int .i64 0] 105]) (w.heap.size + 0) 105 #[.int .i64 0, .int .i64 0, .int .i64 0, .int .i64 0] := allocs_at w [.cells #[.int .i64 0, .int .i64 0, .int .i64 0, .int .i64 0] 105] 0 rfl
  unfold allocs at HB K_r
  simp only [List.foldl_cons, List.foldl_nil] at HB K_r
  rw [Nat.add_zero] at K_r
  go_enter Tryz.func64, Tryz.ntmps64
  go_upto_region 1 with (fail)
  generalize (w.alloc (.cells #[.int .i64 0, .int .i64 0, .int .i64 0, .int .i64 0] 105)) = w0 at *
  replace K_r := hide K_r
  replace HB := hide HB
  have hrf := Blk.lt K_r.out
  have r0 := (Blk.cell K_r.out 0).trans (rfl : _ = some (Value.int .i64 0))
  have rf0 := Blk.frozen K_r.out 0
  have r1 := (Blk.cell K_r.out 1).trans (rfl : _ = some (Value.int .i64 0))
  have rf1 := Blk.frozen K_r.out 1
  have r2 := (Blk.cell K_r.out 2).trans (rfl : _ = some (Value.int .i64 0))
  have rf2 := Blk.frozen K_r.out 2
  have r3 := (Blk.cell K_r.out 3).trans (rfl : _ = some (Value.int .i64 0))
  have rf3 := Blk.frozen K_r.out 3
  go_wp2_with fail
  have rc0 := (Blk.cell ((((K_r.out.set_ 0 (.int .i64 (m : Int))).set_ 1 (.int .i64 0)).set_ 2 (.int .i64 1)).set_ 3 (.int .i64 0)) 0).trans (rfl : _ = some (Value.int .i64 (m : Int)))
  have rc1 := (Blk.cell ((((K_r.out.set_ 0 (.int .i64 (m : Int))).set_ 1 (.int .i64 0)).set_ 2 (.int .i64 1)).set_ 3 (.int .i64 0)) 1).trans (rfl : _ = some (Value.int .i64 0))
  have rc2 := (Blk.cell ((((K_r.out.set_ 0 (.int .i64 (m : Int))).set_ 1 (.int .i64 0)).set_ 2 (.int .i64 1)).set_ 3 (.int .i64 0)) 2).trans (rfl : _ = some (Value.int .i64 1))
  have rc3 := (Blk.cell ((((K_r.out.set_ 0 (.int .i64 (m : Int))).set_ 1 (.int .i64 0)).set_ 2 (.int .i64 1)).set_ 3 (.int .i64 0)) 3).trans (rfl : _ = some (Value.int .i64 0))
  exact bodyPost_ret (v := .agg #[.int .i64 (m : Int), .int .i64 0, .int .i64 1, .int .i64 0]) (by simp [results, Tryz.results64, go_sem, rc0, rc1, rc2, rc3]) rfl ⟨rfl, ((((HB.out.setCell (p := ⟨w.heap.size, 0, none⟩) (by show w.heap.size ≤ w.heap.size; omega) (.int .i64 (m : Int))).setCell (p := ⟨w.heap.size, 1, none⟩) (by show w.heap.size ≤ w.heap.size; omega) (.int .i64 0)).setCell (p := ⟨w.heap.size, 2, none⟩) (by show w.heap.size ≤ w.heap.size; omega) (.int .i64 1)).setCell (p := ⟨w.heap.size, 3, none⟩) (by show w.heap.size ≤ w.heap.size; omega) (.int .i64 0))⟩
theorem bit_any (w : World) (b : Bool) : Calls Tryz.prog 135 #[.bool b] w fun e w' => e = .returned (.int .i64 (if b then 1 else 0)) ∧ w' = w := by
  cases b with
  | true =>
    go_enter Tryz.func135, Tryz.ntmps135
    go_wp2_with fail
    go_ret
    exact ⟨rfl, rfl⟩
  | false =>
    go_enter Tryz.func135, Tryz.ntmps135
    go_wp2_with fail
    go_ret
    exact ⟨rfl, rfl⟩
theorem bitsL_snoc (l : List Bool) (b : Bool) : bitsL (l ++ [b]) = 2 * bitsL l + (if b then 1 else 0) := by simp [bitsL]
theorem bitsL_le : ∀ l : List Bool, bitsL l < 2 ^ (l.length + 1) := by
  intro l
  have h : ∀ (l : List Bool) (a n : Nat), a < 2 ^ n → l.foldl (fun a b => 2 * a + (if b then 1 else 0)) a < 2 ^ (l.length + n) := by
    intro l
    induction l with
    | nil => intro a n h; simpa using h
    | cons b l ih =>
      intro a n h
      rw [List.foldl_cons, List.length_cons, show l.length + 1 + n = l.length + (n + 1) by omega]
      refine ih _ _ ?_
      rw [Nat.pow_succ]
      split <;> omega
  exact h l 1 1 (by omega)
set_option maxRecDepth 100000 in
set_option maxHeartbeats 2000000 in
theorem ofS_any (w : World) (mode run rej : Int) (v : Value) (l : List Bool) (hv : SlL w v (bcl l)) (hl : l.length ≤ 4) :
    Calls Tryz.prog 56 #[.agg #[.int .i64 mode, .int .i64 run, v, .int .i64 rej]] w fun e w' => e = .returned (.agg #[.int .i64 mode, .int .i64 run, .int .i64 (bitsL l : Int), .int .i64 rej]) ∧ Below w.heap.size w w' := by
  obtain ⟨A, c, rfl, -, hc⟩ := hv
  rw [bcl_len] at hc ⊢
  have HC := hide hc
  clear hc
  obtain ⟨N, hN⟩ : ∃ N, l.length = N := ⟨_, rfl⟩
  rw [hN] at HC hl ⊢
  have HN := hide hN
  clear hN
  have HB := allocs_below w [.cells #[.int .i64 mode, .int .i64 run, .slice A N c, .int .i64 rej] 29, .cells #[.int .i64 0, .int .i64 0, .int .i64 0, .int .i64 0] 105]
  have K_x : Blk (allocs w [.cells #[.int .i64 mode, .int .i64 run, .slice A N c, .int .i64 rej] 29, .cells #[.int .i64 0, .int .i64 0, .int .i64 0, .int .i64 0] 105]) (w.heap.size + 0) 29 #[.int .i64 mode, .int .i64 run, .slice A N c, .int .i64 rej] := allocs_at w [.cells #[.int .i64 mode, .int .i64 run, .slice A N c, .int .i64 rej] 29, .cells #[.int .i64 0, .int .i64 0, .int .i64 0, .int .i64 0] 105] 0 rfl
  have K_r : Blk (allocs w [.cells #[.int .i64 mode, .int .i64 run, .slice A N c, .int .i64 rej] 29, .cells #[.int .i64 0, .int .i64 0, .int .i64 0, .int .i64 0] 105]) (w.heap.size + 1) 105 #[.int .i64 0, .int .i64 0, .int .i64 0, .int .i64 0] := allocs_at w [.cells #[.int .i64 mode, .int .i64 run, .slice A N c, .int .i64 rej] 29, .cells #[.int .i64 0, .int .i64 0, .int .i64 0, .int .i64 0] 105] 1 rfl
  unfold allocs at HB K_x K_r
  simp only [List.foldl_cons, List.foldl_nil] at HB K_x K_r
  rw [Nat.add_zero] at K_x
  go_enter Tryz.func56, Tryz.ntmps56
  go_upto_region 1 with (fail)
  generalize ((w.alloc (.cells #[.int .i64 mode, .int .i64 run, .slice A N c, .int .i64 rej] 29)).alloc (.cells #[.int .i64 0, .int .i64 0, .int .i64 0, .int .i64 0] 105)) = w0 at *
  replace K_x := hide K_x
  replace K_r := hide K_r
  replace HB := hide HB
  have x0 := (Blk.cell K_x.out 0).trans (rfl : _ = some (Value.int .i64 mode))
  have x1 := (Blk.cell K_x.out 1).trans (rfl : _ = some (Value.int .i64 run))
  have x2 := (Blk.cell K_x.out 2).trans (rfl : _ = some (Value.slice A N c))
  have x3 := (Blk.cell K_x.out 3).trans (rfl : _ = some (Value.int .i64 rej))
  go_upto_region 2 with (fail)
  clear x0 x1 x2 x3
  have hbs_q : w.heap.size ≤ w0.heap.size := HB.out.size
  have lt_q_x : w.heap.size < w0.heap.size := Blk.lt K_x.out
  have lt_q_r : (w.heap.size + 1) < w0.heap.size := Blk.lt K_r.out
  replace K_x := K_x.out.alloc (.cells #[.int .i64 mode, .int .i64 run, .int .i64 1, .int .i64 rej] 105)
  replace K_r := K_r.out.alloc (.cells #[.int .i64 mode, .int .i64 run, .int .i64 1, .int .i64 rej] 105)
  replace HB := HB.out.alloc HB.out.size (.cells #[.int .i64 mode, .int .i64 run, .int .i64 1, .int .i64 rej] 105)
  have K_q := Blk.new w0 105 #[.int .i64 mode, .int .i64 run, .int .i64 1, .int .i64 rej]
  generalize w0.alloc (.cells #[.int .i64 mode, .int .i64 run, .int .i64 1, .int .i64 rej] 105) = w1 at *
  replace K_x := hide K_x
  replace K_r := hide K_r
  replace K_q := hide K_q
  replace HB := hide HB
  have x0 := (Blk.cell K_x.out 0).trans (rfl : _ = some (Value.int .i64 mode))
  have x1 := (Blk.cell K_x.out 1).trans (rfl : _ = some (Value.int .i64 run))
  have x2 := (Blk.cell K_x.out 2).trans (rfl : _ = some (Value.slice A N c))
  have x3 := (Blk.cell K_x.out 3).trans (rfl : _ = some (Value.int .i64 rej))
  go_wp2_with fail
  have hxb := Blk.lt K_x.out
  have hrb := Blk.lt K_r.out
  have HRQ := hide (show (w.heap.size + 1) ≠ w0.heap.size from by have := lt_q_r; omega)
  have HWQ := hide (show w.heap.size ≤ w0.heap.size from hbs_q)
  go_loopg [16] N (fun z iv wr => ∃ j : Nat, iv = .int .i64 (j : Int) ∧ z + j = N ∧ Blk wr (w0.heap.size) 105 #[.int .i64 mode, .int .i64 run, .int .i64 (bitsL (l.take j) : Int), .int .i64 rej] ∧ Blk wr (w.heap.size + 1) 105 #[.int .i64 0, .int .i64 0, .int .i64 0, .int .i64 0] ∧ Below w.heap.size w wr)
  case atStart => exact ⟨0, rfl, rfl, K_q.out, K_r.out, HB.out⟩
  case round =>
    obtain ⟨j, rfl, hq, hkq, hkr, hb⟩ := hrel
    have HQ := hide hq
    have KQ := hide hkq
    have KR := hide hkr
    have HBR := hide hb
    have hj : j ≤ N := by omega
    clear hq hkq hkr hb x0 x1 x2 x3 K_q K_r K_x HB
    by_cases hlt : j < N
    · have hji : (j : Int) < (N : Int) := by omega
      have hj0 : (0 : Int) ≤ (j : Int) := by omega
      obtain ⟨g, og, rfl, hcell⟩ := HC.out (by omega)
      obtain ⟨b, hx⟩ : ∃ b, l[j]? = some b := ⟨_, List.getElem?_eq_getElem (by rw [HN.out]; exact hlt)⟩
      have a := hcell j _ (bcl_at hx)
      have a2 := (bcell HBR.out _ _ (block_lt_of_cell a)).trans a
      have hgw : g < w.heap.size := block_lt_of_cell a
      have HG := hide (show g ≠ w0.heap.size from by have := HWQ.out; omega)
      have hbl := bitsL_le (l.take j)
      have hlen : (l.take j).length = j := by rw [List.length_take, HN.out]; omega
      rw [hlen] at hbl
      have hp5 : 2 ^ (j + 1) ≤ 2 ^ 4 := Nat.pow_le_pow_right (by omega) (by omega)
      have HT := hide (show bitsL (l.take (j + 1)) = 2 * bitsL (l.take j) + (if b then 1 else 0) by rw [List.take_add_one, hx]; exact bitsL_snoc _ _)
      clear a hcell hx HC hlen
      obtain ⟨u, hu⟩ : ∃ u, bitsL (l.take j) = u := ⟨_, rfl⟩
      rw [hu] at HT hbl KQ
      have hub : u < 16 := by omega
      clear hu hbl hp5
      have hw1 : IntKind.i64.wrap ((u : Int) * 2) = ((2 * u : Nat) : Int) := (IntWalk.i64_in _ (by omega)).trans (by omega)
      have hw2 : IntKind.i64.wrap (((2 * u : Nat) : Int) + 1) = ((2 * u + 1 : Nat) : Int) := (IntWalk.i64_in _ (by omega)).trans (by omega)
      obtain ⟨u2, hu2⟩ : ∃ u2, 2 * u = u2 := ⟨_, rfl⟩
      rw [hu2] at hw1 hw2 HT
      have HU2 := hide hu2
      clear hu2
      have y2 := (Blk.cell KQ.out 2).trans (rfl : _ = some (Value.int .i64 (u : Int)))
      have yf2 := Blk.frozen KQ.out 2
      have K1 := hide (KQ.out.set_ 2 (.int .i64 (u2 : Int)))
      have R1 := hide (KR.out.far (p := ⟨w0.heap.size, 2, none⟩) HRQ.out (.int .i64 (u2 : Int)))
      have B1 := hide (HBR.out.setCell (p := ⟨w0.heap.size, 2, none⟩) HWQ.out (.int .i64 (u2 : Int)))
      go_upto_region 6 with (fail)
      generalize wr.setCell ⟨w0.heap.size, 2, none⟩ (.int .i64 (u2 : Int)) = w5 at *
      clear y2 yf2
      cases b with
      | false =>
        go_wp2_with fail
        go_roundg (gk - 1)
        case measure => have := HQ.out; omega
        case rel => exact ⟨j + 1, by go_num, by have := HQ.out; omega, by rw [HT.out]; exact K1.out, R1.out, B1.out⟩
      | true =>
        have z2 := (Blk.cell K1.out 2).trans (rfl : _ = some (Value.int .i64 (u2 : Int)))
        have zf2 := Blk.frozen K1.out 2
        go_wp2_with fail
        go_roundg (gk - 1)
        case measure => have := HQ.out; omega
        case rel => exact ⟨j + 1, by go_num, by have := HQ.out; omega, by rw [HT.out]; exact K1.out.set_ 2 _, R1.out.far (p := ⟨w0.heap.size, 2, none⟩) HRQ.out _, B1.out.setCell (p := ⟨w0.heap.size, 2, none⟩) HWQ.out _⟩
    · have hji : ¬ (j : Int) < (N : Int) := by omega
      have hjN : j = N := by omega
      have hT : l.take j = l := by rw [hjN, ← HN.out, List.take_length]
      rw [hT] at KQ
      subst hjN
      clear hT
      have K_q := KQ
      have K_r := KR
      have q0 := (Blk.cell K_q.out 0).trans (rfl : _ = some (Value.int .i64 mode))
      have q1 := (Blk.cell K_q.out 1).trans (rfl : _ = some (Value.int .i64 run))
      have q2 := (Blk.cell K_q.out 2).trans (rfl : _ = some (Value.int .i64 (bitsL l : Int)))
      have q3 := (Blk.cell K_q.out 3).trans (rfl : _ = some (Value.int .i64 rej))
      have r0 := (Blk.cell K_r.out 0).trans (rfl : _ = some (Value.int .i64 0))
      have rf0 := Blk.frozen K_r.out 0
      have r1 := (Blk.cell K_r.out 1).trans (rfl : _ = some (Value.int .i64 0))
      have rf1 := Blk.frozen K_r.out 1
      have r2 := (Blk.cell K_r.out 2).trans (rfl : _ = some (Value.int .i64 0))
      have rf2 := Blk.frozen K_r.out 2
      have r3 := (Blk.cell K_r.out 3).trans (rfl : _ = some (Value.int .i64 0))
      have rf3 := Blk.frozen K_r.out 3
      go_wp2_with fail
      have rc0 := (Blk.cell ((((K_r.out.set_ 0 (.int .i64 mode)).set_ 1 (.int .i64 run)).set_ 2 (.int .i64 (bitsL l : Int))).set_ 3 (.int .i64 rej)) 0).trans (rfl : _ = some (Value.int .i64 mode))
      have rc1 := (Blk.cell ((((K_r.out.set_ 0 (.int .i64 mode)).set_ 1 (.int .i64 run)).set_ 2 (.int .i64 (bitsL l : Int))).set_ 3 (.int .i64 rej)) 1).trans (rfl : _ = some (Value.int .i64 run))
      have rc2 := (Blk.cell ((((K_r.out.set_ 0 (.int .i64 mode)).set_ 1 (.int .i64 run)).set_ 2 (.int .i64 (bitsL l : Int))).set_ 3 (.int .i64 rej)) 2).trans (rfl : _ = some (Value.int .i64 (bitsL l : Int)))
      have rc3 := (Blk.cell ((((K_r.out.set_ 0 (.int .i64 mode)).set_ 1 (.int .i64 run)).set_ 2 (.int .i64 (bitsL l : Int))).set_ 3 (.int .i64 rej)) 3).trans (rfl : _ = some (Value.int .i64 rej))
      exact bodyPost_ret (v := .agg #[.int .i64 mode, .int .i64 run, .int .i64 (bitsL l : Int), .int .i64 rej]) (by simp [results, Tryz.results56, go_sem, rc0, rc1, rc2, rc3]) rfl ⟨rfl, ((((HBR.out.setCell (p := ⟨(w.heap.size + 1), 0, none⟩) (by show w.heap.size ≤ (w.heap.size + 1); omega) (.int .i64 mode)).setCell (p := ⟨(w.heap.size + 1), 1, none⟩) (by show w.heap.size ≤ (w.heap.size + 1); omega) (.int .i64 run)).setCell (p := ⟨(w.heap.size + 1), 2, none⟩) (by show w.heap.size ≤ (w.heap.size + 1); omega) (.int .i64 (bitsL l : Int))).setCell (p := ⟨(w.heap.size + 1), 3, none⟩) (by show w.heap.size ≤ (w.heap.size + 1); omega) (.int .i64 rej))⟩
end Go.Proofs.YthmmgjieppknkaaGreatDoor
