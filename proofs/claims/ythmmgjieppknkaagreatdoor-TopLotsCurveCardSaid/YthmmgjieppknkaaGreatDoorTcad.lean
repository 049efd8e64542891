/- Contracts and plain laws that the statements of this seat share (part Tcad). -/
import Derived.Test.YthmmgjieppknkaaGreatDoorTcab
import Derived.Test.YthmmgjieppknkaaGreatDoorTcac
import Derived.Test.YthmmgjieppknkaaGreatDoorKtaa
import Derived.Test.YthmmgjieppknkaaGreatDoorKtab
import Derived.Test.YthmmgjieppknkaaGreatDoorKtac
import Derived.Test.YthmmgjieppknkaaGreatDoorKtad
import Derived.Test.YthmmgjieppknkaaGreatDoorKtag
import Derived.Test.YthmmgjieppknkaaGreatDoorKtai
import Derived.Test.YthmmgjieppknkaaGreatDoorKtak
import Derived.Test.YthmmgjieppknkaaGreatDoorKtal
import Derived.Test.YthmmgjieppknkaaGreatDoorKtam
import Derived.Test.YthmmgjieppknkaaGreatDoorKtas
import Derived.Test.YthmmgjieppknkaaGreatDoorKtat
import Derived.Test.YthmmgjieppknkaaGreatDoorKtau
import Derived.Test.YthmmgjieppknkaaGreatDoorKtax
import Derived.Deep.QuietTactic
import Derived.BigQuiet
namespace Go.Proofs.YthmmgjieppknkaaGreatDoor
open Go.RowKit MLab
def rOk (p : Int × Int) : Bool := decide (1 ≤ p.1 ∧ p.1 ≤ 1048576 ∧ 0 ≤ p.2 ∧ p.2 < p.1)
def ckS (S : Nat → Int × Int) : Int := if rOk (S 0) = true ∧ rOk (S 1) = true ∧ rOk (S 2) = true then 0 else 2
theorem ckS_bad {S : Nat → Int × Int} {j : Nat} (hj : j < 3) (h : ¬ (1 ≤ (S j).1 ∧ (S j).1 ≤ 1048576 ∧ 0 ≤ (S j).2 ∧ (S j).2 < (S j).1)) : ckS S = 2 := by
  have h2 : rOk (S j) = false := decide_eq_false h
  unfold ckS
  rw [if_neg]
  rintro ⟨a, b, c⟩
  rcases (by omega : j = 0 ∨ j = 1 ∨ j = 2) with rfl | rfl | rfl <;> simp_all
theorem ckS_ok {S : Nat → Int × Int} (h : ∀ j, j < 3 → 1 ≤ (S j).1 ∧ (S j).1 ≤ 1048576 ∧ 0 ≤ (S j).2 ∧ (S j).2 < (S j).1) : ckS S = 0 := by
  unfold ckS
  rw [if_pos ⟨decide_eq_true (h 0 (by omega)), decide_eq_true (h 1 (by omega)), decide_eq_true (h 2 (by omega))⟩]
theorem ckS_zero {S : Nat → Int × Int} (h : ckS S = 0) : ∀ j, j < 3 → 1 ≤ (S j).1 ∧ (S j).1 ≤ 1048576 ∧ 0 ≤ (S j).2 ∧ (S j).2 < (S j).1 := by
  unfold ckS at h
  split at h
  · rename_i h2
    obtain ⟨a, b, c⟩ := h2
    intro j hj
    rcases (by omega : j = 0 ∨ j = 1 ∨ j = 2) with rfl | rfl | rfl
    · exact of_decide_eq_true a
    · exact of_decide_eq_true b
    · exact of_decide_eq_true c
  · omega
set_option maxRecDepth 100000 in
set_option maxHeartbeats 2000000 in
theorem swck_any (w : World) (S : Nat → Int × Int) :
    Calls Tryz.prog 19 #[schV S] w fun e w' => e = .returned (.int .i64 (ckS S)) ∧ Below w.heap.size w w' := by
  have HI := hide (fun (j : Nat) (hj : j < 3) W => idx_rule S hj W)
  have HBJ := hide (fun j (hj : j < 3) h => ckS_bad (S := S) (j := j) hj h)
  have HOK := hide (fun h => ckS_ok (S := S) h)
  unfold schV at HI
  show Calls Tryz.prog 19 #[.agg #[.int .i64 (S 0).1, .int .i64 (S 0).2, .int .i64 (S 1).1, .int .i64 (S 1).2, .int .i64 (S 2).1, .int .i64 (S 2).2]] w _
  go_enter Tryz.func19, Tryz.ntmps19
  go_wp2_with fail
  go_loopg [7] 3 (fun z iv wr => ∃ j : Nat, iv = .int .i64 (j : Int) ∧ z + j = 3 ∧ Below w.heap.size w wr ∧ ∀ i, i < j → 1 ≤ (S i).1 ∧ (S i).1 ≤ 1048576 ∧ 0 ≤ (S i).2 ∧ (S i).2 < (S i).1)
  case atStart => exact ⟨0, rfl, rfl, (Below.refl _ _).alloc (Nat.le_refl _) _, fun i hi => absurd hi (by omega)⟩
  case round =>
    obtain ⟨j, rfl, hq, hb, hr⟩ := hrel
    have HQ := hide hq
    have HB := hide hb
    have HR := hide hr
    have hj : j ≤ 3 := by omega
    clear hq hb hr
    by_cases hlt : j < 3
    · have hji : (j : Int) < 3 := by omega
      have hx := HI.out j hlt
      have HBAD := hide (fun h => HBJ.out j hlt h)
      obtain ⟨p, hp⟩ : ∃ p, S j = p := ⟨_, rfl⟩
      obtain ⟨s, a⟩ := p
      rw [hp] at hx HBAD
      simp only at hx
      have HSJ := hide hp
      clear hp
      have hbs := HB.out.size
      by_cases c1 : s < 1
      · have hz := HBAD.out (by omega)
        have HZ := hide hz
        clear hz
        go_wp2_with fail
        go_ret
        rw [HZ.out]
        exact ⟨rfl, HB.out.alloc hbs _⟩
      · by_cases c2 : 1048576 < s
        · have hz := HBAD.out (by omega)
          have HZ := hide hz
          clear hz
          go_wp2_with fail
          go_ret
          rw [HZ.out]
          exact ⟨rfl, HB.out.alloc hbs _⟩
        · by_cases c3 : a < 0
          · have hz := HBAD.out (by omega)
            have HZ := hide hz
            clear hz
            go_wp2_with fail
            go_ret
            rw [HZ.out]
            exact ⟨rfl, HB.out.alloc hbs _⟩
          · by_cases c4 : s ≤ a
            · have hz := HBAD.out (by omega)
              have HZ := hide hz
              clear hz
              go_wp2_with fail
              go_ret
              rw [HZ.out]
              exact ⟨rfl, HB.out.alloc hbs _⟩
            · go_wp2_with fail
              go_roundg (gk - 1)
              case measure => have := HQ.out; omega
              case rel => exact ⟨j + 1, by go_num, by have := HQ.out; omega, HB.out.alloc hbs _, fun i hi => by
  rcases (by omega : i < j ∨ i = j) with h | h
  · exact HR.out i h
  · subst h; rw [HSJ.out]; exact ⟨by show 1 ≤ s; omega, by show s ≤ 1048576; omega, by show 0 ≤ a; omega, by show a < s; omega⟩⟩
    · have hji : ¬ (j : Int) < 3 := by omega
      have h3 : j = 3 := by omega
      subst h3
      go_wp2_with fail
      go_ret
      rw [HOK.out HR.out]
      exact ⟨rfl, HB.out⟩
end Go.Proofs.YthmmgjieppknkaaGreatDoor

namespace Go.Proofs.YthmmgjieppknkaaGreatDoor
open Go.RowKit MLab
def idxF (l : List Bool) : Int := match firstF l with | some k => (k : Int) | none => -1
theorem firstF_some {l : List Bool} {j : Nat} (h : ∀ i, i < j → l[i]? = some true) (hj : l[j]? = some false) : firstF l = some j := by
  induction l generalizing j with
  | nil => simp at hj
  | cons b l ih =>
    cases j with
    | zero =>
      obtain rfl : b = false := by simpa using hj
      rfl
    | succ j =>
      obtain rfl : b = true := by simpa using h 0 (by omega)
      rw [firstF, ih (j := j) (fun i hi => by simpa using h (i + 1) (by omega)) (by simpa using hj)]; rfl
theorem firstF_none {l : List Bool} (h : ∀ i, i < l.length → l[i]? = some true) : firstF l = none := by
  induction l with
  | nil => rfl
  | cons b l ih =>
    obtain rfl : b = true := by simpa using h 0 (by simp)
    rw [firstF, ih (fun i hi => by simpa using h (i + 1) (by simpa using hi))]; rfl
theorem firstF_lt {l : List Bool} {j : Nat} (h : firstF l = some j) : j < l.length ∧ l[j]? = some false ∧ ∀ i, i < j → l[i]? = some true := by
  induction l generalizing j with
  | nil => simp [firstF] at h
  | cons b l ih =>
    cases b with
    | false => simp [firstF] at h; subst h; exact ⟨by simp, by simp, fun i hi => absurd hi (by omega)⟩
    | true =>
      simp [firstF] at h
      obtain ⟨k, hk, rfl⟩ := h
      obtain ⟨h1, h2, h3⟩ := ih hk
      refine ⟨by simp; omega, by simpa using h2, fun i hi => ?_⟩
      cases i with
      | zero => simp
      | succ i => simpa using h3 i (by omega)
theorem firstF_no {l : List Bool} (h : firstF l = none) : ∀ i, i < l.length → l[i]? = some true := by
  induction l with
  | nil => intro i hi; simp at hi
  | cons b l ih =>
    cases b with
    | false => simp [firstF] at h
    | true =>
      simp [firstF] at h
      intro i hi
      cases i with
      | zero => simp
      | succ i => simpa using ih h i (by simpa using hi)
theorem idxF_some {l : List Bool} {k : Nat} (h : firstF l = some k) : idxF l = (k : Int) := by unfold idxF; rw [h]
theorem idxF_none {l : List Bool} (h : firstF l = none) : idxF l = -1 := by unfold idxF; rw [h]
theorem contains_idx (l : List Bool) : l.contains false = decide (0 ≤ idxF l) := by
  cases h : firstF l with
  | none =>
    rw [idxF_none h]
    have := firstF_no h
    rw [show l.contains false = false from by
      rw [Bool.eq_false_iff]; intro hc
      obtain ⟨i, hi⟩ := List.mem_iff_getElem?.1 (List.contains_iff_mem.1 hc)
      have := this i (List.getElem?_eq_some_iff.1 hi).1
      rw [hi] at this; cases this]
    rfl
  | some k =>
    rw [idxF_some h]
    have := (firstF_lt h).2.1
    rw [show l.contains false = true from List.contains_iff_mem.2 (List.mem_of_getElem? this)]
    exact (decide_eq_true (by omega)).symm
theorem bcl_drop (l : List Bool) (k : Nat) : bcl (l.drop k) = (bcl l).drop k := by simp [bcl, List.map_drop]
set_option maxRecDepth 100000 in
set_option maxHeartbeats 2000000 in
theorem sidx_any (w : World) (v : Value) (l : List Bool) (hv : SlL w v (bcl l)) (hl : l.length ≤ 1000000) :
    Calls Tryz.prog 93 #[v, .bool false] w fun e w' => e = .returned (.int .i64 (idxF l)) ∧ Below w.heap.size w w' := by
  obtain ⟨A, c, rfl, -, hc⟩ := hv
  rw [bcl_len] at hc ⊢
  have HC := hide hc
  have HS := hide (fun j h1 h2 => idxF_some (firstF_some (l := l) (j := j) h1 h2))
  have HN := hide (fun h => idxF_none (firstF_none (l := l) h))
  obtain ⟨N, hN⟩ : ∃ N, l.length = N := ⟨_, rfl⟩
  rw [hN] at HC HN hl ⊢
  have HNN := hide hN
  clear hc hN
  go_enter Tryz.func93, Tryz.ntmps93
  go_wp2_with fail
  go_loopg [8] N (fun z iv wr => ∃ j : Nat, iv = .int .i64 (j : Int) ∧ z + j = N ∧ Below w.heap.size w wr ∧ ∀ i, i < j → l[i]? = some true)
  case atStart => exact ⟨0, rfl, rfl, Below.refl _ _, fun i hi => absurd hi (by omega)⟩
  case round =>
    obtain ⟨j, rfl, hq, hb, hr⟩ := hrel
    have HQ := hide hq
    have HB := hide hb
    have HR := hide hr
    have hj : j ≤ N := by omega
    clear hq hb hr
    by_cases hlt : j < N
    · have hji : (j : Int) < (N : Int) := by omega
      have hj0 : (0 : Int) ≤ (j : Int) := by omega
      obtain ⟨g, og, rfl, hcell⟩ := HC.out (by omega)
      obtain ⟨b, hx⟩ : ∃ b, l[j]? = some b := ⟨_, List.getElem?_eq_getElem (by rw [HNN.out]; exact hlt)⟩
      have a := hcell j _ (bcl_at hx)
      have a2 := (bcell HB.out _ _ (block_lt_of_cell a)).trans a
      have HX := hide hx
      clear a hcell hx HC
      cases b with
      | false =>
        go_wp2_with fail
        go_ret
        rw [HS.out j HR.out HX.out]
        exact ⟨rfl, HB.out⟩
      | true =>
        go_wp2_with fail
        go_roundg (gk - 1)
        case measure => have := HQ.out; omega
        case rel => exact ⟨j + 1, by go_num, by have := HQ.out; omega, HB.out, fun i hi => by
          rcases (by omega : i < j ∨ i = j) with h | h
          · exact HR.out i h
          · subst h; exact HX.out⟩
    · have hji : ¬ (j : Int) < (N : Int) := by omega
      have hjN : j = N := by omega
      subst hjN
      go_wp2_with fail
      go_ret
      rw [HN.out HR.out]
      exact ⟨rfl, HB.out⟩
set_option maxRecDepth 100000 in
set_option maxHeartbeats 1000000 in
theorem scon_any (w : World) (v : Value) (l : List Bool) (hv : SlL w v (bcl l)) (hl : l.length ≤ 1000000) :
    Calls Tryz.prog 94 #[v, .bool false] w fun e w' => e = .returned (.bool (l.contains false)) ∧ Below w.heap.size w w' := by
  have HI := hide (sidx_any w v l hv hl)
  have HC := hide (contains_idx l)
  obtain ⟨z, hz⟩ : ∃ z, idxF l = z := ⟨_, rfl⟩
  rw [hz] at HI HC
  obtain ⟨b, hb⟩ : ∃ b, l.contains false = b := ⟨_, rfl⟩
  rw [hb] at HC ⊢
  clear hz hb hv
  by_cases h0 : 0 ≤ z
  · have hb : b = true := by rw [HC.out]; exact decide_eq_true h0
    subst hb
    clear HC
    go_enter Tryz.func94, Tryz.ntmps94
    go_wp2_with fail
    refine HI.out.mono ?_
    rintro e w1 ⟨rfl, hb⟩
    have HB := hide hb
    clear hb
    go_wp2_with fail
    go_ret
    exact ⟨rfl, HB.out⟩
  · have hb : b = false := by rw [HC.out]; exact decide_eq_false h0
    have hd : decide (0 ≤ z) = false := decide_eq_false h0
    subst hb
    clear HC
    go_enter Tryz.func94, Tryz.ntmps94
    go_wp2_with fail
    refine HI.out.mono ?_
    rintro e w1 ⟨rfl, hb⟩
    have HB := hide hb
    clear hb
    go_wp2_with fail
    go_ret
    exact ⟨rfl, HB.out⟩
set_option maxRecDepth 100000 in
set_option maxHeartbeats 2000000 in
theorem swfits_any (w : World) (mode run rej : Int) (v : Value) (l : List Bool) (hv : SlL w v (bcl l)) (hl : l.length ≤ 4) :
    Calls Tryz.prog 52 #[.agg #[.int .i64 mode, .int .i64 run, v, .int .i64 rej]] w fun e w' => e = .returned (.bool (fitsI mode run l)) ∧ Below w.heap.size w w' := by
  have HV := hide hv
  obtain ⟨A, c, rfl, -⟩ := hv
  rw [bcl_len] at HV ⊢
  obtain ⟨N, hN⟩ : ∃ N, l.length = N := ⟨_, rfl⟩
  have HIX := hide (fun (W : World) (h : SlL W (.slice A N c) (bcl l)) => sidx_any W _ l h (by omega))
  have HCO := hide (fun (W : World) (v : Value) (m : List Bool) (h : SlL W v (bcl m)) (hm : m.length ≤ 4) => scon_any W v m h (by omega))
  rw [hN] at HV hl ⊢
  by_cases h0 : mode = 0
  · subst h0
    cases hf : firstF l with
    | none =>
      have HF := hide hf
      have hi := idxF_none hf
      rw [hi] at HIX
      clear hi
      by_cases h4 : N < 4
      · have h4i : (N : Int) < 4 := by omega
        by_cases hq : run = (N : Int)
        · have hr : fitsI 0 run l = true := by
            unfold fitsI
            rw [if_neg (by simp), HF.out]
            simp only [hN]
            rw [if_pos (by omega)]
            exact decide_eq_true (by omega)
          rw [hr]
          clear hr hf
          have hd : (run == (N : Int)) = true := by rw [hq]; exact beq_self_eq_true _
          have HN := hide hN
          clear hN
          have HQ := hide hq
          clear hq
          have HB := allocs_below w [.cells #[.int .i64 0, .int .i64 run, .slice A N c, .int .i64 rej] 29]
          have K_p : Blk (allocs w [.cells #[.int .i64 0, .int .i64 run, .slice A N c, .int .i64 rej] 29]) (w.heap.size + 0) 29 #[.int .i64 0, .int .i64 run, .slice A N c, .int .i64 rej] := allocs_at w [.cells #[.int .i64 0, .int .i64 run, .slice A N c, .int .i64 rej] 29] 0 rfl
          unfold allocs at HB K_p
          simp only [List.foldl_cons, List.foldl_nil] at HB K_p
          rw [Nat.add_zero] at K_p
          go_enter Tryz.func52, Tryz.ntmps52
          go_upto_region 1 with (fail)
          generalize (w.alloc (.cells #[.int .i64 0, .int .i64 run, .slice A N c, .int .i64 rej] 29)) = w0 at *
          replace K_p := hide K_p
          replace HB := hide HB
          have p0 := (Blk.cell K_p.out 0).trans (rfl : _ = some (Value.int .i64 0))
          have p1 := (Blk.cell K_p.out 1).trans (rfl : _ = some (Value.int .i64 run))
          have p2 := (Blk.cell K_p.out 2).trans (rfl : _ = some (Value.slice A N c))
          have p3 := (Blk.cell K_p.out 3).trans (rfl : _ = some (Value.int .i64 rej))
          go_wp2_with fail
          refine (HIX.out _ (HV.out.below HB.out)).mono ?_
          rintro e w1 ⟨rfl, hb⟩
          clear p0 p1 p2 p3
          replace K_p := hide (Blk.below K_p.out hb (Blk.lt K_p.out))
          replace HB := hide (HB.out.trans (hb.mono HB.out.size))
          clear hb
          have p0 := (Blk.cell K_p.out 0).trans (rfl : _ = some (Value.int .i64 0))
          have p1 := (Blk.cell K_p.out 1).trans (rfl : _ = some (Value.int .i64 run))
          have p2 := (Blk.cell K_p.out 2).trans (rfl : _ = some (Value.slice A N c))
          have p3 := (Blk.cell K_p.out 3).trans (rfl : _ = some (Value.int .i64 rej))
          go_wp2_with fail
          go_ret
          exact ⟨rfl, HB.out⟩
        · have hr : fitsI 0 run l = false := by
            unfold fitsI
            rw [if_neg (by simp), HF.out]
            simp only [hN]
            rw [if_pos (by omega)]
            exact decide_eq_false (by omega)
          rw [hr]
          clear hr hf
          have hd : (run == (N : Int)) = false := by simpa using hq
          have HN := hide hN
          clear hN
          have HQ := hide hq
          clear hq
          have HB := allocs_below w [.cells #[.int .i64 0, .int .i64 run, .slice A N c, .int .i64 rej] 29]
          have K_p : Blk (allocs w [.cells #[.int .i64 0, .int .i64 run, .slice A N c, .int .i64 rej] 29]) (w.heap.size + 0) 29 #[.int .i64 0, .int .i64 run, .slice A N c, .int .i64 rej] := allocs_at w [.cells #[.int .i64 0, .int .i64 run, .slice A N c, .int .i64 rej] 29] 0 rfl
          unfold allocs at HB K_p
          simp only [List.foldl_cons, List.foldl_nil] at HB K_p
          rw [Nat.add_zero] at K_p
          go_enter Tryz.func52, Tryz.ntmps52
          go_upto_region 1 with (fail)
          generalize (w.alloc (.cells #[.int .i64 0, .int .i64 run, .slice A N c, .int .i64 rej] 29)) = w0 at *
          replace K_p := hide K_p
          replace HB := hide HB
          have p0 := (Blk.cell K_p.out 0).trans (rfl : _ = some (Value.int .i64 0))
          have p1 := (Blk.cell K_p.out 1).trans (rfl : _ = some (Value.int .i64 run))
          have p2 := (Blk.cell K_p.out 2).trans (rfl : _ = some (Value.slice A N c))
          have p3 := (Blk.cell K_p.out 3).trans (rfl : _ = some (Value.int .i64 rej))
          go_wp2_with fail
          refine (HIX.out _ (HV.out.below HB.out)).mono ?_
          rintro e w1 ⟨rfl, hb⟩
          clear p0 p1 p2 p3
          replace K_p := hide (Blk.below K_p.out hb (Blk.lt K_p.out))
          replace HB := hide (HB.out.trans (hb.mono HB.out.size))
          clear hb
          have p0 := (Blk.cell K_p.out 0).trans (rfl : _ = some (Value.int .i64 0))
          have p1 := (Blk.cell K_p.out 1).trans (rfl : _ = some (Value.int .i64 run))
          have p2 := (Blk.cell K_p.out 2).trans (rfl : _ = some (Value.slice A N c))
          have p3 := (Blk.cell K_p.out 3).trans (rfl : _ = some (Value.int .i64 rej))
          go_wp2_with fail
          go_ret
          exact ⟨rfl, HB.out⟩
      · have h4i : ¬ (N : Int) < 4 := by omega
        by_cases hq : 4 ≤ run
        · have hr : fitsI 0 run l = true := by
            unfold fitsI
            rw [if_neg (by simp), HF.out]
            simp only [hN]
            rw [if_neg (by omega)]
            exact decide_eq_true (by omega)
          rw [hr]
          clear hr hf
          have HN := hide hN
          clear hN
          have HB := allocs_below w [.cells #[.int .i64 0, .int .i64 run, .slice A N c, .int .i64 rej] 29]
          have K_p : Blk (allocs w [.cells #[.int .i64 0, .int .i64 run, .slice A N c, .int .i64 rej] 29]) (w.heap.size + 0) 29 #[.int .i64 0, .int .i64 run, .slice A N c, .int .i64 rej] := allocs_at w [.cells #[.int .i64 0, .int .i64 run, .slice A N c, .int .i64 rej] 29] 0 rfl
          unfold allocs at HB K_p
          simp only [List.foldl_cons, List.foldl_nil] at HB K_p
          rw [Nat.add_zero] at K_p
          go_enter Tryz.func52, Tryz.ntmps52
          go_upto_region 1 with (fail)
          generalize (w.alloc (.cells #[.int .i64 0, .int .i64 run, .slice A N c, .int .i64 rej] 29)) = w0 at *
          replace K_p := hide K_p
          replace HB := hide HB
          have p0 := (Blk.cell K_p.out 0).trans (rfl : _ = some (Value.int .i64 0))
          have p1 := (Blk.cell K_p.out 1).trans (rfl : _ = some (Value.int .i64 run))
          have p2 := (Blk.cell K_p.out 2).trans (rfl : _ = some (Value.slice A N c))
          have p3 := (Blk.cell K_p.out 3).trans (rfl : _ = some (Value.int .i64 rej))
          go_wp2_with fail
          refine (HIX.out _ (HV.out.below HB.out)).mono ?_
          rintro e w1 ⟨rfl, hb⟩
          clear p0 p1 p2 p3
          replace K_p := hide (Blk.below K_p.out hb (Blk.lt K_p.out))
          replace HB := hide (HB.out.trans (hb.mono HB.out.size))
          clear hb
          have p0 := (Blk.cell K_p.out 0).trans (rfl : _ = some (Value.int .i64 0))
          have p1 := (Blk.cell K_p.out 1).trans (rfl : _ = some (Value.int .i64 run))
          have p2 := (Blk.cell K_p.out 2).trans (rfl : _ = some (Value.slice A N c))
          have p3 := (Blk.cell K_p.out 3).trans (rfl : _ = some (Value.int .i64 rej))
          go_wp2_with fail
          go_ret
          exact ⟨rfl, HB.out⟩
        · have hr : fitsI 0 run l = false := by
            unfold fitsI
            rw [if_neg (by simp), HF.out]
            simp only [hN]
            rw [if_neg (by omega)]
            exact decide_eq_false (by omega)
          rw [hr]
          clear hr hf
          have hd : decide (4 ≤ run) = false := decide_eq_false hq
          have HN := hide hN
          clear hN
          have HB := allocs_below w [.cells #[.int .i64 0, .int .i64 run, .slice A N c, .int .i64 rej] 29]
          have K_p : Blk (allocs w [.cells #[.int .i64 0, .int .i64 run, .slice A N c, .int .i64 rej] 29]) (w.heap.size + 0) 29 #[.int .i64 0, .int .i64 run, .slice A N c, .int .i64 rej] := allocs_at w [.cells #[.int .i64 0, .int .i64 run, .slice A N c, .int .i64 rej] 29] 0 rfl
          unfold allocs at HB K_p
          simp only [List.foldl_cons, List.foldl_nil] at HB K_p
          rw [Nat.add_zero] at K_p
          go_enter Tryz.func52, Tryz.ntmps52
          go_upto_region 1 with (fail)
          generalize (w.alloc (.cells #[.int .i64 0, .int .i64 run, .slice A N c, .int .i64 rej] 29)) = w0 at *
          replace K_p := hide K_p
          replace HB := hide HB
          have p0 := (Blk.cell K_p.out 0).trans (rfl : _ = some (Value.int .i64 0))
          have p1 := (Blk.cell K_p.out 1).trans (rfl : _ = some (Value.int .i64 run))
          have p2 := (Blk.cell K_p.out 2).trans (rfl : _ = some (Value.slice A N c))
          have p3 := (Blk.cell K_p.out 3).trans (rfl : _ = some (Value.int .i64 rej))
          go_wp2_with fail
          refine (HIX.out _ (HV.out.below HB.out)).mono ?_
          rintro e w1 ⟨rfl, hb⟩
          clear p0 p1 p2 p3
          replace K_p := hide (Blk.below K_p.out hb (Blk.lt K_p.out))
          replace HB := hide (HB.out.trans (hb.mono HB.out.size))
          clear hb
          have p0 := (Blk.cell K_p.out 0).trans (rfl : _ = some (Value.int .i64 0))
          have p1 := (Blk.cell K_p.out 1).trans (rfl : _ = some (Value.int .i64 run))
          have p2 := (Blk.cell K_p.out 2).trans (rfl : _ = some (Value.slice A N c))
          have p3 := (Blk.cell K_p.out 3).trans (rfl : _ = some (Value.int .i64 rej))
          go_wp2_with fail
          go_ret
          exact ⟨rfl, HB.out⟩
    | some k =>
      have HF := hide hf
      have hi := idxF_some hf
      rw [hi] at HIX
      obtain ⟨hkN, -, -⟩ := firstF_lt hf
      rw [hN] at hkN
      clear hi
      obtain ⟨D, hD⟩ : ∃ D, (l.drop (k + 1)).contains false = D := ⟨_, rfl⟩
      obtain ⟨k1, hk1⟩ : ∃ d, k + 1 = d := ⟨_, rfl⟩
      cases D with
      | true =>
        by_cases hck : c = k1
        · replace hck := hck.symm
          subst hck
          have hr : fitsI 0 run l = false := by
            unfold fitsI
            rw [if_neg (by simp), HF.out]
            simp only [hN, hD]
            rfl
          rw [hr]
          have hw1 : IntKind.i64.wrap ((k : Int) + 1) = (k1 : Int) := (IntWalk.i64_in _ (by omega)).trans (by omega)
          have HC2 := hide (fun (W : World) (v : Value) (h : SlL W v (bcl (l.drop (k + 1)))) => HCO.out W v (l.drop (k + 1)) h (by rw [List.length_drop, hN]; omega))
          rw [hD, hk1] at HC2
          have hs1 : (k1 : Int) ≤ (N : Int) := by omega
          have hs2 : k1 ≤ N := by omega
          have hs0 : (0 : Int) ≤ (k1 : Int) := by omega
          have HK1 := hide hk1
          have hk0 : (0 : Int) ≤ (k : Int) := by omega
          have HN := hide hN
          have HD := hide hD
          clear hN hD hr hf hk1
          have HB := allocs_below w [.cells #[.int .i64 0, .int .i64 run, .slice A N k1, .int .i64 rej] 29]
          have K_p : Blk (allocs w [.cells #[.int .i64 0, .int .i64 run, .slice A N k1, .int .i64 rej] 29]) (w.heap.size + 0) 29 #[.int .i64 0, .int .i64 run, .slice A N k1, .int .i64 rej] := allocs_at w [.cells #[.int .i64 0, .int .i64 run, .slice A N k1, .int .i64 rej] 29] 0 rfl
          unfold allocs at HB K_p
          simp only [List.foldl_cons, List.foldl_nil] at HB K_p
          rw [Nat.add_zero] at K_p
          go_enter Tryz.func52, Tryz.ntmps52
          go_upto_region 1 with (fail)
          generalize (w.alloc (.cells #[.int .i64 0, .int .i64 run, .slice A N k1, .int .i64 rej] 29)) = w0 at *
          replace K_p := hide K_p
          replace HB := hide HB
          have p0 := (Blk.cell K_p.out 0).trans (rfl : _ = some (Value.int .i64 0))
          have p1 := (Blk.cell K_p.out 1).trans (rfl : _ = some (Value.int .i64 run))
          have p2 := (Blk.cell K_p.out 2).trans (rfl : _ = some (Value.slice A N k1))
          have p3 := (Blk.cell K_p.out 3).trans (rfl : _ = some (Value.int .i64 rej))
          go_wp2_with fail
          refine (HIX.out _ (HV.out.below HB.out)).mono ?_
          rintro e w1 ⟨rfl, hb⟩
          clear p0 p1 p2 p3
          replace K_p := hide (Blk.below K_p.out hb (Blk.lt K_p.out))
          replace HB := hide (HB.out.trans (hb.mono HB.out.size))
          clear hb
          have p0 := (Blk.cell K_p.out 0).trans (rfl : _ = some (Value.int .i64 0))
          have p1 := (Blk.cell K_p.out 1).trans (rfl : _ = some (Value.int .i64 run))
          have p2 := (Blk.cell K_p.out 2).trans (rfl : _ = some (Value.slice A N k1))
          have p3 := (Blk.cell K_p.out 3).trans (rfl : _ = some (Value.int .i64 rej))
          go_wp2_with fail
          refine (HC2.out _ _ ?slk).mono ?_
          case slk => rw [bcl_drop]; have h := (HV.out.below HB.out).drop_cap hs2; rw [Nat.sub_self] at h; exact h
          rintro e w2 ⟨rfl, hb⟩
          clear p0 p1 p2 p3
          replace K_p := hide (Blk.below K_p.out hb (Blk.lt K_p.out))
          replace HB := hide (HB.out.trans (hb.mono HB.out.size))
          clear hb
          have p0 := (Blk.cell K_p.out 0).trans (rfl : _ = some (Value.int .i64 0))
          have p1 := (Blk.cell K_p.out 1).trans (rfl : _ = some (Value.int .i64 run))
          have p2 := (Blk.cell K_p.out 2).trans (rfl : _ = some (Value.slice A N k1))
          have p3 := (Blk.cell K_p.out 3).trans (rfl : _ = some (Value.int .i64 rej))
          go_wp2_with fail
          go_ret
          exact ⟨rfl, HB.out⟩
        · have hr : fitsI 0 run l = false := by
            unfold fitsI
            rw [if_neg (by simp), HF.out]
            simp only [hN, hD]
            rfl
          rw [hr]
          have hw1 : IntKind.i64.wrap ((k : Int) + 1) = (k1 : Int) := (IntWalk.i64_in _ (by omega)).trans (by omega)
          have HC2 := hide (fun (W : World) (v : Value) (h : SlL W v (bcl (l.drop (k + 1)))) => HCO.out W v (l.drop (k + 1)) h (by rw [List.length_drop, hN]; omega))
          rw [hD, hk1] at HC2
          have hs1 : (k1 : Int) ≤ (N : Int) := by omega
          have hs2 : k1 ≤ N := by omega
          have hs0 : (0 : Int) ≤ (k1 : Int) := by omega
          have HK1 := hide hk1
          have hk0 : (0 : Int) ≤ (k : Int) := by omega
          have HN := hide hN
          have HD := hide hD
          clear hN hD hr hf hk1
          have HB := allocs_below w [.cells #[.int .i64 0, .int .i64 run, .slice A N c, .int .i64 rej] 29]
          have K_p : Blk (allocs w [.cells #[.int .i64 0, .int .i64 run, .slice A N c, .int .i64 rej] 29]) (w.heap.size + 0) 29 #[.int .i64 0, .int .i64 run, .slice A N c, .int .i64 rej] := allocs_at w [.cells #[.int .i64 0, .int .i64 run, .slice A N c, .int .i64 rej] 29] 0 rfl
          unfold allocs at HB K_p
          simp only [List.foldl_cons, List.foldl_nil] at HB K_p
          rw [Nat.add_zero] at K_p
          go_enter Tryz.func52, Tryz.ntmps52
          go_upto_region 1 with (fail)
          generalize (w.alloc (.cells #[.int .i64 0, .int .i64 run, .slice A N c, .int .i64 rej] 29)) = w0 at *
          replace K_p := hide K_p
          replace HB := hide HB
          have p0 := (Blk.cell K_p.out 0).trans (rfl : _ = some (Value.int .i64 0))
          have p1 := (Blk.cell K_p.out 1).trans (rfl : _ = some (Value.int .i64 run))
          have p2 := (Blk.cell K_p.out 2).trans (rfl : _ = some (Value.slice A N c))
          have p3 := (Blk.cell K_p.out 3).trans (rfl : _ = some (Value.int .i64 rej))
          go_wp2_with fail
          refine (HIX.out _ (HV.out.below HB.out)).mono ?_
          rintro e w1 ⟨rfl, hb⟩
          clear p0 p1 p2 p3
          replace K_p := hide (Blk.below K_p.out hb (Blk.lt K_p.out))
          replace HB := hide (HB.out.trans (hb.mono HB.out.size))
          clear hb
          have p0 := (Blk.cell K_p.out 0).trans (rfl : _ = some (Value.int .i64 0))
          have p1 := (Blk.cell K_p.out 1).trans (rfl : _ = some (Value.int .i64 run))
          have p2 := (Blk.cell K_p.out 2).trans (rfl : _ = some (Value.slice A N c))
          have p3 := (Blk.cell K_p.out 3).trans (rfl : _ = some (Value.int .i64 rej))
          go_wp2_with fail
          refine (HC2.out _ _ ?slk).mono ?_
          case slk => rw [bcl_drop]; have h := (HV.out.below HB.out).drop hs2; exact h
          rintro e w2 ⟨rfl, hb⟩
          clear p0 p1 p2 p3
          replace K_p := hide (Blk.below K_p.out hb (Blk.lt K_p.out))
          replace HB := hide (HB.out.trans (hb.mono HB.out.size))
          clear hb
          have p0 := (Blk.cell K_p.out 0).trans (rfl : _ = some (Value.int .i64 0))
          have p1 := (Blk.cell K_p.out 1).trans (rfl : _ = some (Value.int .i64 run))
          have p2 := (Blk.cell K_p.out 2).trans (rfl : _ = some (Value.slice A N c))
          have p3 := (Blk.cell K_p.out 3).trans (rfl : _ = some (Value.int .i64 rej))
          go_wp2_with fail
          go_ret
          exact ⟨rfl, HB.out⟩
      | false =>
        by_cases hq : run = (N : Int) - 1 - (k : Int)
        · by_cases hck : c = k1
          · replace hck := hck.symm
            subst hck
            have hr : fitsI 0 run l = true := by
              unfold fitsI
              rw [if_neg (by simp), HF.out]
              simp only [hN, hD]
              rw [decide_eq_true (by omega)]; rfl
            rw [hr]
            have hw1 : IntKind.i64.wrap ((k : Int) + 1) = (k1 : Int) := (IntWalk.i64_in _ (by omega)).trans (by omega)
            have HC2 := hide (fun (W : World) (v : Value) (h : SlL W v (bcl (l.drop (k + 1)))) => HCO.out W v (l.drop (k + 1)) h (by rw [List.length_drop, hN]; omega))
            rw [hD, hk1] at HC2
            have hw2 : IntKind.i64.wrap (IntKind.i64.wrap ((N : Int) - 1) - (k : Int)) = (N : Int) - 1 - (k : Int) := by rw [IntWalk.i64_in ((N : Int) - 1) (by omega)]; exact IntWalk.i64_in _ (by omega)
            have hw3 : IntKind.i64.wrap ((N : Int) - 1) = (N : Int) - 1 := IntWalk.i64_in _ (by omega)
            have hw4 : IntKind.i64.wrap ((N : Int) - 1 - (k : Int)) = (N : Int) - 1 - (k : Int) := IntWalk.i64_in _ (by omega)
            have hd : (run == (N : Int) - 1 - (k : Int)) = true := by rw [hq]; exact beq_self_eq_true _
            have HQ := hide hq
            clear hq
            have hs1 : (k1 : Int) ≤ (N : Int) := by omega
            have hs2 : k1 ≤ N := by omega
            have hs0 : (0 : Int) ≤ (k1 : Int) := by omega
            have HK1 := hide hk1
            have hk0 : (0 : Int) ≤ (k : Int) := by omega
            have HN := hide hN
            have HD := hide hD
            clear hN hD hr hf hk1
            have HB := allocs_below w [.cells #[.int .i64 0, .int .i64 run, .slice A N k1, .int .i64 rej] 29]
            have K_p : Blk (allocs w [.cells #[.int .i64 0, .int .i64 run, .slice A N k1, .int .i64 rej] 29]) (w.heap.size + 0) 29 #[.int .i64 0, .int .i64 run, .slice A N k1, .int .i64 rej] := allocs_at w [.cells #[.int .i64 0, .int .i64 run, .slice A N k1, .int .i64 rej] 29] 0 rfl
            unfold allocs at HB K_p
            simp only [List.foldl_cons, List.foldl_nil] at HB K_p
            rw [Nat.add_zero] at K_p
            go_enter Tryz.func52, Tryz.ntmps52
            go_upto_region 1 with (fail)
            generalize (w.alloc (.cells #[.int .i64 0, .int .i64 run, .slice A N k1, .int .i64 rej] 29)) = w0 at *
            replace K_p := hide K_p
            replace HB := hide HB
            have p0 := (Blk.cell K_p.out 0).trans (rfl : _ = some (Value.int .i64 0))
            have p1 := (Blk.cell K_p.out 1).trans (rfl : _ = some (Value.int .i64 run))
            have p2 := (Blk.cell K_p.out 2).trans (rfl : _ = some (Value.slice A N k1))
            have p3 := (Blk.cell K_p.out 3).trans (rfl : _ = some (Value.int .i64 rej))
            go_wp2_with fail
            refine (HIX.out _ (HV.out.below HB.out)).mono ?_
            rintro e w1 ⟨rfl, hb⟩
            clear p0 p1 p2 p3
            replace K_p := hide (Blk.below K_p.out hb (Blk.lt K_p.out))
            replace HB := hide (HB.out.trans (hb.mono HB.out.size))
            clear hb
            have p0 := (Blk.cell K_p.out 0).trans (rfl : _ = some (Value.int .i64 0))
            have p1 := (Blk.cell K_p.out 1).trans (rfl : _ = some (Value.int .i64 run))
            have p2 := (Blk.cell K_p.out 2).trans (rfl : _ = some (Value.slice A N k1))
            have p3 := (Blk.cell K_p.out 3).trans (rfl : _ = some (Value.int .i64 rej))
            go_wp2_with fail
            refine (HC2.out _ _ ?slk).mono ?_
            case slk => rw [bcl_drop]; have h := (HV.out.below HB.out).drop_cap hs2; rw [Nat.sub_self] at h; exact h
            rintro e w2 ⟨rfl, hb⟩
            clear p0 p1 p2 p3
            replace K_p := hide (Blk.below K_p.out hb (Blk.lt K_p.out))
            replace HB := hide (HB.out.trans (hb.mono HB.out.size))
            clear hb
            have p0 := (Blk.cell K_p.out 0).trans (rfl : _ = some (Value.int .i64 0))
            have p1 := (Blk.cell K_p.out 1).trans (rfl : _ = some (Value.int .i64 run))
            have p2 := (Blk.cell K_p.out 2).trans (rfl : _ = some (Value.slice A N k1))
            have p3 := (Blk.cell K_p.out 3).trans (rfl : _ = some (Value.int .i64 rej))
            go_wp2_with fail
            go_ret
            exact ⟨rfl, HB.out⟩
          · have hr : fitsI 0 run l = true := by
              unfold fitsI
              rw [if_neg (by simp), HF.out]
              simp only [hN, hD]
              rw [decide_eq_true (by omega)]; rfl
            rw [hr]
            have hw1 : IntKind.i64.wrap ((k : Int) + 1) = (k1 : Int) := (IntWalk.i64_in _ (by omega)).trans (by omega)
            have HC2 := hide (fun (W : World) (v : Value) (h : SlL W v (bcl (l.drop (k + 1)))) => HCO.out W v (l.drop (k + 1)) h (by rw [List.length_drop, hN]; omega))
            rw [hD, hk1] at HC2
            have hw2 : IntKind.i64.wrap (IntKind.i64.wrap ((N : Int) - 1) - (k : Int)) = (N : Int) - 1 - (k : Int) := by rw [IntWalk.i64_in ((N : Int) - 1) (by omega)]; exact IntWalk.i64_in _ (by omega)
            have hw3 : IntKind.i64.wrap ((N : Int) - 1) = (N : Int) - 1 := IntWalk.i64_in _ (by omega)
            have hw4 : IntKind.i64.wrap ((N : Int) - 1 - (k : Int)) = (N : Int) - 1 - (k : Int) := IntWalk.i64_in _ (by omega)
            have hd : (run == (N : Int) - 1 - (k : Int)) = true := by rw [hq]; exact beq_self_eq_true _
            have HQ := hide hq
            clear hq
            have hs1 : (k1 : Int) ≤ (N : Int) := by omega
            have hs2 : k1 ≤ N := by omega
            have hs0 : (0 : Int) ≤ (k1 : Int) := by omega
            have HK1 := hide hk1
            have hk0 : (0 : Int) ≤ (k : Int) := by omega
            have HN := hide hN
            have HD := hide hD
            clear hN hD hr hf hk1
            have HB := allocs_below w [.cells #[.int .i64 0, .int .i64 run, .slice A N c, .int .i64 rej] 29]
            have K_p : Blk (allocs w [.cells #[.int .i64 0, .int .i64 run, .slice A N c, .int .i64 rej] 29]) (w.heap.size + 0) 29 #[.int .i64 0, .int .i64 run, .slice A N c, .int .i64 rej] := allocs_at w [.cells #[.int .i64 0, .int .i64 run, .slice A N c, .int .i64 rej] 29] 0 rfl
            unfold allocs at HB K_p
            simp only [List.foldl_cons, List.foldl_nil] at HB K_p
            rw [Nat.add_zero] at K_p
            go_enter Tryz.func52, Tryz.ntmps52
            go_upto_region 1 with (fail)
            generalize (w.alloc (.cells #[.int .i64 0, .int .i64 run, .slice A N c, .int .i64 rej] 29)) = w0 at *
            replace K_p := hide K_p
            replace HB := hide HB
            have p0 := (Blk.cell K_p.out 0).trans (rfl : _ = some (Value.int .i64 0))
            have p1 := (Blk.cell K_p.out 1).trans (rfl : _ = some (Value.int .i64 run))
            have p2 := (Blk.cell K_p.out 2).trans (rfl : _ = some (Value.slice A N c))
            have p3 := (Blk.cell K_p.out 3).trans (rfl : _ = some (Value.int .i64 rej))
            go_wp2_with fail
            refine (HIX.out _ (HV.out.below HB.out)).mono ?_
            rintro e w1 ⟨rfl, hb⟩
            clear p0 p1 p2 p3
            replace K_p := hide (Blk.below K_p.out hb (Blk.lt K_p.out))
            replace HB := hide (HB.out.trans (hb.mono HB.out.size))
            clear hb
            have p0 := (Blk.cell K_p.out 0).trans (rfl : _ = some (Value.int .i64 0))
            have p1 := (Blk.cell K_p.out 1).trans (rfl : _ = some (Value.int .i64 run))
            have p2 := (Blk.cell K_p.out 2).trans (rfl : _ = some (Value.slice A N c))
            have p3 := (Blk.cell K_p.out 3).trans (rfl : _ = some (Value.int .i64 rej))
            go_wp2_with fail
            refine (HC2.out _ _ ?slk).mono ?_
            case slk => rw [bcl_drop]; have h := (HV.out.below HB.out).drop hs2; exact h
            rintro e w2 ⟨rfl, hb⟩
            clear p0 p1 p2 p3
            replace K_p := hide (Blk.below K_p.out hb (Blk.lt K_p.out))
            replace HB := hide (HB.out.trans (hb.mono HB.out.size))
            clear hb
            have p0 := (Blk.cell K_p.out 0).trans (rfl : _ = some (Value.int .i64 0))
            have p1 := (Blk.cell K_p.out 1).trans (rfl : _ = some (Value.int .i64 run))
            have p2 := (Blk.cell K_p.out 2).trans (rfl : _ = some (Value.slice A N c))
            have p3 := (Blk.cell K_p.out 3).trans (rfl : _ = some (Value.int .i64 rej))
            go_wp2_with fail
            go_ret
            exact ⟨rfl, HB.out⟩
        · by_cases hck : c = k1
          · replace hck := hck.symm
            subst hck
            have hr : fitsI 0 run l = false := by
              unfold fitsI
              rw [if_neg (by simp), HF.out]
              simp only [hN, hD]
              rw [decide_eq_false (by omega)]; rfl
            rw [hr]
            have hw1 : IntKind.i64.wrap ((k : Int) + 1) = (k1 : Int) := (IntWalk.i64_in _ (by omega)).trans (by omega)
            have HC2 := hide (fun (W : World) (v : Value) (h : SlL W v (bcl (l.drop (k + 1)))) => HCO.out W v (l.drop (k + 1)) h (by rw [List.length_drop, hN]; omega))
            rw [hD, hk1] at HC2
            have hw2 : IntKind.i64.wrap (IntKind.i64.wrap ((N : Int) - 1) - (k : Int)) = (N : Int) - 1 - (k : Int) := by rw [IntWalk.i64_in ((N : Int) - 1) (by omega)]; exact IntWalk.i64_in _ (by omega)
            have hw3 : IntKind.i64.wrap ((N : Int) - 1) = (N : Int) - 1 := IntWalk.i64_in _ (by omega)
            have hw4 : IntKind.i64.wrap ((N : Int) - 1 - (k : Int)) = (N : Int) - 1 - (k : Int) := IntWalk.i64_in _ (by omega)
            have hd : (run == (N : Int) - 1 - (k : Int)) = false := by simpa using hq
            have HQ := hide hq
            clear hq
            have hs1 : (k1 : Int) ≤ (N : Int) := by omega
            have hs2 : k1 ≤ N := by omega
            have hs0 : (0 : Int) ≤ (k1 : Int) := by omega
            have HK1 := hide hk1
            have hk0 : (0 : Int) ≤ (k : Int) := by omega
            have HN := hide hN
            have HD := hide hD
            clear hN hD hr hf hk1
            have HB := allocs_below w [.cells #[.int .i64 0, .int .i64 run, .slice A N k1, .int .i64 rej] 29]
            have K_p : Blk (allocs w [.cells #[.int .i64 0, .int .i64 run, .slice A N k1, .int .i64 rej] 29]) (w.heap.size + 0) 29 #[.int .i64 0, .int .i64 run, .slice A N k1, .int .i64 rej] := allocs_at w [.cells #[.int .i64 0, .int .i64 run, .slice A N k1, .int .i64 rej] 29] 0 rfl
            unfold allocs at HB K_p
            simp only [List.foldl_cons, List.foldl_nil] at HB K_p
            rw [Nat.add_zero] at K_p
            go_enter Tryz.func52, Tryz.ntmps52
            go_upto_region 1 with (fail)
            generalize (w.alloc (.cells #[.int .i64 0, .int .i64 run, .slice A N k1, .int .i64 rej] 29)) = w0 at *
            replace K_p := hide K_p
            replace HB := hide HB
            have p0 := (Blk.cell K_p.out 0).trans (rfl : _ = some (Value.int .i64 0))
            have p1 := (Blk.cell K_p.out 1).trans (rfl : _ = some (Value.int .i64 run))
            have p2 := (Blk.cell K_p.out 2).trans (rfl : _ = some (Value.slice A N k1))
            have p3 := (Blk.cell K_p.out 3).trans (rfl : _ = some (Value.int .i64 rej))
            go_wp2_with fail
            refine (HIX.out _ (HV.out.below HB.out)).mono ?_
            rintro e w1 ⟨rfl, hb⟩
            clear p0 p1 p2 p3
            replace K_p := hide (Blk.below K_p.out hb (Blk.lt K_p.out))
            replace HB := hide (HB.out.trans (hb.mono HB.out.size))
            clear hb
            have p0 := (Blk.cell K_p.out 0).trans (rfl : _ = some (Value.int .i64 0))
            have p1 := (Blk.cell K_p.out 1).trans (rfl : _ = some (Value.int .i64 run))
            have p2 := (Blk.cell K_p.out 2).trans (rfl : _ = some (Value.slice A N k1))
            have p3 := (Blk.cell K_p.out 3).trans (rfl : _ = some (Value.int .i64 rej))
            go_wp2_with fail
            refine (HC2.out _ _ ?slk).mono ?_
            case slk => rw [bcl_drop]; have h := (HV.out.below HB.out).drop_cap hs2; rw [Nat.sub_self] at h; exact h
            rintro e w2 ⟨rfl, hb⟩
            clear p0 p1 p2 p3
            replace K_p := hide (Blk.below K_p.out hb (Blk.lt K_p.out))
            replace HB := hide (HB.out.trans (hb.mono HB.out.size))
            clear hb
            have p0 := (Blk.cell K_p.out 0).trans (rfl : _ = some (Value.int .i64 0))
            have p1 := (Blk.cell K_p.out 1).trans (rfl : _ = some (Value.int .i64 run))
            have p2 := (Blk.cell K_p.out 2).trans (rfl : _ = some (Value.slice A N k1))
            have p3 := (Blk.cell K_p.out 3).trans (rfl : _ = some (Value.int .i64 rej))
            go_wp2_with fail
            go_ret
            exact ⟨rfl, HB.out⟩
          · have hr : fitsI 0 run l = false := by
              unfold fitsI
              rw [if_neg (by simp), HF.out]
              simp only [hN, hD]
              rw [decide_eq_false (by omega)]; rfl
            rw [hr]
            have hw1 : IntKind.i64.wrap ((k : Int) + 1) = (k1 : Int) := (IntWalk.i64_in _ (by omega)).trans (by omega)
            have HC2 := hide (fun (W : World) (v : Value) (h : SlL W v (bcl (l.drop (k + 1)))) => HCO.out W v (l.drop (k + 1)) h (by rw [List.length_drop, hN]; omega))
            rw [hD, hk1] at HC2
            have hw2 : IntKind.i64.wrap (IntKind.i64.wrap ((N : Int) - 1) - (k : Int)) = (N : Int) - 1 - (k : Int) := by rw [IntWalk.i64_in ((N : Int) - 1) (by omega)]; exact IntWalk.i64_in _ (by omega)
            have hw3 : IntKind.i64.wrap ((N : Int) - 1) = (N : Int) - 1 := IntWalk.i64_in _ (by omega)
            have hw4 : IntKind.i64.wrap ((N : Int) - 1 - (k : Int)) = (N : Int) - 1 - (k : Int) := IntWalk.i64_in _ (by omega)
            have hd : (run == (N : Int) - 1 - (k : Int)) = false := by simpa using hq
            have HQ := hide hq
            clear hq
            have hs1 : (k1 : Int) ≤ (N : Int) := by omega
            have hs2 : k1 ≤ N := by omega
            have hs0 : (0 : Int) ≤ (k1 : Int) := by omega
            have HK1 := hide hk1
            have hk0 : (0 : Int) ≤ (k : Int) := by omega
            have HN := hide hN
            have HD := hide hD
            clear hN hD hr hf hk1
            have HB := allocs_below w [.cells #[.int .i64 0, .int .i64 run, .slice A N c, .int .i64 rej] 29]
            have K_p : Blk (allocs w [.cells #[.int .i64 0, .int .i64 run, .slice A N c, .int .i64 rej] 29]) (w.heap.size + 0) 29 #[.int .i64 0, .int .i64 run, .slice A N c, .int .i64 rej] := allocs_at w [.cells #[.int .i64 0, .int .i64 run, .slice A N c, .int .i64 rej] 29] 0 rfl
            unfold allocs at HB K_p
            simp only [List.foldl_cons, List.foldl_nil] at HB K_p
            rw [Nat.add_zero] at K_p
            go_enter Tryz.func52, Tryz.ntmps52
            go_upto_region 1 with (fail)
            generalize (w.alloc (.cells #[.int .i64 0, .int .i64 run, .slice A N c, .int .i64 rej] 29)) = w0 at *
            replace K_p := hide K_p
            replace HB := hide HB
            have p0 := (Blk.cell K_p.out 0).trans (rfl : _ = some (Value.int .i64 0))
            have p1 := (Blk.cell K_p.out 1).trans (rfl : _ = some (Value.int .i64 run))
            have p2 := (Blk.cell K_p.out 2).trans (rfl : _ = some (Value.slice A N c))
            have p3 := (Blk.cell K_p.out 3).trans (rfl : _ = some (Value.int .i64 rej))
            go_wp2_with fail
            refine (HIX.out _ (HV.out.below HB.out)).mono ?_
            rintro e w1 ⟨rfl, hb⟩
            clear p0 p1 p2 p3
            replace K_p := hide (Blk.below K_p.out hb (Blk.lt K_p.out))
            replace HB := hide (HB.out.trans (hb.mono HB.out.size))
            clear hb
            have p0 := (Blk.cell K_p.out 0).trans (rfl : _ = some (Value.int .i64 0))
            have p1 := (Blk.cell K_p.out 1).trans (rfl : _ = some (Value.int .i64 run))
            have p2 := (Blk.cell K_p.out 2).trans (rfl : _ = some (Value.slice A N c))
            have p3 := (Blk.cell K_p.out 3).trans (rfl : _ = some (Value.int .i64 rej))
            go_wp2_with fail
            refine (HC2.out _ _ ?slk).mono ?_
            case slk => rw [bcl_drop]; have h := (HV.out.below HB.out).drop hs2; exact h
            rintro e w2 ⟨rfl, hb⟩
            clear p0 p1 p2 p3
            replace K_p := hide (Blk.below K_p.out hb (Blk.lt K_p.out))
            replace HB := hide (HB.out.trans (hb.mono HB.out.size))
            clear hb
            have p0 := (Blk.cell K_p.out 0).trans (rfl : _ = some (Value.int .i64 0))
            have p1 := (Blk.cell K_p.out 1).trans (rfl : _ = some (Value.int .i64 run))
            have p2 := (Blk.cell K_p.out 2).trans (rfl : _ = some (Value.slice A N c))
            have p3 := (Blk.cell K_p.out 3).trans (rfl : _ = some (Value.int .i64 rej))
            go_wp2_with fail
            go_ret
            exact ⟨rfl, HB.out⟩
  · by_cases hz : N = 0
    · have hr : fitsI mode run l = true := by
        unfold fitsI
        rw [if_pos h0, hN]
        exact decide_eq_true hz
      rw [hr]
      subst hz
      clear hr
      have HN := hide hN
      clear hN
      have HB := allocs_below w [.cells #[.int .i64 mode, .int .i64 run, .slice A 0 c, .int .i64 rej] 29]
      have K_p : Blk (allocs w [.cells #[.int .i64 mode, .int .i64 run, .slice A 0 c, .int .i64 rej] 29]) (w.heap.size + 0) 29 #[.int .i64 mode, .int .i64 run, .slice A 0 c, .int .i64 rej] := allocs_at w [.cells #[.int .i64 mode, .int .i64 run, .slice A 0 c, .int .i64 rej] 29] 0 rfl
      unfold allocs at HB K_p
      simp only [List.foldl_cons, List.foldl_nil] at HB K_p
      rw [Nat.add_zero] at K_p
      go_enter Tryz.func52, Tryz.ntmps52
      go_upto_region 1 with (fail)
      generalize (w.alloc (.cells #[.int .i64 mode, .int .i64 run, .slice A 0 c, .int .i64 rej] 29)) = w0 at *
      replace K_p := hide K_p
      replace HB := hide HB
      have p0 := (Blk.cell K_p.out 0).trans (rfl : _ = some (Value.int .i64 mode))
      have p1 := (Blk.cell K_p.out 1).trans (rfl : _ = some (Value.int .i64 run))
      have p2 := (Blk.cell K_p.out 2).trans (rfl : _ = some (Value.slice A 0 c))
      have p3 := (Blk.cell K_p.out 3).trans (rfl : _ = some (Value.int .i64 rej))
      go_wp2_with fail
      go_ret
      exact ⟨rfl, HB.out⟩
    · have hr : fitsI mode run l = false := by
        unfold fitsI
        rw [if_pos h0, hN]
        exact decide_eq_false hz
      rw [hr]
      have hd : ((N : Int) == 0) = false := by simp; omega
      clear hr
      have HN := hide hN
      clear hN
      have HB := allocs_below w [.cells #[.int .i64 mode, .int .i64 run, .slice A N c, .int .i64 rej] 29]
      have K_p : Blk (allocs w [.cells #[.int .i64 mode, .int .i64 run, .slice A N c, .int .i64 rej] 29]) (w.heap.size + 0) 29 #[.int .i64 mode, .int .i64 run, .slice A N c, .int .i64 rej] := allocs_at w [.cells #[.int .i64 mode, .int .i64 run, .slice A N c, .int .i64 rej] 29] 0 rfl
      unfold allocs at HB K_p
      simp only [List.foldl_cons, List.foldl_nil] at HB K_p
      rw [Nat.add_zero] at K_p
      go_enter Tryz.func52, Tryz.ntmps52
      go_upto_region 1 with (fail)
      generalize (w.alloc (.cells #[.int .i64 mode, .int .i64 run, .slice A N c, .int .i64 rej] 29)) = w0 at *
      replace K_p := hide K_p
      replace HB := hide HB
      have p0 := (Blk.cell K_p.out 0).trans (rfl : _ = some (Value.int .i64 mode))
      have p1 := (Blk.cell K_p.out 1).trans (rfl : _ = some (Value.int .i64 run))
      have p2 := (Blk.cell K_p.out 2).trans (rfl : _ = some (Value.slice A N c))
      have p3 := (Blk.cell K_p.out 3).trans (rfl : _ = some (Value.int .i64 rej))
      go_wp2_with fail
      go_ret
      exact ⟨rfl, HB.out⟩
end Go.Proofs.YthmmgjieppknkaaGreatDoor

namespace Go.Proofs.YthmmgjieppknkaaGreatDoor
open Go.RowKit MLab
theorem idx_ten (m : Nat) (hm : m < 4) (W : World) : (Instr.index 100 (.agg #[.int .i64 10, .int .i64 5, .int .i64 1, .int .i64 1]) (.int .i64 (m : Int))).run Tryz.prog W = .ok (.int .i64 (longI (m : Int))) W := by
  have hu : Tryz.prog.underlying 100 = some (.array 4 3) := by kernel_rfl
  refine idx_int hu hm ?_ W
  match m, hm with
  | 0, _ => rfl
  | 1, _ => rfl
  | 2, _ => rfl
  | 3, _ => rfl
def fourI (mode : Int) : Int := if mode = 1 then 4 else 0
theorem idx_four (m : Nat) (hm : m < 4) (W : World) : (Instr.index 100 (.agg #[.int .i64 0, .int .i64 4, .int .i64 0, .int .i64 0]) (.int .i64 (m : Int))).run Tryz.prog W = .ok (.int .i64 (fourI (m : Int))) W := by
  have hu : Tryz.prog.underlying 100 = some (.array 4 3) := by kernel_rfl
  refine idx_int hu hm ?_ W
  match m, hm with
  | 0, _ => rfl
  | 1, _ => rfl
  | 2, _ => rfl
  | 3, _ => rfl
theorem rightI_eq (mode run : Int) (l : List Bool) (rej : Int) : rightI mode run l rej =
    if mode < 0 ∨ 3 < mode then 1 else if run < 0 ∨ longI mode ≤ run then 2 else if rej < 0 ∨ fourI mode < rej then 2 else if 4 < l.length then 5 else if fitsI mode run l = false then 14 else 0 := rfl
set_option maxRecDepth 100000 in
set_option maxHeartbeats 4000000 in
theorem swright_any (w : World) (mode run rej : Int) (v : Value) (l : List Bool) (hv : SlL w v (bcl l)) (hl : l.length ≤ 1000000) :
    Calls Tryz.prog 22 #[.agg #[.int .i64 mode, .int .i64 run, v, .int .i64 rej]] w fun e w' => e = .returned (.int .i64 (rightI mode run l rej)) ∧ Below w.heap.size w w' := by
  have HV := hide hv
  obtain ⟨A, c, rfl, -⟩ := hv
  rw [bcl_len] at HV ⊢
  obtain ⟨N, hN⟩ : ∃ N, l.length = N := ⟨_, rfl⟩
  have HFI := hide (fun (W : World) (h : SlL W (.slice A N c) (bcl l)) (h4 : l.length ≤ 4) => swfits_any W mode run rej _ l h h4)
  rw [hN] at HV HFI hl ⊢
  have hre := rightI_eq mode run l rej
  rw [hN] at hre
  by_cases c1 : mode < 0
  · rw [if_pos (by omega)] at hre
    have HR := hide hre
    clear hre
    have HN := hide hN
    clear hN
    have HB := allocs_below w [.cells #[.int .i64 mode, .int .i64 run, .slice A N c, .int .i64 rej] 29]
    have K_p : Blk (allocs w [.cells #[.int .i64 mode, .int .i64 run, .slice A N c, .int .i64 rej] 29]) (w.heap.size + 0) 29 #[.int .i64 mode, .int .i64 run, .slice A N c, .int .i64 rej] := allocs_at w [.cells #[.int .i64 mode, .int .i64 run, .slice A N c, .int .i64 rej] 29] 0 rfl
    unfold allocs at HB K_p
    simp only [List.foldl_cons, List.foldl_nil] at HB K_p
    rw [Nat.add_zero] at K_p
    go_enter Tryz.func22, Tryz.ntmps22
    go_upto_region 1 with (fail)
    generalize (w.alloc (.cells #[.int .i64 mode, .int .i64 run, .slice A N c, .int .i64 rej] 29)) = w0 at *
    replace K_p := hide K_p
    replace HB := hide HB
    have p0 := (Blk.cell K_p.out 0).trans (rfl : _ = some (Value.int .i64 mode))
    have p1 := (Blk.cell K_p.out 1).trans (rfl : _ = some (Value.int .i64 run))
    have p2 := (Blk.cell K_p.out 2).trans (rfl : _ = some (Value.slice A N c))
    have p3 := (Blk.cell K_p.out 3).trans (rfl : _ = some (Value.int .i64 rej))
    go_wp2_with fail
    go_ret
    rw [HR.out]
    exact ⟨rfl, HB.out⟩
  · by_cases c2 : 3 < mode
    · rw [if_pos (by omega)] at hre
      have HR := hide hre
      clear hre
      have HN := hide hN
      clear hN
      have HB := allocs_below w [.cells #[.int .i64 mode, .int .i64 run, .slice A N c, .int .i64 rej] 29]
      have K_p : Blk (allocs w [.cells #[.int .i64 mode, .int .i64 run, .slice A N c, .int .i64 rej] 29]) (w.heap.size + 0) 29 #[.int .i64 mode, .int .i64 run, .slice A N c, .int .i64 rej] := allocs_at w [.cells #[.int .i64 mode, .int .i64 run, .slice A N c, .int .i64 rej] 29] 0 rfl
      unfold allocs at HB K_p
      simp only [List.foldl_cons, List.foldl_nil] at HB K_p
      rw [Nat.add_zero] at K_p
      go_enter Tryz.func22, Tryz.ntmps22
      go_upto_region 1 with (fail)
      generalize (w.alloc (.cells #[.int .i64 mode, .int .i64 run, .slice A N c, .int .i64 rej] 29)) = w0 at *
      replace K_p := hide K_p
      replace HB := hide HB
      have p0 := (Blk.cell K_p.out 0).trans (rfl : _ = some (Value.int .i64 mode))
      have p1 := (Blk.cell K_p.out 1).trans (rfl : _ = some (Value.int .i64 run))
      have p2 := (Blk.cell K_p.out 2).trans (rfl : _ = some (Value.slice A N c))
      have p3 := (Blk.cell K_p.out 3).trans (rfl : _ = some (Value.int .i64 rej))
      go_wp2_with fail
      go_ret
      rw [HR.out]
      exact ⟨rfl, HB.out⟩
    · obtain ⟨m, rfl⟩ : ∃ m : Nat, mode = (m : Int) := ⟨mode.toNat, by omega⟩
      obtain ⟨lg, hlg⟩ : ∃ z, longI (m : Int) = z := ⟨_, rfl⟩
      obtain ⟨fo, hfo⟩ : ∃ z, fourI (m : Int) = z := ⟨_, rfl⟩
      rw [hlg, hfo] at hre
      by_cases c3 : run < 0
      · rw [if_neg (by omega)] at hre
        rw [if_pos (by omega)] at hre
        have HR := hide hre
        clear hre
        have h1 := idx_ten m (by omega)
        have h2 := idx_four m (by omega)
        rw [hlg] at h1
        rw [hfo] at h2
        have HLG := hide hlg
        have HFO := hide hfo
        clear hlg hfo
        clear h2
        clear h1
        have HN := hide hN
        clear hN
        have hm3 : (m : Int) ≤ 3 := by omega
        have hm0 : (0 : Int) ≤ (m : Int) := by omega
        have hmd : decide ((m : Int) < 0) = false := decide_eq_false (by omega)
        have hd1 : decide (run < 0) = true := decide_eq_true c3
        have HB := allocs_below w [.cells #[.int .i64 (m : Int), .int .i64 run, .slice A N c, .int .i64 rej] 29]
        have K_p : Blk (allocs w [.cells #[.int .i64 (m : Int), .int .i64 run, .slice A N c, .int .i64 rej] 29]) (w.heap.size + 0) 29 #[.int .i64 (m : Int), .int .i64 run, .slice A N c, .int .i64 rej] := allocs_at w [.cells #[.int .i64 (m : Int), .int .i64 run, .slice A N c, .int .i64 rej] 29] 0 rfl
        unfold allocs at HB K_p
        simp only [List.foldl_cons, List.foldl_nil] at HB K_p
        rw [Nat.add_zero] at K_p
        go_enter Tryz.func22, Tryz.ntmps22
        go_upto_region 1 with (fail)
        generalize (w.alloc (.cells #[.int .i64 (m : Int), .int .i64 run, .slice A N c, .int .i64 rej] 29)) = w0 at *
        replace K_p := hide K_p
        replace HB := hide HB
        have p0 := (Blk.cell K_p.out 0).trans (rfl : _ = some (Value.int .i64 (m : Int)))
        have p1 := (Blk.cell K_p.out 1).trans (rfl : _ = some (Value.int .i64 run))
        have p2 := (Blk.cell K_p.out 2).trans (rfl : _ = some (Value.slice A N c))
        have p3 := (Blk.cell K_p.out 3).trans (rfl : _ = some (Value.int .i64 rej))
        go_upto_region 3 with (fail)
        go_quiet (fail)
        go_wp2_with fail
        go_ret
        rw [HR.out]
        exact ⟨rfl, below_drewN HB.out _⟩
      · by_cases c4 : lg ≤ run
        · rw [if_neg (by omega)] at hre
          rw [if_pos (by omega)] at hre
          have HR := hide hre
          clear hre
          have h1 := idx_ten m (by omega)
          have h2 := idx_four m (by omega)
          rw [hlg] at h1
          rw [hfo] at h2
          have HLG := hide hlg
          have HFO := hide hfo
          clear hlg hfo
          clear h2
          have HN := hide hN
          clear hN
          have hm3 : (m : Int) ≤ 3 := by omega
          have hm0 : (0 : Int) ≤ (m : Int) := by omega
          have hmd : decide ((m : Int) < 0) = false := decide_eq_false (by omega)
          have hd1 : decide (run < 0) = false := decide_eq_false c3
          have hd2 : decide (lg ≤ run) = true := decide_eq_true c4
          have HB := allocs_below w [.cells #[.int .i64 (m : Int), .int .i64 run, .slice A N c, .int .i64 rej] 29]
          have K_p : Blk (allocs w [.cells #[.int .i64 (m : Int), .int .i64 run, .slice A N c, .int .i64 rej] 29]) (w.heap.size + 0) 29 #[.int .i64 (m : Int), .int .i64 run, .slice A N c, .int .i64 rej] := allocs_at w [.cells #[.int .i64 (m : Int), .int .i64 run, .slice A N c, .int .i64 rej] 29] 0 rfl
          unfold allocs at HB K_p
          simp only [List.foldl_cons, List.foldl_nil] at HB K_p
          rw [Nat.add_zero] at K_p
          go_enter Tryz.func22, Tryz.ntmps22
          go_upto_region 1 with (fail)
          generalize (w.alloc (.cells #[.int .i64 (m : Int), .int .i64 run, .slice A N c, .int .i64 rej] 29)) = w0 at *
          replace K_p := hide K_p
          replace HB := hide HB
          have p0 := (Blk.cell K_p.out 0).trans (rfl : _ = some (Value.int .i64 (m : Int)))
          have p1 := (Blk.cell K_p.out 1).trans (rfl : _ = some (Value.int .i64 run))
          have p2 := (Blk.cell K_p.out 2).trans (rfl : _ = some (Value.slice A N c))
          have p3 := (Blk.cell K_p.out 3).trans (rfl : _ = some (Value.int .i64 rej))
          go_upto_region 3 with (fail)
          go_quiet (fail)
          go_wp2_with fail
          go_ret
          rw [HR.out]
          exact ⟨rfl, below_drewN HB.out _⟩
        · by_cases c5 : rej < 0
          · rw [if_neg (by omega)] at hre
            rw [if_neg (by omega)] at hre
            rw [if_pos (by omega)] at hre
            have HR := hide hre
            clear hre
            have h1 := idx_ten m (by omega)
            have h2 := idx_four m (by omega)
            rw [hlg] at h1
            rw [hfo] at h2
            have HLG := hide hlg
            have HFO := hide hfo
            clear hlg hfo
            clear h2
            have HN := hide hN
            clear hN
            have hm3 : (m : Int) ≤ 3 := by omega
            have hm0 : (0 : Int) ≤ (m : Int) := by omega
            have hmd : decide ((m : Int) < 0) = false := decide_eq_false (by omega)
            have hd1 : decide (run < 0) = false := decide_eq_false c3
            have hd2 : decide (lg ≤ run) = false := decide_eq_false c4
            have hd3 : decide (rej < 0) = true := decide_eq_true c5
            have HB := allocs_below w [.cells #[.int .i64 (m : Int), .int .i64 run, .slice A N c, .int .i64 rej] 29]
            have K_p : Blk (allocs w [.cells #[.int .i64 (m : Int), .int .i64 run, .slice A N c, .int .i64 rej] 29]) (w.heap.size + 0) 29 #[.int .i64 (m : Int), .int .i64 run, .slice A N c, .int .i64 rej] := allocs_at w [.cells #[.int .i64 (m : Int), .int .i64 run, .slice A N c, .int .i64 rej] 29] 0 rfl
            unfold allocs at HB K_p
            simp only [List.foldl_cons, List.foldl_nil] at HB K_p
            rw [Nat.add_zero] at K_p
            go_enter Tryz.func22, Tryz.ntmps22
            go_upto_region 1 with (fail)
            generalize (w.alloc (.cells #[.int .i64 (m : Int), .int .i64 run, .slice A N c, .int .i64 rej] 29)) = w0 at *
            replace K_p := hide K_p
            replace HB := hide HB
            have p0 := (Blk.cell K_p.out 0).trans (rfl : _ = some (Value.int .i64 (m : Int)))
            have p1 := (Blk.cell K_p.out 1).trans (rfl : _ = some (Value.int .i64 run))
            have p2 := (Blk.cell K_p.out 2).trans (rfl : _ = some (Value.slice A N c))
            have p3 := (Blk.cell K_p.out 3).trans (rfl : _ = some (Value.int .i64 rej))
            go_upto_region 3 with (fail)
            go_quiet (fail)
            go_upto_region 5 with (fail)
            go_quiet (fail)
            go_wp2_with fail
            go_ret
            rw [HR.out]
            exact ⟨rfl, below_drewN HB.out _⟩
          · by_cases c6 : fo < rej
            · rw [if_neg (by omega)] at hre
              rw [if_neg (by omega)] at hre
              rw [if_pos (by omega)] at hre
              have HR := hide hre
              clear hre
              have h1 := idx_ten m (by omega)
              have h2 := idx_four m (by omega)
              rw [hlg] at h1
              rw [hfo] at h2
              have HLG := hide hlg
              have HFO := hide hfo
              clear hlg hfo
              have HN := hide hN
              clear hN
              have hm3 : (m : Int) ≤ 3 := by omega
              have hm0 : (0 : Int) ≤ (m : Int) := by omega
              have hmd : decide ((m : Int) < 0) = false := decide_eq_false (by omega)
              have hd1 : decide (run < 0) = false := decide_eq_false c3
              have hd2 : decide (lg ≤ run) = false := decide_eq_false c4
              have hd3 : decide (rej < 0) = false := decide_eq_false c5
              have hd4 : decide (fo < rej) = true := decide_eq_true c6
              have HB := allocs_below w [.cells #[.int .i64 (m : Int), .int .i64 run, .slice A N c, .int .i64 rej] 29]
              have K_p : Blk (allocs w [.cells #[.int .i64 (m : Int), .int .i64 run, .slice A N c, .int .i64 rej] 29]) (w.heap.size + 0) 29 #[.int .i64 (m : Int), .int .i64 run, .slice A N c, .int .i64 rej] := allocs_at w [.cells #[.int .i64 (m : Int), .int .i64 run, .slice A N c, .int .i64 rej] 29] 0 rfl
              unfold allocs at HB K_p
              simp only [List.foldl_cons, List.foldl_nil] at HB K_p
              rw [Nat.add_zero] at K_p
              go_enter Tryz.func22, Tryz.ntmps22
              go_upto_region 1 with (fail)
              generalize (w.alloc (.cells #[.int .i64 (m : Int), .int .i64 run, .slice A N c, .int .i64 rej] 29)) = w0 at *
              replace K_p := hide K_p
              replace HB := hide HB
              have p0 := (Blk.cell K_p.out 0).trans (rfl : _ = some (Value.int .i64 (m : Int)))
              have p1 := (Blk.cell K_p.out 1).trans (rfl : _ = some (Value.int .i64 run))
              have p2 := (Blk.cell K_p.out 2).trans (rfl : _ = some (Value.slice A N c))
              have p3 := (Blk.cell K_p.out 3).trans (rfl : _ = some (Value.int .i64 rej))
              go_upto_region 3 with (fail)
              go_quiet (fail)
              go_upto_region 5 with (fail)
              go_quiet (fail)
              go_wp2_with fail
              go_ret
              rw [HR.out]
              exact ⟨rfl, below_drewN HB.out _⟩
            · by_cases c7 : 4 < N
              · rw [if_neg (by omega)] at hre
                rw [if_neg (by omega)] at hre
                rw [if_neg (by omega)] at hre
                rw [if_pos c7] at hre
                have HR := hide hre
                clear hre
                have h1 := idx_ten m (by omega)
                have h2 := idx_four m (by omega)
                rw [hlg] at h1
                rw [hfo] at h2
                have HLG := hide hlg
                have HFO := hide hfo
                clear hlg hfo
                have HN := hide hN
                clear hN
                have hm3 : (m : Int) ≤ 3 := by omega
                have hm0 : (0 : Int) ≤ (m : Int) := by omega
                have hmd : decide ((m : Int) < 0) = false := decide_eq_false (by omega)
                have hd1 : decide (run < 0) = false := decide_eq_false c3
                have hd2 : decide (lg ≤ run) = false := decide_eq_false c4
                have hd3 : decide (rej < 0) = false := decide_eq_false c5
                have hd4 : decide (fo < rej) = false := decide_eq_false c6
                have hd5 : decide ((4 : Int) < (N : Int)) = true := decide_eq_true (by omega)
                have hd6 : (4 : Int) < (N : Int) := by omega
                have HB := allocs_below w [.cells #[.int .i64 (m : Int), .int .i64 run, .slice A N c, .int .i64 rej] 29]
                have K_p : Blk (allocs w [.cells #[.int .i64 (m : Int), .int .i64 run, .slice A N c, .int .i64 rej] 29]) (w.heap.size + 0) 29 #[.int .i64 (m : Int), .int .i64 run, .slice A N c, .int .i64 rej] := allocs_at w [.cells #[.int .i64 (m : Int), .int .i64 run, .slice A N c, .int .i64 rej] 29] 0 rfl
                unfold allocs at HB K_p
                simp only [List.foldl_cons, List.foldl_nil] at HB K_p
                rw [Nat.add_zero] at K_p
                go_enter Tryz.func22, Tryz.ntmps22
                go_upto_region 1 with (fail)
                generalize (w.alloc (.cells #[.int .i64 (m : Int), .int .i64 run, .slice A N c, .int .i64 rej] 29)) = w0 at *
                replace K_p := hide K_p
                replace HB := hide HB
                have p0 := (Blk.cell K_p.out 0).trans (rfl : _ = some (Value.int .i64 (m : Int)))
                have p1 := (Blk.cell K_p.out 1).trans (rfl : _ = some (Value.int .i64 run))
                have p2 := (Blk.cell K_p.out 2).trans (rfl : _ = some (Value.slice A N c))
                have p3 := (Blk.cell K_p.out 3).trans (rfl : _ = some (Value.int .i64 rej))
                go_upto_region 3 with (fail)
                go_quiet (fail)
                go_upto_region 5 with (fail)
                go_quiet (fail)
                go_wp2_with fail
                go_ret
                rw [HR.out]
                exact ⟨rfl, below_drewN HB.out _⟩
              · by_cases c8 : fitsI (m : Int) run l = false
                · rw [if_neg (by omega)] at hre
                  rw [if_neg (by omega)] at hre
                  rw [if_neg (by omega)] at hre
                  rw [if_neg c7] at hre
                  rw [if_pos c8] at hre
                  have HR := hide hre
                  clear hre
                  have h1 := idx_ten m (by omega)
                  have h2 := idx_four m (by omega)
                  rw [hlg] at h1
                  rw [hfo] at h2
                  have HLG := hide hlg
                  have HFO := hide hfo
                  clear hlg hfo
                  have HF2 := hide (fun W h => HFI.out W h (by omega))
                  rw [c8] at HF2
                  clear c8
                  have HN := hide hN
                  clear hN
                  have hm3 : (m : Int) ≤ 3 := by omega
                  have hm0 : (0 : Int) ≤ (m : Int) := by omega
                  have hmd : decide ((m : Int) < 0) = false := decide_eq_false (by omega)
                  have hd1 : decide (run < 0) = false := decide_eq_false c3
                  have hd2 : decide (lg ≤ run) = false := decide_eq_false c4
                  have hd3 : decide (rej < 0) = false := decide_eq_false c5
                  have hd4 : decide (fo < rej) = false := decide_eq_false c6
                  have hd5 : decide ((4 : Int) < (N : Int)) = false := decide_eq_false (by omega)
                  have hd6 : ¬ (4 : Int) < (N : Int) := by omega
                  have HB := allocs_below w [.cells #[.int .i64 (m : Int), .int .i64 run, .slice A N c, .int .i64 rej] 29]
                  have K_p : Blk (allocs w [.cells #[.int .i64 (m : Int), .int .i64 run, .slice A N c, .int .i64 rej] 29]) (w.heap.size + 0) 29 #[.int .i64 (m : Int), .int .i64 run, .slice A N c, .int .i64 rej] := allocs_at w [.cells #[.int .i64 (m : Int), .int .i64 run, .slice A N c, .int .i64 rej] 29] 0 rfl
                  unfold allocs at HB K_p
                  simp only [List.foldl_cons, List.foldl_nil] at HB K_p
                  rw [Nat.add_zero] at K_p
                  go_enter Tryz.func22, Tryz.ntmps22
                  go_upto_region 1 with (fail)
                  generalize (w.alloc (.cells #[.int .i64 (m : Int), .int .i64 run, .slice A N c, .int .i64 rej] 29)) = w0 at *
                  replace K_p := hide K_p
                  replace HB := hide HB
                  have p0 := (Blk.cell K_p.out 0).trans (rfl : _ = some (Value.int .i64 (m : Int)))
                  have p1 := (Blk.cell K_p.out 1).trans (rfl : _ = some (Value.int .i64 run))
                  have p2 := (Blk.cell K_p.out 2).trans (rfl : _ = some (Value.slice A N c))
                  have p3 := (Blk.cell K_p.out 3).trans (rfl : _ = some (Value.int .i64 rej))
                  go_upto_region 3 with (fail)
                  go_quiet (fail)
                  go_upto_region 5 with (fail)
                  go_quiet (fail)
                  go_wp2_with fail
                  refine (HF2.out _ (HV.out.below ?bel)).mono ?_
                  case bel => exact below_drewN HB.out _
                  rintro e w1 ⟨rfl, hb⟩
                  have HX := hide ((below_drewN HB.out _).trans (hb.mono HB.out.size))
                  clear hb
                  go_wp2_with fail
                  go_ret
                  rw [HR.out]
                  exact ⟨rfl, HX.out⟩
                · rw [if_neg (by omega)] at hre
                  rw [if_neg (by omega)] at hre
                  rw [if_neg (by omega)] at hre
                  rw [if_neg c7] at hre
                  rw [if_neg c8] at hre
                  have HR := hide hre
                  clear hre
                  have h1 := idx_ten m (by omega)
                  have h2 := idx_four m (by omega)
                  rw [hlg] at h1
                  rw [hfo] at h2
                  have HLG := hide hlg
                  have HFO := hide hfo
                  clear hlg hfo
                  have HF2 := hide (fun W h => HFI.out W h (by omega))
                  rw [show fitsI (m : Int) run l = true by simpa using c8] at HF2
                  clear c8
                  have HN := hide hN
                  clear hN
                  have hm3 : (m : Int) ≤ 3 := by omega
                  have hm0 : (0 : Int) ≤ (m : Int) := by omega
                  have hmd : decide ((m : Int) < 0) = false := decide_eq_false (by omega)
                  have hd1 : decide (run < 0) = false := decide_eq_false c3
                  have hd2 : decide (lg ≤ run) = false := decide_eq_false c4
                  have hd3 : decide (rej < 0) = false := decide_eq_false c5
                  have hd4 : decide (fo < rej) = false := decide_eq_false c6
                  have hd5 : decide ((4 : Int) < (N : Int)) = false := decide_eq_false (by omega)
                  have hd6 : ¬ (4 : Int) < (N : Int) := by omega
                  have HB := allocs_below w [.cells #[.int .i64 (m : Int), .int .i64 run, .slice A N c, .int .i64 rej] 29]
                  have K_p : Blk (allocs w [.cells #[.int .i64 (m : Int), .int .i64 run, .slice A N c, .int .i64 rej] 29]) (w.heap.size + 0) 29 #[.int .i64 (m : Int), .int .i64 run, .slice A N c, .int .i64 rej] := allocs_at w [.cells #[.int .i64 (m : Int), .int .i64 run, .slice A N c, .int .i64 rej] 29] 0 rfl
                  unfold allocs at HB K_p
                  simp only [List.foldl_cons, List.foldl_nil] at HB K_p
                  rw [Nat.add_zero] at K_p
                  go_enter Tryz.func22, Tryz.ntmps22
                  go_upto_region 1 with (fail)
                  generalize (w.alloc (.cells #[.int .i64 (m : Int), .int .i64 run, .slice A N c, .int .i64 rej] 29)) = w0 at *
                  replace K_p := hide K_p
                  replace HB := hide HB
                  have p0 := (Blk.cell K_p.out 0).trans (rfl : _ = some (Value.int .i64 (m : Int)))
                  have p1 := (Blk.cell K_p.out 1).trans (rfl : _ = some (Value.int .i64 run))
                  have p2 := (Blk.cell K_p.out 2).trans (rfl : _ = some (Value.slice A N c))
                  have p3 := (Blk.cell K_p.out 3).trans (rfl : _ = some (Value.int .i64 rej))
                  go_upto_region 3 with (fail)
                  go_quiet (fail)
                  go_upto_region 5 with (fail)
                  go_quiet (fail)
                  go_wp2_with fail
                  refine (HF2.out _ (HV.out.below ?bel)).mono ?_
                  case bel => exact below_drewN HB.out _
                  rintro e w1 ⟨rfl, hb⟩
                  have HX := hide ((below_drewN HB.out _).trans (hb.mono HB.out.size))
                  clear hb
                  go_wp2_with fail
                  go_ret
                  rw [HR.out]
                  exact ⟨rfl, HX.out⟩
end Go.Proofs.YthmmgjieppknkaaGreatDoor

namespace Go.Proofs.YthmmgjieppknkaaGreatDoor
open Go.RowKit MLab
def scanB (l : List Bool) : Nat → Nat × Nat
  | 0 => (0, 0)
  | j + 1 => if l[j]? = some false then ((scanB l j).1 + 1, j) else scanB l j
theorem scanB_le (l : List Bool) : ∀ j, (scanB l j).1 ≤ j
  | 0 => Nat.le_refl _
  | j + 1 => by
    rw [scanB]
    have := scanB_le l j
    split
    · show (scanB l j).1 + 1 ≤ j + 1; omega
    · omega
theorem scanB_at (l : List Bool) : ∀ j, (scanB l j).2 ≤ j
  | 0 => Nat.le_refl _
  | j + 1 => by
    rw [scanB]
    have := scanB_at l j
    split
    · show j ≤ j + 1; omega
    · omega
set_option maxRecDepth 100000 in
theorem scan_all : ∀ l ∈ allB, ((scanB l l.length).1 = 0 → firstF l = none) ∧ ((scanB l l.length).1 = 1 → firstF l = some (scanB l l.length).2 ∧ (l.drop ((scanB l l.length).2 + 1)).contains false = false) ∧
    (2 ≤ (scanB l l.length).1 → (match firstF l with | some k => (l.drop (k + 1)).contains false | none => false) = true) := by decide
theorem fits_zero {l : List Bool} (hl : l.length ≤ 4) (h : (scanB l l.length).1 = 0) (run : Int) : fitsI 0 run l = if l.length < 4 then decide (run = (l.length : Int)) else decide (4 ≤ run) := by
  unfold fitsI
  rw [if_neg (by simp), (scan_all l (mem_allB hl)).1 h]
theorem fits_one {l : List Bool} (hl : l.length ≤ 4) (h : (scanB l l.length).1 = 1) (run : Int) : fitsI 0 run l = decide (run = (l.length : Int) - 1 - ((scanB l l.length).2 : Int)) := by
  obtain ⟨h1, h2⟩ := (scan_all l (mem_allB hl)).2.1 h
  unfold fitsI
  rw [if_neg (by simp), h1]
  simp only [h2]
  rfl
theorem fits_two {l : List Bool} (hl : l.length ≤ 4) (h : 2 ≤ (scanB l l.length).1) (run : Int) : fitsI 0 run l = false := by
  have h1 := (scan_all l (mem_allB hl)).2.2 h
  unfold fitsI
  rw [if_neg (by simp)]
  cases hf : firstF l with
  | none => rw [hf] at h1; cases h1
  | some k =>
    rw [hf] at h1
    simp only at h1 ⊢
    rw [h1]; rfl
set_option maxRecDepth 100000 in
set_option maxHeartbeats 1000000 in
theorem rlongest_any (w : World) (mode : Int) :
    Calls Tryz.prog 53 #[.int .i64 mode] w fun e w' => e = .returned (.int .i64 (longI mode)) ∧ w' = w := by
  by_cases c1 : mode = 0
  · subst c1
    have hr : longI 0 = 10 := rfl
    rw [hr]
    clear hr
    go_enter Tryz.func53, Tryz.ntmps53
    go_wp2_with fail
    go_ret
    exact ⟨rfl, rfl⟩
  · by_cases c2 : mode = 1
    · subst c2
      have hr : longI 1 = 5 := rfl
      rw [hr]
      clear hr
      go_enter Tryz.func53, Tryz.ntmps53
      go_wp2_with fail
      go_ret
      exact ⟨rfl, rfl⟩
    · have h1 : (mode == 0) = false := by simpa using c1
      have h2 : (mode == 1) = false := by simpa using c2
      have hr : longI mode = 1 := by unfold longI; rw [if_neg c1, if_neg c2]
      rw [hr]
      clear hr
      go_enter Tryz.func53, Tryz.ntmps53
      go_wp2_with fail
      go_ret
      exact ⟨rfl, rfl⟩
set_option maxRecDepth 100000 in
set_option maxHeartbeats 4000000 in
theorem rfits_any (w : World) (mode run rej : Int) (v : Value) (l : List Bool) (hv : SlL w v (bcl l)) (hl : l.length ≤ 4) :
    Calls Tryz.prog 54 #[.agg #[.int .i64 mode, .int .i64 run, v, .int .i64 rej]] w fun e w' => e = .returned (.bool (fitsI mode run l)) ∧ Below w.heap.size w w' := by
  have HV := hide hv
  obtain ⟨A, c, rfl, -, hc⟩ := hv
  have HC := hide hc
  clear hc
  rw [bcl_len] at HV HC ⊢
  have H0 := hide (fun h => fits_zero hl h run)
  have H1 := hide (fun h => fits_one hl h run)
  have H2 := hide (fun h => fits_two hl h run)
  have hle := scanB_at l
  obtain ⟨N, hN⟩ : ∃ N, l.length = N := ⟨_, rfl⟩
  rw [hN] at HV HC hl H0 H1 H2 ⊢
  by_cases h0 : mode = 0
  · subst h0
    have HN := hide hN
    have HLE := hide hle
    clear hN hle
    have HB := allocs_below w [.cells #[.int .i64 0, .int .i64 run, .slice A N c, .int .i64 rej] 34]
    have K_p : Blk (allocs w [.cells #[.int .i64 0, .int .i64 run, .slice A N c, .int .i64 rej] 34]) (w.heap.size + 0) 34 #[.int .i64 0, .int .i64 run, .slice A N c, .int .i64 rej] := allocs_at w [.cells #[.int .i64 0, .int .i64 run, .slice A N c, .int .i64 rej] 34] 0 rfl
    unfold allocs at HB K_p
    simp only [List.foldl_cons, List.foldl_nil] at HB K_p
    rw [Nat.add_zero] at K_p
    go_enter Tryz.func54, Tryz.ntmps54
    go_upto_region 1 with (fail)
    generalize (w.alloc (.cells #[.int .i64 0, .int .i64 run, .slice A N c, .int .i64 rej] 34)) = w0 at *
    replace K_p := hide K_p
    replace HB := hide HB
    have p0 := (Blk.cell K_p.out 0).trans (rfl : _ = some (Value.int .i64 0))
    have p1 := (Blk.cell K_p.out 1).trans (rfl : _ = some (Value.int .i64 run))
    have p2 := (Blk.cell K_p.out 2).trans (rfl : _ = some (Value.slice A N c))
    have p3 := (Blk.cell K_p.out 3).trans (rfl : _ = some (Value.int .i64 rej))
    go_wp2_with fail
    go_loopg [4, 5, 6] N (fun z bv av iv wr => ∃ j : Nat, iv = .int .i64 (j : Int) ∧ z + j = N ∧ bv = .int .i64 ((scanB l j).1 : Int) ∧ av = .int .i64 ((scanB l j).2 : Int) ∧ Below w0.heap.size w0 wr)
    case atStart => exact ⟨0, rfl, rfl, rfl, rfl, Below.refl _ _⟩
    case round =>
      obtain ⟨j, rfl, hq, rfl, rfl, hb⟩ := hrel
      have HQ := hide hq
      have HBL := hide hb
      have hj : j ≤ N := by omega
      have HX := hide (HB.out.trans (hb.mono HB.out.size))
      have q1 := (bcell hb _ _ (block_lt_of_cell p1)).trans p1
      have q2 := (bcell hb _ _ (block_lt_of_cell p2)).trans p2
      clear hq hb p0 p1 p2 p3
      by_cases hlt : j < N
      · have hji : (j : Int) < (N : Int) := by omega
        have hj0 : (0 : Int) ≤ (j : Int) := by omega
        obtain ⟨g, og, rfl, hcell⟩ := HC.out (by omega)
        obtain ⟨b, hx⟩ : ∃ b, l[j]? = some b := ⟨_, List.getElem?_eq_getElem (by rw [HN.out]; exact hlt)⟩
        have a := hcell j _ (bcl_at hx)
        have a2 := (bcell HX.out _ _ (block_lt_of_cell a)).trans a
        have hsl := scanB_le l j
        have hs1 : scanB l (j + 1) = if l[j]? = some false then ((scanB l j).1 + 1, j) else scanB l j := rfl
        rw [hx] at hs1
        have HS1 := hide hs1
        clear a hcell hx HC hs1
        obtain ⟨x, hxx⟩ : ∃ x, (scanB l j).1 = x := ⟨_, rfl⟩
        obtain ⟨y, hyy⟩ : ∃ y, (scanB l j).2 = y := ⟨_, rfl⟩
        rw [hxx] at HS1 hsl ⊢
        rw [hyy]
        have hwx : IntKind.i64.wrap ((x : Int) + 1) = ((x + 1 : Nat) : Int) := (IntWalk.i64_in _ (by omega)).trans (by omega)
        have HXX := hide hxx
        have HYY := hide hyy
        clear hxx hyy
        cases b with
        | false =>
          go_wp2_with fail
          go_roundg (gk - 1)
          case measure => have := HQ.out; omega
          case rel => exact ⟨j + 1, by go_num, by have := HQ.out; omega, by rw [HS1.out]; simp, by rw [HS1.out]; simp, HBL.out⟩
        | true =>
          go_wp2_with fail
          go_roundg (gk - 1)
          case measure => have := HQ.out; omega
          case rel => exact ⟨j + 1, by go_num, by have := HQ.out; omega, by rw [HS1.out, if_neg (by simp), HXX.out], by rw [HS1.out, if_neg (by simp), HYY.out], HBL.out⟩
      · have hji : ¬ (j : Int) < (N : Int) := by omega
        have hjN : j = N := by omega
        subst hjN
        have hbl := scanB_le l j
        have hal := HLE.out j
        obtain ⟨x, hxx⟩ : ∃ x, (scanB l j).1 = x := ⟨_, rfl⟩
        obtain ⟨y, hyy⟩ : ∃ y, (scanB l j).2 = y := ⟨_, rfl⟩
        rw [hxx] at H0 H1 H2 hbl ⊢
        rw [hyy] at H1 hal ⊢
        have HXX := hide hxx
        have HYY := hide hyy
        clear hxx hyy
        by_cases hx0 : x = 0
        · subst hx0
          have hz := H0.out rfl
          by_cases h4 : j < 4
          · rw [if_pos h4] at hz
            have h4i : (j : Int) < 4 := by omega
            by_cases hq : run = (j : Int)
            · rw [decide_eq_true hq] at hz
              have HRR := hide hz
              have hd : (run == (j : Int)) = true := by rw [hq]; exact beq_self_eq_true _
              have HQ2 := hide hq
              clear hz hq
              clear H0 H1 H2
              go_wp2_with fail
              go_ret
              rw [HRR.out]
              exact ⟨rfl, HX.out⟩
            · rw [decide_eq_false hq] at hz
              have HRR := hide hz
              have hd : (run == (j : Int)) = false := by simpa using hq
              have HQ2 := hide hq
              clear hz hq
              clear H0 H1 H2
              go_wp2_with fail
              go_ret
              rw [HRR.out]
              exact ⟨rfl, HX.out⟩
          · rw [if_neg h4] at hz
            have h4i : ¬ (j : Int) < 4 := by omega
            have hd4 : decide ((j : Int) < 4) = false := decide_eq_false h4i
            by_cases hq : 4 ≤ run
            · rw [decide_eq_true hq] at hz
              have HRR := hide hz
              clear hz
              clear H0 H1 H2
              go_wp2_with fail
              go_ret
              rw [HRR.out]
              exact ⟨rfl, HX.out⟩
            · rw [decide_eq_false hq] at hz
              have HRR := hide hz
              have hd : decide (4 ≤ run) = false := decide_eq_false hq
              clear hz
              clear H0 H1 H2
              go_wp2_with fail
              go_ret
              rw [HRR.out]
              exact ⟨rfl, HX.out⟩
        · by_cases hx1 : x = 1
          · subst hx1
            have hz := H1.out rfl
            have hw2 : IntKind.i64.wrap (IntKind.i64.wrap ((j : Int) - 1) - (y : Int)) = (j : Int) - 1 - (y : Int) := by rw [IntWalk.i64_in ((j : Int) - 1) (by omega)]; exact IntWalk.i64_in _ (by omega)
            have hw3 : IntKind.i64.wrap ((j : Int) - 1) = (j : Int) - 1 := IntWalk.i64_in _ (by omega)
            have hw4 : IntKind.i64.wrap ((j : Int) - 1 - (y : Int)) = (j : Int) - 1 - (y : Int) := IntWalk.i64_in _ (by omega)
            by_cases hq : run = (j : Int) - 1 - (y : Int)
            · rw [decide_eq_true hq] at hz
              have HRR := hide hz
              have hd : (run == (j : Int) - 1 - (y : Int)) = true := by rw [hq]; exact beq_self_eq_true _
              have HQ2 := hide hq
              clear hz hq
              clear H0 H1 H2
              go_wp2_with fail
              go_ret
              rw [HRR.out]
              exact ⟨rfl, HX.out⟩
            · rw [decide_eq_false hq] at hz
              have HRR := hide hz
              have hd : (run == (j : Int) - 1 - (y : Int)) = false := by simpa using hq
              have HQ2 := hide hq
              clear hz hq
              clear H0 H1 H2
              go_wp2_with fail
              go_ret
              rw [HRR.out]
              exact ⟨rfl, HX.out⟩
          · have hz := H2.out (by omega)
            have HRR := hide hz
            have hd : ((x : Int) == 1) = false := by simp; omega
            have hx2 : 0 < x := by omega
            clear hz
            clear H0 H1 H2
            go_wp2_with fail
            go_ret
            rw [HRR.out]
            exact ⟨rfl, HX.out⟩
  · by_cases hz : N = 0
    · have hr : fitsI mode run l = true := by
        unfold fitsI
        rw [if_pos h0, hN]
        exact decide_eq_true hz
      rw [hr]
      clear hle
      subst hz
      clear hr H0 H1 H2
      have HN := hide hN
      clear hN
      have HB := allocs_below w [.cells #[.int .i64 mode, .int .i64 run, .slice A 0 c, .int .i64 rej] 34]
      have K_p : Blk (allocs w [.cells #[.int .i64 mode, .int .i64 run, .slice A 0 c, .int .i64 rej] 34]) (w.heap.size + 0) 34 #[.int .i64 mode, .int .i64 run, .slice A 0 c, .int .i64 rej] := allocs_at w [.cells #[.int .i64 mode, .int .i64 run, .slice A 0 c, .int .i64 rej] 34] 0 rfl
      unfold allocs at HB K_p
      simp only [List.foldl_cons, List.foldl_nil] at HB K_p
      rw [Nat.add_zero] at K_p
      go_enter Tryz.func54, Tryz.ntmps54
      go_upto_region 1 with (fail)
      generalize (w.alloc (.cells #[.int .i64 mode, .int .i64 run, .slice A 0 c, .int .i64 rej] 34)) = w0 at *
      replace K_p := hide K_p
      replace HB := hide HB
      have p0 := (Blk.cell K_p.out 0).trans (rfl : _ = some (Value.int .i64 mode))
      have p1 := (Blk.cell K_p.out 1).trans (rfl : _ = some (Value.int .i64 run))
      have p2 := (Blk.cell K_p.out 2).trans (rfl : _ = some (Value.slice A 0 c))
      have p3 := (Blk.cell K_p.out 3).trans (rfl : _ = some (Value.int .i64 rej))
      go_wp2_with fail
      go_ret
      exact ⟨rfl, HB.out⟩
    · have hr : fitsI mode run l = false := by
        unfold fitsI
        rw [if_pos h0, hN]
        exact decide_eq_false hz
      rw [hr]
      clear hle
      have hd : ((N : Int) == 0) = false := by simp; omega
      clear hr H0 H1 H2
      have HN := hide hN
      clear hN
      have HB := allocs_below w [.cells #[.int .i64 mode, .int .i64 run, .slice A N c, .int .i64 rej] 34]
      have K_p : Blk (allocs w [.cells #[.int .i64 mode, .int .i64 run, .slice A N c, .int .i64 rej] 34]) (w.heap.size + 0) 34 #[.int .i64 mode, .int .i64 run, .slice A N c, .int .i64 rej] := allocs_at w [.cells #[.int .i64 mode, .int .i64 run, .slice A N c, .int .i64 rej] 34] 0 rfl
      unfold allocs at HB K_p
      simp only [List.foldl_cons, List.foldl_nil] at HB K_p
      rw [Nat.add_zero] at K_p
      go_enter Tryz.func54, Tryz.ntmps54
      go_upto_region 1 with (fail)
      generalize (w.alloc (.cells #[.int .i64 mode, .int .i64 run, .slice A N c, .int .i64 rej] 34)) = w0 at *
      replace K_p := hide K_p
      replace HB := hide HB
      have p0 := (Blk.cell K_p.out 0).trans (rfl : _ = some (Value.int .i64 mode))
      have p1 := (Blk.cell K_p.out 1).trans (rfl : _ = some (Value.int .i64 run))
      have p2 := (Blk.cell K_p.out 2).trans (rfl : _ = some (Value.slice A N c))
      have p3 := (Blk.cell K_p.out 3).trans (rfl : _ = some (Value.int .i64 rej))
      go_wp2_with fail
      go_ret
      exact ⟨rfl, HB.out⟩
set_option maxRecDepth 100000 in
set_option maxHeartbeats 4000000 in
theorem rswright_any (w : World) (mode run rej : Int) (v : Value) (l : List Bool) (hv : SlL w v (bcl l)) (hl : l.length ≤ 1000000) :
    Calls Tryz.prog 23 #[.agg #[.int .i64 mode, .int .i64 run, v, .int .i64 rej]] w fun e w' => e = .returned (.int .i64 (rightI mode run l rej)) ∧ Below w.heap.size w w' := by
  have HV := hide hv
  obtain ⟨A, c, rfl, -⟩ := hv
  rw [bcl_len] at HV ⊢
  obtain ⟨N, hN⟩ : ∃ N, l.length = N := ⟨_, rfl⟩
  have HFI := hide (fun (W : World) (h : SlL W (.slice A N c) (bcl l)) (h4 : l.length ≤ 4) => rfits_any W mode run rej _ l h h4)
  have HLO := hide (fun W => rlongest_any W mode)
  rw [hN] at HV HFI hl ⊢
  have hre := rightI_eq mode run l rej
  rw [hN] at hre
  by_cases c1 : mode < 0
  · rw [if_pos (by omega)] at hre
    have HR := hide hre
    clear hre
    have HN := hide hN
    clear hN
    have HB := allocs_below w [.cells #[.int .i64 mode, .int .i64 run, .slice A N c, .int .i64 rej] 34]
    have K_p : Blk (allocs w [.cells #[.int .i64 mode, .int .i64 run, .slice A N c, .int .i64 rej] 34]) (w.heap.size + 0) 34 #[.int .i64 mode, .int .i64 run, .slice A N c, .int .i64 rej] := allocs_at w [.cells #[.int .i64 mode, .int .i64 run, .slice A N c, .int .i64 rej] 34] 0 rfl
    unfold allocs at HB K_p
    simp only [List.foldl_cons, List.foldl_nil] at HB K_p
    rw [Nat.add_zero] at K_p
    go_enter Tryz.func23, Tryz.ntmps23
    go_upto_region 1 with (fail)
    generalize (w.alloc (.cells #[.int .i64 mode, .int .i64 run, .slice A N c, .int .i64 rej] 34)) = w0 at *
    replace K_p := hide K_p
    replace HB := hide HB
    have p0 := (Blk.cell K_p.out 0).trans (rfl : _ = some (Value.int .i64 mode))
    have p1 := (Blk.cell K_p.out 1).trans (rfl : _ = some (Value.int .i64 run))
    have p2 := (Blk.cell K_p.out 2).trans (rfl : _ = some (Value.slice A N c))
    have p3 := (Blk.cell K_p.out 3).trans (rfl : _ = some (Value.int .i64 rej))
    go_wp2_with fail
    go_ret
    rw [HR.out]
    exact ⟨rfl, HB.out⟩
  · by_cases c2 : 3 < mode
    · rw [if_pos (by omega)] at hre
      have HR := hide hre
      clear hre
      have HN := hide hN
      clear hN
      have HB := allocs_below w [.cells #[.int .i64 mode, .int .i64 run, .slice A N c, .int .i64 rej] 34]
      have K_p : Blk (allocs w [.cells #[.int .i64 mode, .int .i64 run, .slice A N c, .int .i64 rej] 34]) (w.heap.size + 0) 34 #[.int .i64 mode, .int .i64 run, .slice A N c, .int .i64 rej] := allocs_at w [.cells #[.int .i64 mode, .int .i64 run, .slice A N c, .int .i64 rej] 34] 0 rfl
      unfold allocs at HB K_p
      simp only [List.foldl_cons, List.foldl_nil] at HB K_p
      rw [Nat.add_zero] at K_p
      go_enter Tryz.func23, Tryz.ntmps23
      go_upto_region 1 with (fail)
      generalize (w.alloc (.cells #[.int .i64 mode, .int .i64 run, .slice A N c, .int .i64 rej] 34)) = w0 at *
      replace K_p := hide K_p
      replace HB := hide HB
      have p0 := (Blk.cell K_p.out 0).trans (rfl : _ = some (Value.int .i64 mode))
      have p1 := (Blk.cell K_p.out 1).trans (rfl : _ = some (Value.int .i64 run))
      have p2 := (Blk.cell K_p.out 2).trans (rfl : _ = some (Value.slice A N c))
      have p3 := (Blk.cell K_p.out 3).trans (rfl : _ = some (Value.int .i64 rej))
      go_wp2_with fail
      go_ret
      rw [HR.out]
      exact ⟨rfl, HB.out⟩
    · obtain ⟨lg, hlg⟩ : ∃ z, longI mode = z := ⟨_, rfl⟩
      rw [hlg] at hre HLO
      have HLG := hide hlg
      clear hlg
      by_cases c3 : run < 0
      · rw [if_neg (by omega)] at hre
        rw [if_pos (by omega)] at hre
        have HR := hide hre
        clear hre
        have HN := hide hN
        clear hN
        have hmd : decide (mode < 0) = false := decide_eq_false (by omega)
        have hd1 : decide (run < 0) = true := decide_eq_true c3
        have HB := allocs_below w [.cells #[.int .i64 mode, .int .i64 run, .slice A N c, .int .i64 rej] 34]
        have K_p : Blk (allocs w [.cells #[.int .i64 mode, .int .i64 run, .slice A N c, .int .i64 rej] 34]) (w.heap.size + 0) 34 #[.int .i64 mode, .int .i64 run, .slice A N c, .int .i64 rej] := allocs_at w [.cells #[.int .i64 mode, .int .i64 run, .slice A N c, .int .i64 rej] 34] 0 rfl
        unfold allocs at HB K_p
        simp only [List.foldl_cons, List.foldl_nil] at HB K_p
        rw [Nat.add_zero] at K_p
        go_enter Tryz.func23, Tryz.ntmps23
        go_upto_region 1 with (fail)
        generalize (w.alloc (.cells #[.int .i64 mode, .int .i64 run, .slice A N c, .int .i64 rej] 34)) = w0 at *
        replace K_p := hide K_p
        replace HB := hide HB
        have p0 := (Blk.cell K_p.out 0).trans (rfl : _ = some (Value.int .i64 mode))
        have p1 := (Blk.cell K_p.out 1).trans (rfl : _ = some (Value.int .i64 run))
        have p2 := (Blk.cell K_p.out 2).trans (rfl : _ = some (Value.slice A N c))
        have p3 := (Blk.cell K_p.out 3).trans (rfl : _ = some (Value.int .i64 rej))
        go_upto_region 3 with (fail)
        go_quiet (fail)
        go_wp2_with fail
        go_ret
        rw [HR.out]
        exact ⟨rfl, below_drewN HB.out _⟩
      · by_cases c4 : lg ≤ run
        · rw [if_neg (by omega)] at hre
          rw [if_pos (by omega)] at hre
          have HR := hide hre
          clear hre
          have HN := hide hN
          clear hN
          have hmd : decide (mode < 0) = false := decide_eq_false (by omega)
          have hd1 : decide (run < 0) = false := decide_eq_false c3
          have hd2 : decide (lg ≤ run) = true := decide_eq_true c4
          have HB := allocs_below w [.cells #[.int .i64 mode, .int .i64 run, .slice A N c, .int .i64 rej] 34]
          have K_p : Blk (allocs w [.cells #[.int .i64 mode, .int .i64 run, .slice A N c, .int .i64 rej] 34]) (w.heap.size + 0) 34 #[.int .i64 mode, .int .i64 run, .slice A N c, .int .i64 rej] := allocs_at w [.cells #[.int .i64 mode, .int .i64 run, .slice A N c, .int .i64 rej] 34] 0 rfl
          unfold allocs at HB K_p
          simp only [List.foldl_cons, List.foldl_nil] at HB K_p
          rw [Nat.add_zero] at K_p
          go_enter Tryz.func23, Tryz.ntmps23
          go_upto_region 1 with (fail)
          generalize (w.alloc (.cells #[.int .i64 mode, .int .i64 run, .slice A N c, .int .i64 rej] 34)) = w0 at *
          replace K_p := hide K_p
          replace HB := hide HB
          have p0 := (Blk.cell K_p.out 0).trans (rfl : _ = some (Value.int .i64 mode))
          have p1 := (Blk.cell K_p.out 1).trans (rfl : _ = some (Value.int .i64 run))
          have p2 := (Blk.cell K_p.out 2).trans (rfl : _ = some (Value.slice A N c))
          have p3 := (Blk.cell K_p.out 3).trans (rfl : _ = some (Value.int .i64 rej))
          go_upto_region 3 with (fail)
          go_quiet ((go_at_call 53; exact Calls.quiet_of_same (HLO.out _)))
          go_wp2_with fail
          go_ret
          rw [HR.out]
          exact ⟨rfl, below_drewN HB.out _⟩
        · by_cases c5 : rej < 0
          · rw [if_neg (by omega)] at hre
            rw [if_neg (by omega)] at hre
            rw [if_pos (by unfold fourI; split <;> omega)] at hre
            have HR := hide hre
            clear hre
            have HN := hide hN
            clear hN
            have hmd : decide (mode < 0) = false := decide_eq_false (by omega)
            have hd1 : decide (run < 0) = false := decide_eq_false c3
            have hd2 : decide (lg ≤ run) = false := decide_eq_false c4
            have hd3 : decide (rej < 0) = true := decide_eq_true c5
            have HB := allocs_below w [.cells #[.int .i64 mode, .int .i64 run, .slice A N c, .int .i64 rej] 34]
            have K_p : Blk (allocs w [.cells #[.int .i64 mode, .int .i64 run, .slice A N c, .int .i64 rej] 34]) (w.heap.size + 0) 34 #[.int .i64 mode, .int .i64 run, .slice A N c, .int .i64 rej] := allocs_at w [.cells #[.int .i64 mode, .int .i64 run, .slice A N c, .int .i64 rej] 34] 0 rfl
            unfold allocs at HB K_p
            simp only [List.foldl_cons, List.foldl_nil] at HB K_p
            rw [Nat.add_zero] at K_p
            go_enter Tryz.func23, Tryz.ntmps23
            go_upto_region 1 with (fail)
            generalize (w.alloc (.cells #[.int .i64 mode, .int .i64 run, .slice A N c, .int .i64 rej] 34)) = w0 at *
            replace K_p := hide K_p
            replace HB := hide HB
            have p0 := (Blk.cell K_p.out 0).trans (rfl : _ = some (Value.int .i64 mode))
            have p1 := (Blk.cell K_p.out 1).trans (rfl : _ = some (Value.int .i64 run))
            have p2 := (Blk.cell K_p.out 2).trans (rfl : _ = some (Value.slice A N c))
            have p3 := (Blk.cell K_p.out 3).trans (rfl : _ = some (Value.int .i64 rej))
            go_upto_region 3 with (fail)
            go_quiet ((go_at_call 53; exact Calls.quiet_of_same (HLO.out _)))
            go_wp2_with fail
            go_ret
            rw [HR.out]
            exact ⟨rfl, below_drewN HB.out _⟩
          · by_cases c6 : 4 < rej
            · rw [if_neg (by omega)] at hre
              rw [if_neg (by omega)] at hre
              rw [if_pos (by unfold fourI; split <;> omega)] at hre
              have HR := hide hre
              clear hre
              have HN := hide hN
              clear hN
              have hmd : decide (mode < 0) = false := decide_eq_false (by omega)
              have hd1 : decide (run < 0) = false := decide_eq_false c3
              have hd2 : decide (lg ≤ run) = false := decide_eq_false c4
              have hd3 : decide (rej < 0) = false := decide_eq_false c5
              have hd4 : decide (4 < rej) = true := decide_eq_true c6
              have HB := allocs_below w [.cells #[.int .i64 mode, .int .i64 run, .slice A N c, .int .i64 rej] 34]
              have K_p : Blk (allocs w [.cells #[.int .i64 mode, .int .i64 run, .slice A N c, .int .i64 rej] 34]) (w.heap.size + 0) 34 #[.int .i64 mode, .int .i64 run, .slice A N c, .int .i64 rej] := allocs_at w [.cells #[.int .i64 mode, .int .i64 run, .slice A N c, .int .i64 rej] 34] 0 rfl
              unfold allocs at HB K_p
              simp only [List.foldl_cons, List.foldl_nil] at HB K_p
              rw [Nat.add_zero] at K_p
              go_enter Tryz.func23, Tryz.ntmps23
              go_upto_region 1 with (fail)
              generalize (w.alloc (.cells #[.int .i64 mode, .int .i64 run, .slice A N c, .int .i64 rej] 34)) = w0 at *
              replace K_p := hide K_p
              replace HB := hide HB
              have p0 := (Blk.cell K_p.out 0).trans (rfl : _ = some (Value.int .i64 mode))
              have p1 := (Blk.cell K_p.out 1).trans (rfl : _ = some (Value.int .i64 run))
              have p2 := (Blk.cell K_p.out 2).trans (rfl : _ = some (Value.slice A N c))
              have p3 := (Blk.cell K_p.out 3).trans (rfl : _ = some (Value.int .i64 rej))
              go_upto_region 3 with (fail)
              go_quiet ((go_at_call 53; exact Calls.quiet_of_same (HLO.out _)))
              go_wp2_with fail
              go_ret
              rw [HR.out]
              exact ⟨rfl, below_drewN HB.out _⟩
            · by_cases c7 : 0 < rej ∧ ¬ mode = 1
              · rw [if_neg (by omega)] at hre
                rw [if_neg (by omega)] at hre
                rw [if_pos (by unfold fourI; split <;> omega)] at hre
                have HR := hide hre
                clear hre
                have HN := hide hN
                clear hN
                have hmd : decide (mode < 0) = false := decide_eq_false (by omega)
                have hd1 : decide (run < 0) = false := decide_eq_false c3
                have hd2 : decide (lg ≤ run) = false := decide_eq_false c4
                have hd3 : decide (rej < 0) = false := decide_eq_false c5
                have hd4 : decide (4 < rej) = false := decide_eq_false c6
                obtain ⟨c7, hm1⟩ := c7
                have hd5 : decide (0 < rej) = true := decide_eq_true c7
                have hd6 : (mode == 1) = false := by simpa using hm1
                have HB := allocs_below w [.cells #[.int .i64 mode, .int .i64 run, .slice A N c, .int .i64 rej] 34]
                have K_p : Blk (allocs w [.cells #[.int .i64 mode, .int .i64 run, .slice A N c, .int .i64 rej] 34]) (w.heap.size + 0) 34 #[.int .i64 mode, .int .i64 run, .slice A N c, .int .i64 rej] := allocs_at w [.cells #[.int .i64 mode, .int .i64 run, .slice A N c, .int .i64 rej] 34] 0 rfl
                unfold allocs at HB K_p
                simp only [List.foldl_cons, List.foldl_nil] at HB K_p
                rw [Nat.add_zero] at K_p
                go_enter Tryz.func23, Tryz.ntmps23
                go_upto_region 1 with (fail)
                generalize (w.alloc (.cells #[.int .i64 mode, .int .i64 run, .slice A N c, .int .i64 rej] 34)) = w0 at *
                replace K_p := hide K_p
                replace HB := hide HB
                have p0 := (Blk.cell K_p.out 0).trans (rfl : _ = some (Value.int .i64 mode))
                have p1 := (Blk.cell K_p.out 1).trans (rfl : _ = some (Value.int .i64 run))
                have p2 := (Blk.cell K_p.out 2).trans (rfl : _ = some (Value.slice A N c))
                have p3 := (Blk.cell K_p.out 3).trans (rfl : _ = some (Value.int .i64 rej))
                go_upto_region 3 with (fail)
                go_quiet ((go_at_call 53; exact Calls.quiet_of_same (HLO.out _)))
                go_wp2_with fail
                go_ret
                rw [HR.out]
                exact ⟨rfl, below_drewN HB.out _⟩
              · by_cases hr0 : rej = 0
                · subst hr0
                  by_cases c8 : 4 < N
                  · rw [if_neg (by omega)] at hre
                    rw [if_neg (by omega)] at hre
                    rw [if_neg (by unfold fourI; split <;> omega)] at hre
                    rw [if_pos c8] at hre
                    have HR := hide hre
                    clear hre
                    have HN := hide hN
                    clear hN
                    have hmd : decide (mode < 0) = false := decide_eq_false (by omega)
                    have hd1 : decide (run < 0) = false := decide_eq_false c3
                    have hd2 : decide (lg ≤ run) = false := decide_eq_false c4
                    have hd7 : (4 : Int) < (N : Int) := by omega
                    have HB := allocs_below w [.cells #[.int .i64 mode, .int .i64 run, .slice A N c, .int .i64 0] 34]
                    have K_p : Blk (allocs w [.cells #[.int .i64 mode, .int .i64 run, .slice A N c, .int .i64 0] 34]) (w.heap.size + 0) 34 #[.int .i64 mode, .int .i64 run, .slice A N c, .int .i64 0] := allocs_at w [.cells #[.int .i64 mode, .int .i64 run, .slice A N c, .int .i64 0] 34] 0 rfl
                    unfold allocs at HB K_p
                    simp only [List.foldl_cons, List.foldl_nil] at HB K_p
                    rw [Nat.add_zero] at K_p
                    go_enter Tryz.func23, Tryz.ntmps23
                    go_upto_region 1 with (fail)
                    generalize (w.alloc (.cells #[.int .i64 mode, .int .i64 run, .slice A N c, .int .i64 0] 34)) = w0 at *
                    replace K_p := hide K_p
                    replace HB := hide HB
                    have p0 := (Blk.cell K_p.out 0).trans (rfl : _ = some (Value.int .i64 mode))
                    have p1 := (Blk.cell K_p.out 1).trans (rfl : _ = some (Value.int .i64 run))
                    have p2 := (Blk.cell K_p.out 2).trans (rfl : _ = some (Value.slice A N c))
                    have p3 := (Blk.cell K_p.out 3).trans (rfl : _ = some (Value.int .i64 0))
                    go_upto_region 3 with (fail)
                    go_quiet ((go_at_call 53; exact Calls.quiet_of_same (HLO.out _)))
                    go_wp2_with fail
                    go_ret
                    rw [HR.out]
                    exact ⟨rfl, below_drewN HB.out _⟩
                  · by_cases c9 : fitsI mode run l = false
                    · rw [if_neg (by omega)] at hre
                      rw [if_neg (by omega)] at hre
                      rw [if_neg (by unfold fourI; split <;> omega)] at hre
                      rw [if_neg c8] at hre
                      rw [if_pos c9] at hre
                      have HR := hide hre
                      clear hre
                      have HF2 := hide (fun W h => HFI.out W h (by omega))
                      rw [c9] at HF2
                      clear c9
                      have HN := hide hN
                      clear hN
                      have hmd : decide (mode < 0) = false := decide_eq_false (by omega)
                      have hd1 : decide (run < 0) = false := decide_eq_false c3
                      have hd2 : decide (lg ≤ run) = false := decide_eq_false c4
                      have hd7 : ¬ (4 : Int) < (N : Int) := by omega
                      have HB := allocs_below w [.cells #[.int .i64 mode, .int .i64 run, .slice A N c, .int .i64 0] 34]
                      have K_p : Blk (allocs w [.cells #[.int .i64 mode, .int .i64 run, .slice A N c, .int .i64 0] 34]) (w.heap.size + 0) 34 #[.int .i64 mode, .int .i64 run, .slice A N c, .int .i64 0] := allocs_at w [.cells #[.int .i64 mode, .int .i64 run, .slice A N c, .int .i64 0] 34] 0 rfl
                      unfold allocs at HB K_p
                      simp only [List.foldl_cons, List.foldl_nil] at HB K_p
                      rw [Nat.add_zero] at K_p
                      go_enter Tryz.func23, Tryz.ntmps23
                      go_upto_region 1 with (fail)
                      generalize (w.alloc (.cells #[.int .i64 mode, .int .i64 run, .slice A N c, .int .i64 0] 34)) = w0 at *
                      replace K_p := hide K_p
                      replace HB := hide HB
                      have p0 := (Blk.cell K_p.out 0).trans (rfl : _ = some (Value.int .i64 mode))
                      have p1 := (Blk.cell K_p.out 1).trans (rfl : _ = some (Value.int .i64 run))
                      have p2 := (Blk.cell K_p.out 2).trans (rfl : _ = some (Value.slice A N c))
                      have p3 := (Blk.cell K_p.out 3).trans (rfl : _ = some (Value.int .i64 0))
                      go_upto_region 3 with (fail)
                      go_quiet ((go_at_call 53; exact Calls.quiet_of_same (HLO.out _)))
                      go_wp2_with fail
                      refine (HF2.out _ (HV.out.below ?bel)).mono ?_
                      case bel => exact below_drewN HB.out _
                      rintro e w1 ⟨rfl, hb⟩
                      have HX := hide ((below_drewN HB.out _).trans (hb.mono HB.out.size))
                      clear hb
                      go_wp2_with fail
                      go_ret
                      rw [HR.out]
                      exact ⟨rfl, HX.out⟩
                    · rw [if_neg (by omega)] at hre
                      rw [if_neg (by omega)] at hre
                      rw [if_neg (by unfold fourI; split <;> omega)] at hre
                      rw [if_neg c8] at hre
                      rw [if_neg c9] at hre
                      have HR := hide hre
                      clear hre
                      have HF2 := hide (fun W h => HFI.out W h (by omega))
                      rw [show fitsI _ run l = true by simpa using c9] at HF2
                      clear c9
                      have HN := hide hN
                      clear hN
                      have hmd : decide (mode < 0) = false := decide_eq_false (by omega)
                      have hd1 : decide (run < 0) = false := decide_eq_false c3
                      have hd2 : decide (lg ≤ run) = false := decide_eq_false c4
                      have hd7 : ¬ (4 : Int) < (N : Int) := by omega
                      have HB := allocs_below w [.cells #[.int .i64 mode, .int .i64 run, .slice A N c, .int .i64 0] 34]
                      have K_p : Blk (allocs w [.cells #[.int .i64 mode, .int .i64 run, .slice A N c, .int .i64 0] 34]) (w.heap.size + 0) 34 #[.int .i64 mode, .int .i64 run, .slice A N c, .int .i64 0] := allocs_at w [.cells #[.int .i64 mode, .int .i64 run, .slice A N c, .int .i64 0] 34] 0 rfl
                      unfold allocs at HB K_p
                      simp only [List.foldl_cons, List.foldl_nil] at HB K_p
                      rw [Nat.add_zero] at K_p
                      go_enter Tryz.func23, Tryz.ntmps23
                      go_upto_region 1 with (fail)
                      generalize (w.alloc (.cells #[.int .i64 mode, .int .i64 run, .slice A N c, .int .i64 0] 34)) = w0 at *
                      replace K_p := hide K_p
                      replace HB := hide HB
                      have p0 := (Blk.cell K_p.out 0).trans (rfl : _ = some (Value.int .i64 mode))
                      have p1 := (Blk.cell K_p.out 1).trans (rfl : _ = some (Value.int .i64 run))
                      have p2 := (Blk.cell K_p.out 2).trans (rfl : _ = some (Value.slice A N c))
                      have p3 := (Blk.cell K_p.out 3).trans (rfl : _ = some (Value.int .i64 0))
                      go_upto_region 3 with (fail)
                      go_quiet ((go_at_call 53; exact Calls.quiet_of_same (HLO.out _)))
                      go_wp2_with fail
                      refine (HF2.out _ (HV.out.below ?bel)).mono ?_
                      case bel => exact below_drewN HB.out _
                      rintro e w1 ⟨rfl, hb⟩
                      have HX := hide ((below_drewN HB.out _).trans (hb.mono HB.out.size))
                      clear hb
                      go_wp2_with fail
                      go_ret
                      rw [HR.out]
                      exact ⟨rfl, HX.out⟩
                · obtain rfl : mode = 1 := by omega
                  by_cases c8 : 4 < N
                  · rw [if_neg (by omega)] at hre
                    rw [if_neg (by omega)] at hre
                    rw [if_neg (by unfold fourI; split <;> omega)] at hre
                    rw [if_pos c8] at hre
                    have HR := hide hre
                    clear hre
                    have HN := hide hN
                    clear hN
                    have hd1 : decide (run < 0) = false := decide_eq_false c3
                    have hd2 : decide (lg ≤ run) = false := decide_eq_false c4
                    have hd3 : decide (rej < 0) = false := decide_eq_false c5
                    have hd4 : decide (4 < rej) = false := decide_eq_false c6
                    have hrp : 0 < rej := by omega
                    have hd7 : (4 : Int) < (N : Int) := by omega
                    have HB := allocs_below w [.cells #[.int .i64 1, .int .i64 run, .slice A N c, .int .i64 rej] 34]
                    have K_p : Blk (allocs w [.cells #[.int .i64 1, .int .i64 run, .slice A N c, .int .i64 rej] 34]) (w.heap.size + 0) 34 #[.int .i64 1, .int .i64 run, .slice A N c, .int .i64 rej] := allocs_at w [.cells #[.int .i64 1, .int .i64 run, .slice A N c, .int .i64 rej] 34] 0 rfl
                    unfold allocs at HB K_p
                    simp only [List.foldl_cons, List.foldl_nil] at HB K_p
                    rw [Nat.add_zero] at K_p
                    go_enter Tryz.func23, Tryz.ntmps23
                    go_upto_region 1 with (fail)
                    generalize (w.alloc (.cells #[.int .i64 1, .int .i64 run, .slice A N c, .int .i64 rej] 34)) = w0 at *
                    replace K_p := hide K_p
                    replace HB := hide HB
                    have p0 := (Blk.cell K_p.out 0).trans (rfl : _ = some (Value.int .i64 1))
                    have p1 := (Blk.cell K_p.out 1).trans (rfl : _ = some (Value.int .i64 run))
                    have p2 := (Blk.cell K_p.out 2).trans (rfl : _ = some (Value.slice A N c))
                    have p3 := (Blk.cell K_p.out 3).trans (rfl : _ = some (Value.int .i64 rej))
                    go_upto_region 3 with (fail)
                    go_quiet ((go_at_call 53; exact Calls.quiet_of_same (HLO.out _)))
                    go_wp2_with fail
                    go_ret
                    rw [HR.out]
                    exact ⟨rfl, below_drewN HB.out _⟩
                  · by_cases c9 : fitsI 1 run l = false
                    · rw [if_neg (by omega)] at hre
                      rw [if_neg (by omega)] at hre
                      rw [if_neg (by unfold fourI; split <;> omega)] at hre
                      rw [if_neg c8] at hre
                      rw [if_pos c9] at hre
                      have HR := hide hre
                      clear hre
                      have HF2 := hide (fun W h => HFI.out W h (by omega))
                      rw [c9] at HF2
                      clear c9
                      have HN := hide hN
                      clear hN
                      have hd1 : decide (run < 0) = false := decide_eq_false c3
                      have hd2 : decide (lg ≤ run) = false := decide_eq_false c4
                      have hd3 : decide (rej < 0) = false := decide_eq_false c5
                      have hd4 : decide (4 < rej) = false := decide_eq_false c6
                      have hrp : 0 < rej := by omega
                      have hd7 : ¬ (4 : Int) < (N : Int) := by omega
                      have HB := allocs_below w [.cells #[.int .i64 1, .int .i64 run, .slice A N c, .int .i64 rej] 34]
                      have K_p : Blk (allocs w [.cells #[.int .i64 1, .int .i64 run, .slice A N c, .int .i64 rej] 34]) (w.heap.size + 0) 34 #[.int .i64 1, .int .i64 run, .slice A N c, .int .i64 rej] := allocs_at w [.cells #[.int .i64 1, .int .i64 run, .slice A N c, .int .i64 rej] 34] 0 rfl
                      unfold allocs at HB K_p
                      simp only [List.foldl_cons, List.foldl_nil] at HB K_p
                      rw [Nat.add_zero] at K_p
                      go_enter Tryz.func23, Tryz.ntmps23
                      go_upto_region 1 with (fail)
                      generalize (w.alloc (.cells #[.int .i64 1, .int .i64 run, .slice A N c, .int .i64 rej] 34)) = w0 at *
                      replace K_p := hide K_p
                      replace HB := hide HB
                      have p0 := (Blk.cell K_p.out 0).trans (rfl : _ = some (Value.int .i64 1))
                      have p1 := (Blk.cell K_p.out 1).trans (rfl : _ = some (Value.int .i64 run))
                      have p2 := (Blk.cell K_p.out 2).trans (rfl : _ = some (Value.slice A N c))
                      have p3 := (Blk.cell K_p.out 3).trans (rfl : _ = some (Value.int .i64 rej))
                      go_upto_region 3 with (fail)
                      go_quiet ((go_at_call 53; exact Calls.quiet_of_same (HLO.out _)))
                      go_wp2_with fail
                      refine (HF2.out _ (HV.out.below ?bel)).mono ?_
                      case bel => exact below_drewN HB.out _
                      rintro e w1 ⟨rfl, hb⟩
                      have HX := hide ((below_drewN HB.out _).trans (hb.mono HB.out.size))
                      clear hb
                      go_wp2_with fail
                      go_ret
                      rw [HR.out]
                      exact ⟨rfl, HX.out⟩
                    · rw [if_neg (by omega)] at hre
                      rw [if_neg (by omega)] at hre
                      rw [if_neg (by unfold fourI; split <;> omega)] at hre
                      rw [if_neg c8] at hre
                      rw [if_neg c9] at hre
                      have HR := hide hre
                      clear hre
                      have HF2 := hide (fun W h => HFI.out W h (by omega))
                      rw [show fitsI _ run l = true by simpa using c9] at HF2
                      clear c9
                      have HN := hide hN
                      clear hN
                      have hd1 : decide (run < 0) = false := decide_eq_false c3
                      have hd2 : decide (lg ≤ run) = false := decide_eq_false c4
                      have hd3 : decide (rej < 0) = false := decide_eq_false c5
                      have hd4 : decide (4 < rej) = false := decide_eq_false c6
                      have hrp : 0 < rej := by omega
                      have hd7 : ¬ (4 : Int) < (N : Int) := by omega
                      have HB := allocs_below w [.cells #[.int .i64 1, .int .i64 run, .slice A N c, .int .i64 rej] 34]
                      have K_p : Blk (allocs w [.cells #[.int .i64 1, .int .i64 run, .slice A N c, .int .i64 rej] 34]) (w.heap.size + 0) 34 #[.int .i64 1, .int .i64 run, .slice A N c, .int .i64 rej] := allocs_at w [.cells #[.int .i64 1, .int .i64 run, .slice A N c, .int .i64 rej] 34] 0 rfl
                      unfold allocs at HB K_p
                      simp only [List.foldl_cons, List.foldl_nil] at HB K_p
                      rw [Nat.add_zero] at K_p
                      go_enter Tryz.func23, Tryz.ntmps23
                      go_upto_region 1 with (fail)
                      generalize (w.alloc (.cells #[.int .i64 1, .int .i64 run, .slice A N c, .int .i64 rej] 34)) = w0 at *
                      replace K_p := hide K_p
                      replace HB := hide HB
                      have p0 := (Blk.cell K_p.out 0).trans (rfl : _ = some (Value.int .i64 1))
                      have p1 := (Blk.cell K_p.out 1).trans (rfl : _ = some (Value.int .i64 run))
                      have p2 := (Blk.cell K_p.out 2).trans (rfl : _ = some (Value.slice A N c))
                      have p3 := (Blk.cell K_p.out 3).trans (rfl : _ = some (Value.int .i64 rej))
                      go_upto_region 3 with (fail)
                      go_quiet ((go_at_call 53; exact Calls.quiet_of_same (HLO.out _)))
                      go_wp2_with fail
                      refine (HF2.out _ (HV.out.below ?bel)).mono ?_
                      case bel => exact below_drewN HB.out _
                      rintro e w1 ⟨rfl, hb⟩
                      have HX := hide ((below_drewN HB.out _).trans (hb.mono HB.out.size))
                      clear hb
                      go_wp2_with fail
                      go_ret
                      rw [HR.out]
                      exact ⟨rfl, HX.out⟩
end Go.Proofs.YthmmgjieppknkaaGreatDoor

namespace Go.Proofs.YthmmgjieppknkaaGreatDoor
open Go.RowKit MLab
theorem bitsL_snoc (l : List Bool) (b : Bool) : bitsL (l ++ [b]) = 2 * bitsL l + (if b then 1 else 0) := by simp [bitsL]
theorem bitsL_le : ∀ l : List Bool, bitsL l < 2 ^ (l.length + 1) := by
  intro l
  have h : ∀ (l : List Bool) (a n : Nat), a < 2 ^ n → l.foldl (fun a b => 2 * a + (if b then 1 else 0)) a < 2 ^ (l.length + n) := by
    intro l
    induction l with
    | nil => intro a n h; simpa using h
    | cons b l ih =>
      intro a n h
      rw [List.foldl_cons, List.length_cons, show l.length + 1 + n = l.length + (n + 1) by omega]
      refine ih _ _ ?_
      rw [Nat.pow_succ]
      split <;> omega
  exact h l 1 1 (by omega)
set_option maxRecDepth 100000 in
set_option maxHeartbeats 2000000 in
theorem ofS_any (w : World) (mode run rej : Int) (v : Value) (l : List Bool) (hv : SlL w v (bcl l)) (hl : l.length ≤ 4) :
    Calls Tryz.prog 56 #[.agg #[.int .i64 mode, .int .i64 run, v, .int .i64 rej]] w fun e w' => e = .returned (.agg #[.int .i64 mode, .int .i64 run, .int .i64 (bitsL l : Int), .int .i64 rej]) ∧ Below w.heap.size w w' := by
  obtain ⟨A, c, rfl, -, hc⟩ := hv
  rw [bcl_len] at hc ⊢
  have HC := hide hc
  clear hc
  obtain ⟨N, hN⟩ : ∃ N, l.length = N := ⟨_, rfl⟩
  rw [hN] at HC hl ⊢
  have HN := hide hN
  clear hN
  have HB := allocs_below w [.cells #[.int .i64 mode, .int .i64 run, .slice A N c, .int .i64 rej] 29, .cells #[.int .i64 0, .int .i64 0, .int .i64 0, .int .i64 0] 105]
  have K_x : Blk (allocs w [.cells #[.int .i64 mode, .int .i64 run, .slice A N c, .int .i64 rej] 29, .cells #[.int .i64 0, .int .i64 0, .int .i64 0, .int .i64 0] 105]) (w.heap.size + 0) 29 #[.int .i64 mode, .int .i64 run, .slice A N c, .int .i64 rej] := allocs_at w [.cells #[.int .i64 mode, .int .i64 run, .slice A N c, .int .i64 rej] 29, .cells #[.int .i64 0, .int .i64 0, .int .i64 0, .int .i64 0] 105] 0 rfl
  have K_r : Blk (allocs w [.cells #[.int .i64 mode, .int .i64 run, .slice A N c, .int .i64 rej] 29, .cells #[.int .i64 0, .int .i64 0, .int .i64 0, .int .i64 0] 105]) (w.heap.size + 1) 105 #[.int .i64 0, .int .i64 0, .int .i64 0, .int .i64 0] := allocs_at w [.cells #[.int .i64 mode, .int .i64 run, .slice A N c, .int .i64 rej] 29, .cells #[.int .i64 0, .int .i64 0, .int .i64 0, .int .i64 0] 105] 1 rfl
  unfold allocs at HB K_x K_r
  simp only [List.foldl_cons, List.foldl_nil] at HB K_x K_r
  rw [Nat.add_zero] at K_x
  go_enter Tryz.func56, Tryz.ntmps56
  go_upto_region 1 with (fail)
  generalize ((w.alloc (.cells #[.int .i64 mode, .int .i64 run, .slice A N c, .int .i64 rej] 29)).alloc (.cells #[.int .i64 0, .int .i64 0, .int .i64 0, .int .i64 0] 105)) = w0 at *
  replace K_x := hide K_x
  replace K_r := hide K_r
  replace HB := hide HB
  have x0 := (Blk.cell K_x.out 0).trans (rfl : _ = some (Value.int .i64 mode))
  have x1 := (Blk.cell K_x.out 1).trans (rfl : _ = some (Value.int .i64 run))
  have x2 := (Blk.cell K_x.out 2).trans (rfl : _ = some (Value.slice A N c))
  have x3 := (Blk.cell K_x.out 3).trans (rfl : _ = some (Value.int .i64 rej))
  go_upto_region 2 with (fail)
  clear x0 x1 x2 x3
  have hbs_q : w.heap.size ≤ w0.heap.size := HB.out.size
  have lt_q_x : w.heap.size < w0.heap.size := Blk.lt K_x.out
  have lt_q_r : (w.heap.size + 1) < w0.heap.size := Blk.lt K_r.out
  replace K_x := K_x.out.alloc (.cells #[.int .i64 mode, .int .i64 run, .int .i64 1, .int .i64 rej] 105)
  replace K_r := K_r.out.alloc (.cells #[.int .i64 mode, .int .i64 run, .int .i64 1, .int .i64 rej] 105)
  replace HB := HB.out.alloc HB.out.size (.cells #[.int .i64 mode, .int .i64 run, .int .i64 1, .int .i64 rej] 105)
  have K_q := Blk.new w0 105 #[.int .i64 mode, .int .i64 run, .int .i64 1, .int .i64 rej]
  generalize w0.alloc (.cells #[.int .i64 mode, .int .i64 run, .int .i64 1, .int .i64 rej] 105) = w1 at *
  replace K_x := hide K_x
  replace K_r := hide K_r
  replace K_q := hide K_q
  replace HB := hide HB
  have x0 := (Blk.cell K_x.out 0).trans (rfl : _ = some (Value.int .i64 mode))
  have x1 := (Blk.cell K_x.out 1).trans (rfl : _ = some (Value.int .i64 run))
  have x2 := (Blk.cell K_x.out 2).trans (rfl : _ = some (Value.slice A N c))
  have x3 := (Blk.cell K_x.out 3).trans (rfl : _ = some (Value.int .i64 rej))
  go_wp2_with fail
  have hxb := Blk.lt K_x.out
  have hrb := Blk.lt K_r.out
  have HRQ := hide (show (w.heap.size + 1) ≠ w0.heap.size from by have := lt_q_r; omega)
  have HWQ := hide (show w.heap.size ≤ w0.heap.size from hbs_q)
  go_loopg [16] N (fun z iv wr => ∃ j : Nat, iv = .int .i64 (j : Int) ∧ z + j = N ∧ Blk wr (w0.heap.size) 105 #[.int .i64 mode, .int .i64 run, .int .i64 (bitsL (l.take j) : Int), .int .i64 rej] ∧ Blk wr (w.heap.size + 1) 105 #[.int .i64 0, .int .i64 0, .int .i64 0, .int .i64 0] ∧ Below w.heap.size w wr)
  case atStart => exact ⟨0, rfl, rfl, K_q.out, K_r.out, HB.out⟩
  case round =>
    obtain ⟨j, rfl, hq, hkq, hkr, hb⟩ := hrel
    have HQ := hide hq
    have KQ := hide hkq
    have KR := hide hkr
    have HBR := hide hb
    have hj : j ≤ N := by omega
    clear hq hkq hkr hb x0 x1 x2 x3 K_q K_r K_x HB
    by_cases hlt : j < N
    · have hji : (j : Int) < (N : Int) := by omega
      have hj0 : (0 : Int) ≤ (j : Int) := by omega
      obtain ⟨g, og, rfl, hcell⟩ := HC.out (by omega)
      obtain ⟨b, hx⟩ : ∃ b, l[j]? = some b := ⟨_, List.getElem?_eq_getElem (by rw [HN.out]; exact hlt)⟩
      have a := hcell j _ (bcl_at hx)
      have a2 := (bcell HBR.out _ _ (block_lt_of_cell a)).trans a
      have hgw : g < w.heap.size := block_lt_of_cell a
      have HG := hide (show g ≠ w0.heap.size from by have := HWQ.out; omega)
      have hbl := bitsL_le (l.take j)
      have hlen : (l.take j).length = j := by rw [List.length_take, HN.out]; omega
      rw [hlen] at hbl
      have hp5 : 2 ^ (j + 1) ≤ 2 ^ 4 := Nat.pow_le_pow_right (by omega) (by omega)
      have HT := hide (show bitsL (l.take (j + 1)) = 2 * bitsL (l.take j) + (if b then 1 else 0) by rw [List.take_add_one, hx]; exact bitsL_snoc _ _)
      clear a hcell hx HC hlen
      obtain ⟨u, hu⟩ : ∃ u, bitsL (l.take j) = u := ⟨_, rfl⟩
      rw [hu] at HT hbl KQ
      have hub : u < 16 := by omega
      clear hu hbl hp5
      have hw1 : IntKind.i64.wrap ((u : Int) * 2) = ((2 * u : Nat) : Int) := (IntWalk.i64_in _ (by omega)).trans (by omega)
      have hw2 : IntKind.i64.wrap (((2 * u : Nat) : Int) + 1) = ((2 * u + 1 : Nat) : Int) := (IntWalk.i64_in _ (by omega)).trans (by omega)
      obtain ⟨u2, hu2⟩ : ∃ u2, 2 * u = u2 := ⟨_, rfl⟩
      rw [hu2] at hw1 hw2 HT
      have HU2 := hide hu2
      clear hu2
      have y2 := (Blk.cell KQ.out 2).trans (rfl : _ = some (Value.int .i64 (u : Int)))
      have yf2 := Blk.frozen KQ.out 2
      have K1 := hide (KQ.out.set_ 2 (.int .i64 (u2 : Int)))
      have R1 := hide (KR.out.far (p := ⟨w0.heap.size, 2, none⟩) HRQ.out (.int .i64 (u2 : Int)))
      have B1 := hide (HBR.out.setCell (p := ⟨w0.heap.size, 2, none⟩) HWQ.out (.int .i64 (u2 : Int)))
      go_upto_region 6 with (fail)
      generalize wr.setCell ⟨w0.heap.size, 2, none⟩ (.int .i64 (u2 : Int)) = w5 at *
      clear y2 yf2
      cases b with
      | false =>
        go_wp2_with fail
        go_roundg (gk - 1)
        case measure => have := HQ.out; omega
        case rel => exact ⟨j + 1, by go_num, by have := HQ.out; omega, by rw [HT.out]; exact K1.out, R1.out, B1.out⟩
      | true =>
        have z2 := (Blk.cell K1.out 2).trans (rfl : _ = some (Value.int .i64 (u2 : Int)))
        have zf2 := Blk.frozen K1.out 2
        go_wp2_with fail
        go_roundg (gk - 1)
        case measure => have := HQ.out; omega
        case rel => exact ⟨j + 1, by go_num, by have := HQ.out; omega, by rw [HT.out]; exact K1.out.set_ 2 _, R1.out.far (p := ⟨w0.heap.size, 2, none⟩) HRQ.out _, B1.out.setCell (p := ⟨w0.heap.size, 2, none⟩) HWQ.out _⟩
    · have hji : ¬ (j : Int) < (N : Int) := by omega
      have hjN : j = N := by omega
      have hT : l.take j = l := by rw [hjN, ← HN.out, List.take_length]
      rw [hT] at KQ
      subst hjN
      clear hT
      have K_q := KQ
      have K_r := KR
      have q0 := (Blk.cell K_q.out 0).trans (rfl : _ = some (Value.int .i64 mode))
      have q1 := (Blk.cell K_q.out 1).trans (rfl : _ = some (Value.int .i64 run))
      have q2 := (Blk.cell K_q.out 2).trans (rfl : _ = some (Value.int .i64 (bitsL l : Int)))
      have q3 := (Blk.cell K_q.out 3).trans (rfl : _ = some (Value.int .i64 rej))
      have r0 := (Blk.cell K_r.out 0).trans (rfl : _ = some (Value.int .i64 0))
      have rf0 := Blk.frozen K_r.out 0
      have r1 := (Blk.cell K_r.out 1).trans (rfl : _ = some (Value.int .i64 0))
      have rf1 := Blk.frozen K_r.out 1
      have r2 := (Blk.cell K_r.out 2).trans (rfl : _ = some (Value.int .i64 0))
      have rf2 := Blk.frozen K_r.out 2
      have r3 := (Blk.cell K_r.out 3).trans (rfl : _ = some (Value.int .i64 0))
      have rf3 := Blk.frozen K_r.out 3
      go_wp2_with fail
      have rc0 := (Blk.cell ((((K_r.out.set_ 0 (.int .i64 mode)).set_ 1 (.int .i64 run)).set_ 2 (.int .i64 (bitsL l : Int))).set_ 3 (.int .i64 rej)) 0).trans (rfl : _ = some (Value.int .i64 mode))
      have rc1 := (Blk.cell ((((K_r.out.set_ 0 (.int .i64 mode)).set_ 1 (.int .i64 run)).set_ 2 (.int .i64 (bitsL l : Int))).set_ 3 (.int .i64 rej)) 1).trans (rfl : _ = some (Value.int .i64 run))
      have rc2 := (Blk.cell ((((K_r.out.set_ 0 (.int .i64 mode)).set_ 1 (.int .i64 run)).set_ 2 (.int .i64 (bitsL l : Int))).set_ 3 (.int .i64 rej)) 2).trans (rfl : _ = some (Value.int .i64 (bitsL l : Int)))
      have rc3 := (Blk.cell ((((K_r.out.set_ 0 (.int .i64 mode)).set_ 1 (.int .i64 run)).set_ 2 (.int .i64 (bitsL l : Int))).set_ 3 (.int .i64 rej)) 3).trans (rfl : _ = some (Value.int .i64 rej))
      exact bodyPost_ret (v := .agg #[.int .i64 mode, .int .i64 run, .int .i64 (bitsL l : Int), .int .i64 rej]) (by simp [results, Tryz.results56, go_sem, rc0, rc1, rc2, rc3]) rfl ⟨rfl, ((((HBR.out.setCell (p := ⟨(w.heap.size + 1), 0, none⟩) (by show w.heap.size ≤ (w.heap.size + 1); omega) (.int .i64 mode)).setCell (p := ⟨(w.heap.size + 1), 1, none⟩) (by show w.heap.size ≤ (w.heap.size + 1); omega) (.int .i64 run)).setCell (p := ⟨(w.heap.size + 1), 2, none⟩) (by show w.heap.size ≤ (w.heap.size + 1); omega) (.int .i64 (bitsL l : Int))).setCell (p := ⟨(w.heap.size + 1), 3, none⟩) (by show w.heap.size ≤ (w.heap.size + 1); omega) (.int .i64 rej))⟩
end Go.Proofs.YthmmgjieppknkaaGreatDoor

namespace Go.Proofs.YthmmgjieppknkaaGreatDoor
open Go.RowKit MLab
def rvb (x : Nat → Bool) (n k p : Nat) : Bool := if p < k ∨ n < p + 1 + k then x (n - 1 - p) else x p
set_option maxRecDepth 100000 in
set_option maxHeartbeats 2000000 in
theorem revB_nil (w : World) (A : Option Addr) (c : Nat) : Calls Tryz.prog 98 #[.slice A 0 c] w fun e w' => e = .returned (.tuple #[]) ∧ w' = w := by
  go_enter Tryz.func98, Tryz.ntmps98
  go_wp2_with fail
  go_loopg [2, 3] 1 (fun _ iv jv wr => iv = .int .i64 0 ∧ jv = .int .i64 (-1) ∧ wr = w)
  case atStart => exact ⟨rfl, rfl, rfl⟩
  case round =>
    obtain ⟨rfl, rfl, rfl⟩ := hrel
    go_wp2_with fail
    go_end0
    exact ⟨rfl, rfl⟩
set_option maxRecDepth 100000 in
set_option maxHeartbeats 4000000 in
theorem revB_any (w : World) (g cap n : Nat) (x : Nat → Bool) (hO : RowB w g cap n x) (h0 : 0 < n) (hn : n ≤ cap) (hL : n ≤ 1000) :
    Calls Tryz.prog 98 #[.slice (some ⟨g, 0, none⟩) n cap] w fun e w' => e = .returned (.tuple #[]) ∧ RowB w' g cap n (fun p => x (n - 1 - p)) ∧ Below g w w' := by
  have HO := hide hO
  have hw1 : IntKind.i64.wrap ((n : Int) - 1) = ((n - 1 : Nat) : Int) := (IntWalk.i64_in _ (by omega)).trans (by omega)
  clear hO
  go_enter Tryz.func98, Tryz.ntmps98
  go_wp2_with fail
  go_loopg [2, 3] n (fun q iv jv wr => ∃ k m : Nat, iv = .int .i64 (k : Int) ∧ jv = .int .i64 (m : Int) ∧ k + m + 1 = n ∧ q = n - k ∧ k ≤ m + 1 ∧ RowB wr g cap n (rvb x n k) ∧ Below g w wr)
  case atStart => exact ⟨0, n - 1, rfl, rfl, by omega, by omega, by omega, HO.out.congr fun p hp => by unfold rvb; rw [if_neg (by omega)], Below.refl _ _⟩
  case round =>
    obtain ⟨k, m, rfl, rfl, hkm, hq, hle, ho, hb⟩ := hrel
    have HQ := hide hq
    have HO := hide ho
    have HB := hide hb
    clear hq ho hb
    by_cases hlt : k < m
    · have hki : (k : Int) < (m : Int) := by omega
      have hk0 : (0 : Int) ≤ (k : Int) := by omega
      have hm0 : (0 : Int) ≤ (m : Int) := by omega
      have hkn : (k : Int) < (n : Int) := by omega
      have hmn : (m : Int) < (n : Int) := by omega
      have hkn2 : k < n := by omega
      have hmn2 : m < n := by omega
      have hw2 : IntKind.i64.wrap ((k : Int) + 1) = ((k + 1 : Nat) : Int) := (IntWalk.i64_in _ (by omega)).trans (by omega)
      have hw3 : IntKind.i64.wrap ((m : Int) - 1) = ((m - 1 : Nat) : Int) := (IntWalk.i64_in _ (by omega)).trans (by omega)
      have c0 := HO.out.cell hkn2
      have d0 := HO.out.cell hmn2
      have fz := HO.out.frozen
      have hne1 : ¬ k = m := by omega
      have hne2 : ¬ m = k := by omega
      obtain ⟨x1, hx⟩ : ∃ u, rvb x n k k = u := ⟨_, rfl⟩
      obtain ⟨y1, hy⟩ : ∃ u, rvb x n k m = u := ⟨_, rfl⟩
      rw [hx] at c0
      rw [hy] at d0
      have HX := hide hx
      have HY := hide hy
      have HKM := hide hkm
      clear hx hy hkm
      go_upto_region 3 with (fail)
      go_region
      have HO2 := hide (((HO.out.set k hkn2 hn y1).set m hmn2 hn x1).drew.congr (y := rvb x n (k + 1)) fun p hp => by
        have hkm := HKM.out
        have hx := HX.out
        have hy := HY.out
        show (if p = m then x1 else if p = k then y1 else rvb x n k p) = rvb x n (k + 1) p
        rw [← hx, ← hy]
        unfold rvb
        by_cases h1 : p = m
        · subst h1
          rw [if_pos rfl, if_neg (show ¬ (k < k ∨ n < k + 1 + k) by omega), if_pos (show p < k + 1 ∨ n < p + 1 + (k + 1) by omega)]; congr 1; omega
        · rw [if_neg h1]
          by_cases h2 : p = k
          · subst h2
            rw [if_pos rfl, if_neg (show ¬ (m < p ∨ n < m + 1 + p) by omega), if_pos (show p < p + 1 ∨ n < p + 1 + (p + 1) by omega)]; congr 1; omega
          · rw [if_neg h2]
            by_cases h3 : p < k ∨ n < p + 1 + k
            · rw [if_pos h3, if_pos (by omega)]
            · rw [if_neg h3, if_neg (by omega)])
      have HB2 := hide ((((HB.out.setCell (p := ⟨g, k, none⟩) (Nat.le_refl _) (.bool y1)).setCell (p := ⟨g, m, none⟩) (Nat.le_refl _) (.bool x1))).drew)
      clear c0 d0 fz
      go_wp2_with fail
      go_roundg (gk - 1)
      case measure => have := HQ.out; omega
      case rel => exact ⟨k + 1, m - 1, by go_num, by go_num, by have := HKM.out; omega, by have := HQ.out; omega, by omega, HO2.out, HB2.out⟩
    · have hki : ¬ (k : Int) < (m : Int) := by omega
      have HO3 := hide (HO.out.congr (y := fun p => x (n - 1 - p)) fun p hp => by
        unfold rvb
        by_cases h3 : p < k ∨ n < p + 1 + k
        · rw [if_pos h3]
        · rw [if_neg h3]; congr 1; omega)
      go_wp2_with fail
      go_end0
      exact ⟨rfl, HO3.out, HB.out⟩
theorem info_bool : (Tryz.prog.info? 4).map (fun i => (i.zero, i.size, i.bytes)) = some (some (.bool false), 1, 1) := by kernel_rfl
theorem own_slice {w : World} {base n : Nat} {e : TypeId} {v : Value} {xs : List Value} (h : w.ownsRow base e 1 v n xs) : ∃ A m c, v = .slice A m c := by
  rcases h.2 with ⟨h, _⟩ | ⟨g, cap, cur, h, _⟩
  · exact ⟨_, _, _, h⟩
  · exact ⟨_, _, _, h⟩
theorem rowB_of {w : World} {base n : Nat} {v : Value} {l : List Bool} (h : w.ownsRow base 4 1 v n (bcl l)) (hn : 0 < n) : ∃ g cap, v = .slice (some ⟨g, 0, none⟩) n cap ∧ base ≤ g ∧ n ≤ cap ∧ RowB w g cap n (fun p => l.getD p false) := by
  have hl : l.length = n := by have := h.1; simpa [bcl] using this
  rcases h.2 with ⟨rfl, h0⟩ | ⟨g, cap, cur, rfl, hb, hgg, hnc, hcap, hsz, htake⟩
  · omega
  · refine ⟨g, cap, rfl, hb, hnc, cur, hgg, by simpa using hsz, fun p hp => ?_⟩
    have h1 : (bcl l)[p]? = some (.bool (l.getD p false)) := by simp [bcl, List.getD, List.getElem?_eq_getElem (show p < l.length by omega)]
    rw [← htake, List.getElem?_take, if_pos (by omega)] at h1
    simpa using h1
theorem slL_of_rowB {w : World} {g cap n : Nat} {x : Nat → Bool} {l : List Bool} (h : RowB w g cap n x) (hn : n ≤ cap) (hl : l.length = n) (hx : ∀ p, p < n → l[p]? = some (x p)) : SlL w (.slice (some ⟨g, 0, none⟩) n cap) (bcl l) := by
  refine ⟨some ⟨g, 0, none⟩, cap, by rw [bcl_len, hl], by rw [bcl_len]; omega, fun _ => ⟨g, 0, rfl, fun p y hp => ?_⟩⟩
  have hlt : p < n := by have := (List.getElem?_eq_some_iff.1 hp).1; rw [bcl_len] at this; omega
  rw [bcl_at (hx p hlt)] at hp
  cases hp
  rw [Nat.zero_add]; exact h.cell hlt
theorem bitsL_pos (l : List Bool) : 1 ≤ bitsL l := by
  have h : ∀ (l : List Bool) (a : Nat), 1 ≤ a → 1 ≤ l.foldl (fun a b => 2 * a + (if b then 1 else 0)) a := by
    intro l
    induction l with
    | nil => intro a h; exact h
    | cons b l ih => intro a h; exact ih (2 * a + (if b then 1 else 0)) (by omega)
  exact h l 1 (by omega)
theorem FrV.of {B g : Nat} (o n c : Nat) (h : B ≤ g) : FrV B (.slice (some ⟨g, o, none⟩) n c) := fun g' o' n' c' e => by
  simp at e
  omega
set_option maxRecDepth 100000 in
set_option maxHeartbeats 4000000 in
theorem state_any (w : World) (m r d : Nat) (l : List Bool) (hl : l.length ≤ 4) :
    Calls Tryz.prog 58 #[.agg #[.int .i64 (m : Int), .int .i64 (r : Int), .int .i64 (bitsL l : Int), .int .i64 (d : Int)]] w fun e w' => ∃ v, e = .returned v ∧ StN w.heap.size w' v ⟨m, r, l, d⟩ ∧ Below w.heap.size w w' := by
  obtain ⟨i0, hi, hz0, hz1, hz2⟩ := info_parts info_bool
  obtain ⟨N, hN⟩ : ∃ N, l.length = N := ⟨_, rfl⟩
  rw [hN] at hl
  have HN := hide hN
  clear hN
  have HU0 := hide (show l = l.take (N - 0) by rw [Nat.sub_zero, ← HN.out, List.take_length])
  obtain ⟨u0, hu0⟩ : ∃ u, bitsL l = u := ⟨_, rfl⟩
  rw [hu0]
  have HU := hide hu0
  clear hu0
  have HB := allocs_below w [.cells #[.int .i64 (m : Int), .int .i64 (r : Int), .int .i64 (u0 : Int), .int .i64 (d : Int)] 105, .cells #[.int .i64 0, .int .i64 0, .slice none 0 0, .int .i64 0] 29]
  have K_p : Blk (allocs w [.cells #[.int .i64 (m : Int), .int .i64 (r : Int), .int .i64 (u0 : Int), .int .i64 (d : Int)] 105, .cells #[.int .i64 0, .int .i64 0, .slice none 0 0, .int .i64 0] 29]) (w.heap.size + 0) 105 #[.int .i64 (m : Int), .int .i64 (r : Int), .int .i64 (u0 : Int), .int .i64 (d : Int)] := allocs_at w [.cells #[.int .i64 (m : Int), .int .i64 (r : Int), .int .i64 (u0 : Int), .int .i64 (d : Int)] 105, .cells #[.int .i64 0, .int .i64 0, .slice none 0 0, .int .i64 0] 29] 0 rfl
  have K_r : Blk (allocs w [.cells #[.int .i64 (m : Int), .int .i64 (r : Int), .int .i64 (u0 : Int), .int .i64 (d : Int)] 105, .cells #[.int .i64 0, .int .i64 0, .slice none 0 0, .int .i64 0] 29]) (w.heap.size + 1) 29 #[.int .i64 0, .int .i64 0, .slice none 0 0, .int .i64 0] := allocs_at w [.cells #[.int .i64 (m : Int), .int .i64 (r : Int), .int .i64 (u0 : Int), .int .i64 (d : Int)] 105, .cells #[.int .i64 0, .int .i64 0, .slice none 0 0, .int .i64 0] 29] 1 rfl
  unfold allocs at HB K_p K_r
  simp only [List.foldl_cons, List.foldl_nil] at HB K_p K_r
  rw [Nat.add_zero] at K_p
  go_enter Tryz.func58, Tryz.ntmps58
  go_upto_region 1 with (fail)
  generalize ((w.alloc (.cells #[.int .i64 (m : Int), .int .i64 (r : Int), .int .i64 (u0 : Int), .int .i64 (d : Int)] 105)).alloc (.cells #[.int .i64 0, .int .i64 0, .slice none 0 0, .int .i64 0] 29)) = w0 at *
  replace K_p := hide K_p
  replace K_r := hide K_r
  replace HB := hide HB
  have p0 := (Blk.cell K_p.out 0).trans (rfl : _ = some (Value.int .i64 (m : Int)))
  have p1 := (Blk.cell K_p.out 1).trans (rfl : _ = some (Value.int .i64 (r : Int)))
  have p2 := (Blk.cell K_p.out 2).trans (rfl : _ = some (Value.int .i64 (u0 : Int)))
  have p3 := (Blk.cell K_p.out 3).trans (rfl : _ = some (Value.int .i64 (d : Int)))
  go_upto_region 2 with (fail)
  clear p0 p1 p2 p3
  have hbs_x : w.heap.size ≤ w0.heap.size := HB.out.size
  have lt_x_p : w.heap.size < w0.heap.size := Blk.lt K_p.out
  have lt_x_r : (w.heap.size + 1) < w0.heap.size := Blk.lt K_r.out
  replace K_p := K_p.out.alloc (.cells #[.int .i64 (m : Int), .int .i64 (r : Int), .slice none 0 0, .int .i64 (d : Int)] 29)
  replace K_r := K_r.out.alloc (.cells #[.int .i64 (m : Int), .int .i64 (r : Int), .slice none 0 0, .int .i64 (d : Int)] 29)
  replace HB := HB.out.alloc HB.out.size (.cells #[.int .i64 (m : Int), .int .i64 (r : Int), .slice none 0 0, .int .i64 (d : Int)] 29)
  have K_x := Blk.new w0 29 #[.int .i64 (m : Int), .int .i64 (r : Int), .slice none 0 0, .int .i64 (d : Int)]
  generalize w0.alloc (.cells #[.int .i64 (m : Int), .int .i64 (r : Int), .slice none 0 0, .int .i64 (d : Int)] 29) = w1 at *
  replace K_p := hide K_p
  replace K_r := hide K_r
  replace K_x := hide K_x
  replace HB := hide HB
  have p0 := (Blk.cell K_p.out 0).trans (rfl : _ = some (Value.int .i64 (m : Int)))
  have p1 := (Blk.cell K_p.out 1).trans (rfl : _ = some (Value.int .i64 (r : Int)))
  have p2 := (Blk.cell K_p.out 2).trans (rfl : _ = some (Value.int .i64 (u0 : Int)))
  have p3 := (Blk.cell K_p.out 3).trans (rfl : _ = some (Value.int .i64 (d : Int)))
  have HL1 := hide (show w.heap.size + 2 ≤ w0.heap.size from by have := lt_x_r; omega)
  have HL2 := hide (show w.heap.size + 2 ≤ w1.heap.size from by have := Blk.lt K_r.out; have := Blk.lt K_x.out; omega)
  have HL3 := hide (show w0.heap.size < w1.heap.size from Blk.lt K_x.out)
  go_wp2_with fail
  go_loopg [4] N (fun z nv wr => ∃ (j : Nat) (v : Value), nv = .int .i64 (bitsL (l.take (N - j)) : Int) ∧ z + j = N ∧ wr.ownsRow w1.heap.size 4 1 v j (bcl (l.drop (N - j)).reverse) ∧ Blk wr w0.heap.size 29 #[.int .i64 (m : Int), .int .i64 (r : Int), v, .int .i64 (d : Int)] ∧ Blk wr (w.heap.size + 1) 29 #[.int .i64 0, .int .i64 0, .slice none 0 0, .int .i64 0] ∧ Below w.heap.size w wr ∧ w1.heap.size ≤ wr.heap.size)
  case atStart => exact ⟨0, .slice none 0 0, by rw [← HU0.out, HU.out], rfl, ⟨by rw [List.drop_eq_nil_of_le (show l.length ≤ N - 0 by have := HN.out; omega)]; rfl, .inl ⟨rfl, rfl⟩⟩, K_x.out, K_r.out, HB.out, Nat.le_refl _⟩
  case round =>
    obtain ⟨j, v, rfl, hq, hown, hkx, hkr, hb, hsz⟩ := hrel
    have HQ := hide hq
    have HO := hide hown
    have KX := hide hkx
    have KR := hide hkr
    have HBR := hide hb
    have HSZ := hide hsz
    have hj : j ≤ N := by omega
    clear hq hown hkx hkr hb hsz p0 p1 p2 p3 K_p K_r K_x HB HU HU0
    by_cases hlt : j < N
    · obtain ⟨i, hik⟩ : ∃ i, N - j = i + 1 := ⟨N - j - 1, by omega⟩
      obtain ⟨b, hx⟩ : ∃ b, l[i]? = some b := ⟨_, List.getElem?_eq_getElem (by rw [HN.out]; omega)⟩
      have ht : l.take (i + 1) = l.take i ++ [b] := by rw [List.take_add_one, hx]; rfl
      have hd : l.drop i = b :: l.drop (i + 1) := by rw [List.drop_eq_getElem_cons (by rw [HN.out]; omega)]; congr 1; have := (List.getElem?_eq_some_iff.1 hx).2; exact this
      have HD := hide (show bcl (l.drop i).reverse = bcl (l.drop (i + 1)).reverse ++ bcl [b] by rw [hd, List.reverse_cons]; simp [bcl])
      have hnj : N - (j + 1) = i := by omega
      have HNJ := hide hnj
      rw [hik] at HO ⊢
      rw [ht, bitsL_snoc]
      have hbp := bitsL_pos (l.take i)
      have hbl := bitsL_le (l.take i)
      have hlen : (l.take i).length ≤ 4 := by rw [List.length_take, HN.out]; omega
      have hp5 : 2 ^ ((l.take i).length + 1) ≤ 2 ^ 5 := Nat.pow_le_pow_right (by omega) (by omega)
      obtain ⟨u, hu⟩ : ∃ u, bitsL (l.take i) = u := ⟨_, rfl⟩
      rw [hu] at hbp hbl ⊢
      have HU := hide hu
      have hub : u < 32 := by omega
      obtain ⟨V, hV⟩ : ∃ V, bcl (l.drop (i + 1)).reverse = V := ⟨_, rfl⟩
      rw [hV] at HO HD
      clear hu hbl hlen hp5 hx ht hd hik hnj hV
      have x2 := (Blk.cell KX.out 2).trans (rfl : _ = some v)
      have xf2 := Blk.frozen KX.out 2
      have hwl := HSZ.out
      have hl3 := HL3.out
      have hown2 := HO.out
      have hob := hown2.lt
      cases b with
      | true =>
        rw [show (2 * u + (if true = true then 1 else 0) : Nat) = 2 * u + 1 by simp]
        obtain ⟨n2, hn2⟩ : ∃ n2, 2 * u + 1 = n2 := ⟨_, rfl⟩
        rw [hn2]
        have hg1 : (1 : Int) < (n2 : Int) := by omega
        have hg2 : 1 < n2 := by omega
        have hm1 : (n2 : Int).tmod 2 = 1 := by rw [Int.tmod_eq_emod_of_nonneg (by omega)]; omega
        have hm2 : (n2 : Int) % 2 = 1 := by omega
        have hq1 : (n2 : Int).tdiv 2 = (u : Int) := by rw [Int.tdiv_eq_ediv_of_nonneg (by omega)]; omega
        have hq2 : (n2 : Int) / 2 = (u : Int) := by omega
        have hwu : IntKind.i64.wrap (u : Int) = (u : Int) := IntWalk.i64_in _ (by omega)
        have HN2 := hide hn2
        clear hn2
        go_wp2_with (at_builtin; refine wpList_append_sl _ rfl _ _ 27 rfl w1.heap.size 4 i0 (.bool false) 1 Tryz.underlying27 hi hz0 hz1 hz2 rfl _ _ _ rfl (hown2.alloc _) _ [.bool true] rfl (SlL.one _ _ _) ?hf11 ?hf21 ?hf31 ?hf41 ?_)
        try (case hf11 => (intro x hx; simp at hx; subst hx; rfl))
        try (case hf21 => (simp [maxLen]; omega))
        try (case hf31 => (simp; omega))
        try (case hf41 => (simp; omega))
        intro v6 w6 ho6 hg6
        obtain ⟨A6, n6, c6, rfl⟩ := own_slice ho6
        have hs6 : wr.heap.size < w6.heap.size := by have := hg6.size; simp at this; omega
        have hb6 : Below w.heap.size w w6 := (HBR.out.alloc HBR.out.size _).grown hg6 (by simp; have := HBR.out.size; omega) (fun k e => by have := (hown2.lt k e).1; have := HL2.out; omega)
        have kx6 := (KX.out.alloc (.cells #[.bool true] 4)).grown hg6 (fun e => by have := (hown2.lt _ e.symm).1; omega)
        have kr6 := (KR.out.alloc (.cells #[.bool true] 4)).grown hg6 (fun e => by have := (hown2.lt _ e.symm).1; have := HL2.out; omega)
        have K6 := hide kx6
        have R6 := hide kr6
        have B6 := hide hb6
        have O6 := hide ho6
        have xg2 := (Blk.cell kx6 2).trans (rfl : _ = some v)
        have xgf2 := Blk.frozen kx6 2
        clear hg6 hb6 kx6 kr6 ho6 hown2 hob x2 xf2
        go_wp2_with fail
        go_roundg (gk - 1)
        case measure => have := HQ.out; omega
        case rel => exact ⟨j + 1, .slice A6 n6 c6, by rw [HNJ.out, HU.out], by have := HQ.out; omega, by rw [HNJ.out, HD.out]; exact ownsRow_setCell_below O6.out (a := ⟨w0.heap.size, 2, none⟩) hl3 _, K6.out.set_ 2 (.slice A6 n6 c6), R6.out.far (p := ⟨w0.heap.size, 2, none⟩) (by show w.heap.size + 1 ≠ w0.heap.size; have := HL1.out; omega) _, B6.out.setCell (p := ⟨w0.heap.size, 2, none⟩) (by show w.heap.size ≤ w0.heap.size; have := HL1.out; omega) _, by simp; omega⟩
      | false =>
        rw [show (2 * u + (if false = true then 1 else 0) : Nat) = 2 * u + 0 by simp]
        obtain ⟨n2, hn2⟩ : ∃ n2, 2 * u + 0 = n2 := ⟨_, rfl⟩
        rw [hn2]
        have hg1 : (1 : Int) < (n2 : Int) := by omega
        have hg2 : 1 < n2 := by omega
        have hm1 : (n2 : Int).tmod 2 = 0 := by rw [Int.tmod_eq_emod_of_nonneg (by omega)]; omega
        have hm2 : (n2 : Int) % 2 = 0 := by omega
        have hq1 : (n2 : Int).tdiv 2 = (u : Int) := by rw [Int.tdiv_eq_ediv_of_nonneg (by omega)]; omega
        have hq2 : (n2 : Int) / 2 = (u : Int) := by omega
        have hwu : IntKind.i64.wrap (u : Int) = (u : Int) := IntWalk.i64_in _ (by omega)
        have HN2 := hide hn2
        clear hn2
        go_wp2_with (at_builtin; refine wpList_append_sl _ rfl _ _ 27 rfl w1.heap.size 4 i0 (.bool false) 1 Tryz.underlying27 hi hz0 hz1 hz2 rfl _ _ _ rfl (hown2.alloc _) _ [.bool false] rfl (SlL.one _ _ _) ?hf10 ?hf20 ?hf30 ?hf40 ?_)
        try (case hf10 => (intro x hx; simp at hx; subst hx; rfl))
        try (case hf20 => (simp [maxLen]; omega))
        try (case hf30 => (simp; omega))
        try (case hf40 => (simp; omega))
        intro v6 w6 ho6 hg6
        obtain ⟨A6, n6, c6, rfl⟩ := own_slice ho6
        have hs6 : wr.heap.size < w6.heap.size := by have := hg6.size; simp at this; omega
        have hb6 : Below w.heap.size w w6 := (HBR.out.alloc HBR.out.size _).grown hg6 (by simp; have := HBR.out.size; omega) (fun k e => by have := (hown2.lt k e).1; have := HL2.out; omega)
        have kx6 := (KX.out.alloc (.cells #[.bool false] 4)).grown hg6 (fun e => by have := (hown2.lt _ e.symm).1; omega)
        have kr6 := (KR.out.alloc (.cells #[.bool false] 4)).grown hg6 (fun e => by have := (hown2.lt _ e.symm).1; have := HL2.out; omega)
        have K6 := hide kx6
        have R6 := hide kr6
        have B6 := hide hb6
        have O6 := hide ho6
        have xg2 := (Blk.cell kx6 2).trans (rfl : _ = some v)
        have xgf2 := Blk.frozen kx6 2
        clear hg6 hb6 kx6 kr6 ho6 hown2 hob x2 xf2
        go_wp2_with fail
        go_roundg (gk - 1)
        case measure => have := HQ.out; omega
        case rel => exact ⟨j + 1, .slice A6 n6 c6, by rw [HNJ.out, HU.out], by have := HQ.out; omega, by rw [HNJ.out, HD.out]; exact ownsRow_setCell_below O6.out (a := ⟨w0.heap.size, 2, none⟩) hl3 _, K6.out.set_ 2 (.slice A6 n6 c6), R6.out.far (p := ⟨w0.heap.size, 2, none⟩) (by show w.heap.size + 1 ≠ w0.heap.size; have := HL1.out; omega) _, B6.out.setCell (p := ⟨w0.heap.size, 2, none⟩) (by show w.heap.size ≤ w0.heap.size; have := HL1.out; omega) _, by simp; omega⟩
    · obtain rfl : j = N := by omega
      rw [Nat.sub_self] at HO ⊢
      rw [show bitsL (l.take 0) = 1 by rfl]
      have hll : ¬ (1 : Int) < ((1 : Nat) : Int) := by omega
      have hx2 := (Blk.cell KX.out 2).trans (rfl : _ = some v)
      by_cases hj0 : j = 0
      · subst hj0
        obtain ⟨A, c, rfl⟩ : ∃ A c, v = .slice A 0 c := by
          rcases HO.out.2 with ⟨h, _⟩ | ⟨g, cap, cur, h, _⟩
          · exact ⟨_, _, h⟩
          · exact ⟨_, _, h⟩
        have hl0 : l = [] := List.eq_nil_of_length_eq_zero HN.out
        go_wp2_with fail
        refine (revB_nil _ A c).mono ?_
        rintro e wb ⟨rfl, rfl⟩
        have K_x := KX
        have K_r := KR
        have HBF := HBR
        have x0 := (Blk.cell K_x.out 0).trans (rfl : _ = some (Value.int .i64 (m : Int)))
        have x1 := (Blk.cell K_x.out 1).trans (rfl : _ = some (Value.int .i64 (r : Int)))
        have x2 := (Blk.cell K_x.out 2).trans (rfl : _ = some (Value.slice A 0 c))
        have x3 := (Blk.cell K_x.out 3).trans (rfl : _ = some (Value.int .i64 (d : Int)))
        have r0 := (Blk.cell K_r.out 0).trans (rfl : _ = some (Value.int .i64 0))
        have rf0 := Blk.frozen K_r.out 0
        have r1 := (Blk.cell K_r.out 1).trans (rfl : _ = some (Value.int .i64 0))
        have rf1 := Blk.frozen K_r.out 1
        have r2 := (Blk.cell K_r.out 2).trans (rfl : _ = some (Value.slice none 0 0))
        have rf2 := Blk.frozen K_r.out 2
        have r3 := (Blk.cell K_r.out 3).trans (rfl : _ = some (Value.int .i64 0))
        have rf3 := Blk.frozen K_r.out 3
        go_wp2_with fail
        have rc0 := (Blk.cell ((((K_r.out.set_ 0 (.int .i64 (m : Int))).set_ 1 (.int .i64 (r : Int))).set_ 2 (.slice A 0 c)).set_ 3 (.int .i64 (d : Int))) 0).trans (rfl : _ = some (Value.int .i64 (m : Int)))
        have rc1 := (Blk.cell ((((K_r.out.set_ 0 (.int .i64 (m : Int))).set_ 1 (.int .i64 (r : Int))).set_ 2 (.slice A 0 c)).set_ 3 (.int .i64 (d : Int))) 1).trans (rfl : _ = some (Value.int .i64 (r : Int)))
        have rc2 := (Blk.cell ((((K_r.out.set_ 0 (.int .i64 (m : Int))).set_ 1 (.int .i64 (r : Int))).set_ 2 (.slice A 0 c)).set_ 3 (.int .i64 (d : Int))) 2).trans (rfl : _ = some (Value.slice A 0 c))
        have rc3 := (Blk.cell ((((K_r.out.set_ 0 (.int .i64 (m : Int))).set_ 1 (.int .i64 (r : Int))).set_ 2 (.slice A 0 c)).set_ 3 (.int .i64 (d : Int))) 3).trans (rfl : _ = some (Value.int .i64 (d : Int)))
        exact bodyPost_ret (v := .agg #[.int .i64 (m : Int), .int .i64 (r : Int), .slice A 0 c, .int .i64 (d : Int)]) (by simp [results, Tryz.results58, go_sem, rc0, rc1, rc2, rc3]) rfl ⟨_, rfl, ⟨_, rfl, by rw [hl0]; exact SlL.zero _ A c, FrV.zero _ _ _⟩, ((((HBF.out.setCell (p := ⟨(w.heap.size + 1), 0, none⟩) (by show w.heap.size ≤ (w.heap.size + 1); omega) (.int .i64 (m : Int))).setCell (p := ⟨(w.heap.size + 1), 1, none⟩) (by show w.heap.size ≤ (w.heap.size + 1); omega) (.int .i64 (r : Int))).setCell (p := ⟨(w.heap.size + 1), 2, none⟩) (by show w.heap.size ≤ (w.heap.size + 1); omega) (.slice A 0 c)).setCell (p := ⟨(w.heap.size + 1), 3, none⟩) (by show w.heap.size ≤ (w.heap.size + 1); omega) (.int .i64 (d : Int)))⟩
      · have hjp : 0 < j := by omega
        have hO2 := HO.out
        rw [List.drop_zero] at hO2
        obtain ⟨g, cap, rfl, hgb, hcap, hrow⟩ := rowB_of hO2 hjp
        have HROW := hide hrow
        have HGB := hide hgb
        clear hO2 hrow hgb
        go_wp2_with fail
        refine (revB_any _ g cap j _ HROW.out hjp hcap (by omega)).mono ?_
        rintro e wb ⟨rfl, hrb, hb⟩
        have hgw : w1.heap.size ≤ g := HGB.out
        have hx0 : w0.heap.size < g := by have := HL3.out; omega
        have hr0 : w.heap.size + 1 < g := by have := HL1.out; omega
        have K_x := hide (Blk.below KX.out hb hx0)
        have K_r := hide (Blk.below KR.out hb hr0)
        have HBF := hide (HBR.out.trans (hb.mono (by omega)))
        have HRB := hide hrb
        clear hrb hb
        have x0 := (Blk.cell K_x.out 0).trans (rfl : _ = some (Value.int .i64 (m : Int)))
        have x1 := (Blk.cell K_x.out 1).trans (rfl : _ = some (Value.int .i64 (r : Int)))
        have x2 := (Blk.cell K_x.out 2).trans (rfl : _ = some (Value.slice (some ⟨g, 0, none⟩) j cap))
        have x3 := (Blk.cell K_x.out 3).trans (rfl : _ = some (Value.int .i64 (d : Int)))
        have r0 := (Blk.cell K_r.out 0).trans (rfl : _ = some (Value.int .i64 0))
        have rf0 := Blk.frozen K_r.out 0
        have r1 := (Blk.cell K_r.out 1).trans (rfl : _ = some (Value.int .i64 0))
        have rf1 := Blk.frozen K_r.out 1
        have r2 := (Blk.cell K_r.out 2).trans (rfl : _ = some (Value.slice none 0 0))
        have rf2 := Blk.frozen K_r.out 2
        have r3 := (Blk.cell K_r.out 3).trans (rfl : _ = some (Value.int .i64 0))
        have rf3 := Blk.frozen K_r.out 3
        go_wp2_with fail
        have rc0 := (Blk.cell ((((K_r.out.set_ 0 (.int .i64 (m : Int))).set_ 1 (.int .i64 (r : Int))).set_ 2 (.slice (some ⟨g, 0, none⟩) j cap)).set_ 3 (.int .i64 (d : Int))) 0).trans (rfl : _ = some (Value.int .i64 (m : Int)))
        have rc1 := (Blk.cell ((((K_r.out.set_ 0 (.int .i64 (m : Int))).set_ 1 (.int .i64 (r : Int))).set_ 2 (.slice (some ⟨g, 0, none⟩) j cap)).set_ 3 (.int .i64 (d : Int))) 1).trans (rfl : _ = some (Value.int .i64 (r : Int)))
        have rc2 := (Blk.cell ((((K_r.out.set_ 0 (.int .i64 (m : Int))).set_ 1 (.int .i64 (r : Int))).set_ 2 (.slice (some ⟨g, 0, none⟩) j cap)).set_ 3 (.int .i64 (d : Int))) 2).trans (rfl : _ = some (Value.slice (some ⟨g, 0, none⟩) j cap))
        have rc3 := (Blk.cell ((((K_r.out.set_ 0 (.int .i64 (m : Int))).set_ 1 (.int .i64 (r : Int))).set_ 2 (.slice (some ⟨g, 0, none⟩) j cap)).set_ 3 (.int .i64 (d : Int))) 3).trans (rfl : _ = some (Value.int .i64 (d : Int)))
        exact bodyPost_ret (v := .agg #[.int .i64 (m : Int), .int .i64 (r : Int), .slice (some ⟨g, 0, none⟩) j cap, .int .i64 (d : Int)]) (by simp [results, Tryz.results58, go_sem, rc0, rc1, rc2, rc3]) rfl ⟨_, rfl, ⟨_, rfl, slL_of_rowB (((((HRB.out.far (p := ⟨w.heap.size + 1, 0, none⟩) (by show g ≠ w.heap.size + 1; omega) _).far (p := ⟨w.heap.size + 1, 1, none⟩) (by show g ≠ w.heap.size + 1; omega) _).far (p := ⟨w.heap.size + 1, 2, none⟩) (by show g ≠ w.heap.size + 1; omega) _).far (p := ⟨w.heap.size + 1, 3, none⟩) (by show g ≠ w.heap.size + 1; omega) _)) hcap HN.out (fun p hp => by
    show l[p]? = some (l.reverse.getD (j - 1 - p) false)
    have hlen := HN.out
    rw [List.getD_eq_getElem?_getD, List.getElem?_reverse (by omega), show l.length - 1 - (j - 1 - p) = p by omega, List.getElem?_eq_getElem (by omega)]; rfl), FrV.of _ _ _ (by omega)⟩, ((((HBF.out.setCell (p := ⟨(w.heap.size + 1), 0, none⟩) (by show w.heap.size ≤ (w.heap.size + 1); omega) (.int .i64 (m : Int))).setCell (p := ⟨(w.heap.size + 1), 1, none⟩) (by show w.heap.size ≤ (w.heap.size + 1); omega) (.int .i64 (r : Int))).setCell (p := ⟨(w.heap.size + 1), 2, none⟩) (by show w.heap.size ≤ (w.heap.size + 1); omega) (.slice (some ⟨g, 0, none⟩) j cap)).setCell (p := ⟨(w.heap.size + 1), 3, none⟩) (by show w.heap.size ≤ (w.heap.size + 1); omega) (.int .i64 (d : Int)))⟩
end Go.Proofs.YthmmgjieppknkaaGreatDoor
