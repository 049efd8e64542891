/- plan.lots: the iterator over all lots. -/
import Derived.Test.YtaccdkbofhlbkaaGreatDoorPlawake
import Derived.Test.YtaccdkbofhlbkaaGreatDoorKeep
namespace Go.Proofs.YtaccdkbofhlbkaaGreatDoor
open Go.RowKit Go.Shelf MLab
attribute [local go_sem] Oper.semAt_some

/-- The error of a plan with a lot for which a list is asked. -/
def ckI (N C lot : Int) : Int := if ckL N C lot ≠ 0 then 2 else if 256 < lot then 5 else 0

set_option maxRecDepth 100000 in
set_option maxHeartbeats 2000000 in
theorem listed_any (w : World) (N C lot : Int) :
    Calls Tryz.prog 70 #[.agg #[.int .i64 N, .int .i64 C], .int .i64 lot] w fun e w' => e = .returned (.int .i64 (ckI N C lot)) ∧ Below w.heap.size w w' := by
  by_cases h0 : ¬ ((1 ≤ N ∧ N ≤ 256 ∧ 0 ≤ C ∧ C ≤ N) ∧ N ≤ lot ∧ lot ≤ 4096)
  · have HC := hide (fun W => plsz_any W N C lot)
    rw [ckL_two.2 h0] at HC
    have hr : ckI N C lot = 2 := by unfold ckI; rw [ckL_two.2 h0]; simp
    rw [hr]
    clear hr h0
    have HB := allocs_below w [.cells #[.int .i64 N, .int .i64 C] 30]
    have K_p : Blk (allocs w [.cells #[.int .i64 N, .int .i64 C] 30]) (w.heap.size + 0) 30 #[.int .i64 N, .int .i64 C] := allocs_at w [.cells #[.int .i64 N, .int .i64 C] 30] 0 rfl
    unfold allocs at HB K_p
    simp only [List.foldl_cons, List.foldl_nil] at HB K_p
    rw [Nat.add_zero] at K_p
    go_enter Tryz.func70, Tryz.ntmps70
    go_upto_region 1 with (fail)
    generalize (w.alloc (.cells #[.int .i64 N, .int .i64 C] 30)) = w0 at *
    replace K_p := hide K_p
    replace HB := hide HB
    have p0 := (Blk.cell K_p.out 0).trans (rfl : _ = some (Value.int .i64 N))
    have p1 := (Blk.cell K_p.out 1).trans (rfl : _ = some (Value.int .i64 C))
    go_wp2_with fail
    refine (HC.out _).mono ?_
    rintro e w1 ⟨rfl, hb⟩
    clear p0 p1
    replace K_p := hide (Blk.below K_p.out hb (Blk.lt K_p.out))
    replace HB := hide (HB.out.trans (hb.mono HB.out.size))
    clear hb
    go_wp2_with fail
    go_ret
    exact ⟨rfl, HB.out⟩
  · by_cases h1 : 256 < lot
    · have HC := hide (fun W => plsz_any W N C lot)
      rw [ckL_zero.2 (Classical.not_not.1 h0)] at HC
      have hr : ckI N C lot = 5 := by unfold ckI; rw [ckL_zero.2 (Classical.not_not.1 h0)]; simp; omega
      rw [hr]
      clear hr h0
      have HB := allocs_below w [.cells #[.int .i64 N, .int .i64 C] 30]
      have K_p : Blk (allocs w [.cells #[.int .i64 N, .int .i64 C] 30]) (w.heap.size + 0) 30 #[.int .i64 N, .int .i64 C] := allocs_at w [.cells #[.int .i64 N, .int .i64 C] 30] 0 rfl
      unfold allocs at HB K_p
      simp only [List.foldl_cons, List.foldl_nil] at HB K_p
      rw [Nat.add_zero] at K_p
      go_enter Tryz.func70, Tryz.ntmps70
      go_upto_region 1 with (fail)
      generalize (w.alloc (.cells #[.int .i64 N, .int .i64 C] 30)) = w0 at *
      replace K_p := hide K_p
      replace HB := hide HB
      have p0 := (Blk.cell K_p.out 0).trans (rfl : _ = some (Value.int .i64 N))
      have p1 := (Blk.cell K_p.out 1).trans (rfl : _ = some (Value.int .i64 C))
      go_wp2_with fail
      refine (HC.out _).mono ?_
      rintro e w1 ⟨rfl, hb⟩
      clear p0 p1
      replace K_p := hide (Blk.below K_p.out hb (Blk.lt K_p.out))
      replace HB := hide (HB.out.trans (hb.mono HB.out.size))
      clear hb
      go_wp2_with fail
      go_ret
      exact ⟨rfl, HB.out⟩
    · have HC := hide (fun W => plsz_any W N C lot)
      rw [ckL_zero.2 (Classical.not_not.1 h0)] at HC
      have hr : ckI N C lot = 0 := by unfold ckI; rw [ckL_zero.2 (Classical.not_not.1 h0)]; simp; omega
      rw [hr]
      clear hr h0
      have HB := allocs_below w [.cells #[.int .i64 N, .int .i64 C] 30]
      have K_p : Blk (allocs w [.cells #[.int .i64 N, .int .i64 C] 30]) (w.heap.size + 0) 30 #[.int .i64 N, .int .i64 C] := allocs_at w [.cells #[.int .i64 N, .int .i64 C] 30] 0 rfl
      unfold allocs at HB K_p
      simp only [List.foldl_cons, List.foldl_nil] at HB K_p
      rw [Nat.add_zero] at K_p
      go_enter Tryz.func70, Tryz.ntmps70
      go_upto_region 1 with (fail)
      generalize (w.alloc (.cells #[.int .i64 N, .int .i64 C] 30)) = w0 at *
      replace K_p := hide K_p
      replace HB := hide HB
      have p0 := (Blk.cell K_p.out 0).trans (rfl : _ = some (Value.int .i64 N))
      have p1 := (Blk.cell K_p.out 1).trans (rfl : _ = some (Value.int .i64 C))
      go_wp2_with fail
      refine (HC.out _).mono ?_
      rintro e w1 ⟨rfl, hb⟩
      clear p0 p1
      replace K_p := hide (Blk.below K_p.out hb (Blk.lt K_p.out))
      replace HB := hide (HB.out.trans (hb.mono HB.out.size))
      clear hb
      go_wp2_with fail
      go_ret
      exact ⟨rfl, HB.out⟩

set_option maxRecDepth 100000 in
set_option maxHeartbeats 2000000 in
theorem lots_any (w : World) (lot : Int) (g : FuncId) (caps : Array Value) :
    Calls Tryz.prog 71 #[.int .i64 lot, .func (.func g) #[] caps] w fun e w' => e = .returned (.func (.func 116) #[] #[.pointer (some ⟨w.heap.size, 0, none⟩), .pointer (some ⟨w.heap.size + 1, 0, none⟩)]) ∧ w' = (w.alloc (.cells #[.int .i64 lot] 3)).alloc (.cells #[.func (.func g) #[] caps] 106) := by
  go_enter Tryz.func71, Tryz.ntmps71
  go_wp2_with fail
  go_ret
  exact ⟨rfl, rfl⟩

def dC (N C lot k : Nat) : Rat := accQ k (lot - k) N C
set_option maxRecDepth 100000 in
set_option maxHeartbeats 2000000 in
theorem funC_any (w : World) (N C lot k b1 b2 : Nat) (h1 : Blk w b1 30 #[.int .i64 (N : Int), .int .i64 (C : Int)]) (h2 : Blk w b2 3 #[.int .i64 (lot : Int)]) (h1N : 1 ≤ N) (hC : C ≤ N) (hNl : N ≤ lot) (hl : lot ≤ 64) (hk : k ≤ lot) (hs : Std w) :
    Calls Tryz.prog 72 #[.int .i64 (k : Int), .pointer (some ⟨b1, 0, none⟩), .pointer (some ⟨b2, 0, none⟩)] w fun e w' => e = .returned (.tuple #[.string ⟨(RT (dC N C lot k)).toArray⟩, .int .i64 0]) ∧ Below w.heap.size w w' := by
  have HC := hide (have := h1N; accept_any w N C lot k hC hNl hk hl (by omega) hs)
  unfold RetRat at HC
  have hd : accQ k (lot - k) N C = dC N C lot k := by unfold dC; rfl
  rw [hd] at HC
  obtain ⟨q, hq⟩ : ∃ q, dC N C lot k = q := ⟨_, rfl⟩
  rw [hq] at HC ⊢
  clear hq
  have a0 := Blk.cell h1 0
  have a1 := Blk.cell h1 1
  have a2 := Blk.cell h2 0
  clear h1 h2 hs
  go_enter Tryz.func72, Tryz.ntmps72
  go_wp2_with fail
  refine HC.out.mono ?_
  rintro e w1 ⟨rfl, hb⟩
  have HB := hide hb
  clear hb a0 a1 a2
  go_wp2_with fail
  go_ret2
  exact ⟨rfl, HB.out⟩

/-- What the iterator hands over. -/
def encC (N C lot : Nat) (k : Nat) : Array Value := #[.string ⟨(RT (dC N C lot k)).toArray⟩, .int .i64 0]
/-- The blocks that the iterator reads. -/
def blC (Bs Bf Bp Bl N C lot : Nat) : List (Nat × TypeId × Array Value) := [(Bs, 3, #[.int .i64 (lot : Int)]), (Bf, 106, #[.func (.func 72) #[] #[.pointer (some ⟨Bp, 0, none⟩), .pointer (some ⟨Bl, 0, none⟩)]]), (Bp, 30, #[.int .i64 (N : Int), .int .i64 (C : Int)]), (Bl, 3, #[.int .i64 (lot : Int)])]
/-- A round has left: it was one of the first lot + 1. -/
def spC (lot : Nat) (pre : List Nat) : Prop := ∃ k, k < lot + 1 ∧ pre = List.range k ++ [k]

set_option maxRecDepth 100000 in
set_option maxHeartbeats 8000000 in
theorem lotsC_in (n : Nat) (hn : 1 ≤ n) (l Bs Bf Bp Bl N C lot : Nat) (h1N : 1 ≤ N) (hC : C ≤ N) (hNl : N ≤ lot) (hl : lot ≤ 64) (J Jx : List Nat → World → Prop) (w00 : World) (hs : Std w00)
    (W : World) (hW : Below w00.heap.size w00 W) (hbl : Blks W (blC Bs Bf Bp Bl N C lot)) (hJ : AbidesFrom W.heap.size J)
    (hY : ∀ pre x W, J pre W → pre.length < lot + 1 → YieldAt Fence.wide (n - 1) Tryz.prog l (encC N C lot x) W fun e W' =>
      (e = .returned (.bool true) ∧ J (pre ++ [x]) W' ∧ KpB w00.heap.size (blC Bs Bf Bp Bl N C lot) W W') ∨ (e = .returned (.bool false) ∧ Jx (pre ++ [x]) W'))
    (h0 : J [] W) :
    CallsIn Fence.wide n Tryz.prog 116 #[.func (.yield l) #[] #[], .pointer (some ⟨Bs, 0, none⟩), .pointer (some ⟨Bf, 0, none⟩)] W fun e W' => (∃ v, e = .returned v) ∧
      ((∃ ys, ys = List.range (lot + 1) ∧ J ys W') ∨ (∃ pre, spC lot pre ∧ Jx pre W')) := by
  have HS := hide hs
  have HY := hide hY
  have HJ := hide hJ
  have HBW := hide hW
  have k0 := Blk.cell (hbl _ (.head _)) 0
  clear hY hJ hW hs
  have hw : IntKind.i64.wrap ((lot : Int) + 1) = ((lot + 1 : Nat) : Int) := (IntWalk.i64_in _ (by omega)).trans (by omega)
  refine callsIn_of_wp Tryz.func116 rfl trivial ?_ rfl
  simp only [Tryz.ntmps116, List.size_toArray, List.length_cons, List.length_nil, Nat.reduceAdd, Nat.reduceSub, Array.replicate_succ, Array.replicate_zero, List.push_toArray, List.append_toArray, List.nil_append, List.cons_append]
  gi_wp2
  clear k0
  gi_loopw [9] (fun i wr => ∃ k : Nat, k ≤ lot + 1 ∧ i = .int .i64 (k : Int) ∧ J (List.range k) wr ∧ Below w00.heap.size w00 wr ∧ Blks wr (blC Bs Bf Bp Bl N C lot) ∧ W.heap.size ≤ wr.heap.size)
    (fun i _ => lot + 1 - (intOf i).toNat)
  case atStart => exact ⟨0, Nat.zero_le _, rfl, h0, HBW.out, hbl, Nat.le_refl _⟩
  case round =>
    obtain ⟨k, hk, rfl, hJs, hnx, hbk, hsz⟩ := hrel
    by_cases hlt : k < lot + 1
    · have hji : (k : Int) < ((lot + 1 : Nat) : Int) := by omega
      have HF := hide (funC_any wr N C lot k Bp Bl (hbk _ (.tail _ (.tail _ (.head _)))) (hbk _ (.tail _ (.tail _ (.tail _ (.head _))))) h1N hC hNl hl (by omega) (HS.out.below hnx (Nat.le_refl _)))
      have f0 : wr.cell? ⟨Bf, 0, none⟩ = some (.func (.func 72) #[] #[.pointer (some ⟨Bp, 0, none⟩), .pointer (some ⟨Bl, 0, none⟩)]) := Blk.cell (hbk _ (.tail _ (.head _))) 0
      have HBK := hide hbk
      have HN := hide hnx
      have HJS := hide hJs
      obtain ⟨q, hq⟩ : ∃ q, dC N C lot k = q := ⟨_, rfl⟩
      rw [hq] at HF
      have HQ : Hid (encC N C lot k = #[.string ⟨(RT q).toArray⟩, .int .i64 0]) := hide (by unfold encC; rw [hq])
      clear hbk hnx hJs hq
      gi_wp2
      refine ⟨trivial, (callsIn_wide.2 HF.out).mono ?_⟩
      rintro e w1 ⟨rfl, hb⟩
      have HBK1 := hide (HBK.out.below hb)
      have HN1 := hide (HN.out.trans (hb.mono HN.out.size))
      have hJ1 := HJ.out _ _ _ none HJS.out (grown_of_below hb none) (fun r e => by cases e)
      have hs1 : W.heap.size ≤ w1.heap.size := Nat.le_trans hsz hb.size
      clear hb f0 HF
      obtain ⟨fn, tmps, assign, body, hy, hR⟩ := HY.out (List.range k) k _ hJ1 (by rw [List.length_range]; exact hlt)
      rw [HQ.out] at hy
      have hR2 := hR.mono (R' := fun e W' => ∃ g : Bool, e = .returned (.bool g) ∧ (g = true → J (List.range k ++ [k]) W' ∧ KpB w00.heap.size (blC Bs Bf Bp Bl N C lot) w1 W') ∧ (g = false → Jx (List.range k ++ [k]) W')) (by
        rintro e W' (⟨rfl, h1, h2⟩ | ⟨rfl, h1⟩)
        · exact ⟨true, rfl, fun _ => ⟨h1, h2⟩, fun h => absurd h (by simp)⟩
        · exact ⟨false, rfl, fun h => absurd h (by simp), fun _ => h1⟩)
      have HR := hide hR2
      clear hR hR2 hJ1
      gi_wp2
      refine HR.out.mono ?_
      rintro e W3 ⟨g, rfl, hg1, hg2⟩
      clear hy
      have HG1 := hide hg1
      have HG2 := hide hg2
      clear hg1 hg2
      cases g
      · gi_wp2
        refine bodyPost_ret (results_none rfl _ _ _) rfl ?_
        exact ⟨⟨_, rfl⟩, .inr ⟨_, ⟨k, hlt, rfl⟩, HG2.out (by simp)⟩⟩
      · have hk3 := hide (HG1.out (by simp)).2
        have HJ3 := hide (HG1.out (by simp)).1
        have hs3 : W.heap.size ≤ W3.heap.size := Nat.le_trans hs1 hk3.out.1.size
        gi_wp2
        go_roundw
        case rel => exact ⟨k + 1, hlt, by go_num, by rw [List.range_succ]; exact HJ3.out, HN1.out.trans hk3.out.1, hk3.out.2 HBK1.out, hs3⟩
        case measure => simp [intOf]; omega
    · obtain rfl : k = lot + 1 := by omega
      have hji : ¬ ((lot + 1 : Nat) : Int) < ((lot + 1 : Nat) : Int) := by omega
      gi_wp2
      go_end0
      exact ⟨⟨_, rfl⟩, .inl (by first | exact ⟨_, rfl, hJs⟩ | (rw [← List.range_succ]; exact hJs))⟩

theorem lotsC_stops (n : Nat) (hn : 1 ≤ n) (Bs Bf Bp Bl N C lot : Nat) (h1N : 1 ≤ N) (hC : C ≤ N) (hNl : N ≤ lot) (hl : lot ≤ 64) (w00 : World) (hs : Std w00) (w0 : World) (hw0 : Below w00.heap.size w00 w0) (hbl : Blks w0 (blC Bs Bf Bp Bl N C lot)) :
    SeqStopsK Fence.wide n Tryz.prog 116 #[.pointer (some ⟨Bs, 0, none⟩), .pointer (some ⟨Bf, 0, none⟩)] (encC N C lot) (KpB w00.heap.size (blC Bs Bf Bp Bl N C lot)) (fun ys => ys = List.range (lot + 1)) (spC lot) (lot + 1) w0 := fun l J Jx W hW hJ _ hY h0 =>
  lotsC_in n hn l Bs Bf Bp Bl N C lot h1N hC hNl hl J Jx w00 hs W (hw0.trans (hW.mono hw0.size)) (hbl.below hW) hJ hY h0

def dW (N C lot k : Nat) : Rat := outQ (min k lot) (lot - min k lot) N C
set_option maxRecDepth 100000 in
set_option maxHeartbeats 2000000 in
theorem funW_any (w : World) (N C lot k b1 b2 : Nat) (h1 : Blk w b1 30 #[.int .i64 (N : Int), .int .i64 (C : Int)]) (h2 : Blk w b2 3 #[.int .i64 (lot : Int)]) (h1N : 1 ≤ N) (hC : C ≤ N) (hNl : N ≤ lot) (hl : lot ≤ 64) (hk : k ≤ lot) (hs : Std w) :
    Calls Tryz.prog 87 #[.int .i64 (k : Int), .pointer (some ⟨b1, 0, none⟩), .pointer (some ⟨b2, 0, none⟩)] w fun e w' => e = .returned (.tuple #[.string ⟨(RT (dW N C lot k)).toArray⟩, .int .i64 0]) ∧ Below w.heap.size w w' := by
  have HC := hide (outgoing_any w N C lot k h1N hC hNl hk hl (by omega) hs)
  unfold RetRat at HC
  have hd : outQ k (lot - k) N C = dW N C lot k := by unfold dW; rw [Nat.min_eq_left hk]
  rw [hd] at HC
  obtain ⟨q, hq⟩ : ∃ q, dW N C lot k = q := ⟨_, rfl⟩
  rw [hq] at HC ⊢
  clear hq
  have a0 := Blk.cell h1 0
  have a1 := Blk.cell h1 1
  have a2 := Blk.cell h2 0
  clear h1 h2 hs
  go_enter Tryz.func87, Tryz.ntmps87
  go_wp2_with fail
  refine HC.out.mono ?_
  rintro e w1 ⟨rfl, hb⟩
  have HB := hide hb
  clear hb a0 a1 a2
  go_wp2_with fail
  go_ret2
  exact ⟨rfl, HB.out⟩

/-- What the iterator hands over. -/
def encW (N C lot : Nat) (k : Nat) : Array Value := #[.string ⟨(RT (dW N C lot k)).toArray⟩, .int .i64 0]
/-- The blocks that the iterator reads. -/
def blW (Bs Bf Bp Bl N C lot : Nat) : List (Nat × TypeId × Array Value) := [(Bs, 3, #[.int .i64 (lot : Int)]), (Bf, 106, #[.func (.func 87) #[] #[.pointer (some ⟨Bp, 0, none⟩), .pointer (some ⟨Bl, 0, none⟩)]]), (Bp, 30, #[.int .i64 (N : Int), .int .i64 (C : Int)]), (Bl, 3, #[.int .i64 (lot : Int)])]
/-- A round has left: it was one of the first lot + 1. -/
def spW (lot : Nat) (pre : List Nat) : Prop := ∃ k, k < lot + 1 ∧ pre = List.range k ++ [k]

set_option maxRecDepth 100000 in
set_option maxHeartbeats 8000000 in
theorem lotsW_in (n : Nat) (hn : 1 ≤ n) (l Bs Bf Bp Bl N C lot : Nat) (h1N : 1 ≤ N) (hC : C ≤ N) (hNl : N ≤ lot) (hl : lot ≤ 64) (J Jx : List Nat → World → Prop) (w00 : World) (hs : Std w00)
    (W : World) (hW : Below w00.heap.size w00 W) (hbl : Blks W (blW Bs Bf Bp Bl N C lot)) (hJ : AbidesFrom W.heap.size J)
    (hY : ∀ pre x W, J pre W → pre.length < lot + 1 → YieldAt Fence.wide (n - 1) Tryz.prog l (encW N C lot x) W fun e W' =>
      (e = .returned (.bool true) ∧ J (pre ++ [x]) W' ∧ KpB w00.heap.size (blW Bs Bf Bp Bl N C lot) W W') ∨ (e = .returned (.bool false) ∧ Jx (pre ++ [x]) W'))
    (h0 : J [] W) :
    CallsIn Fence.wide n Tryz.prog 116 #[.func (.yield l) #[] #[], .pointer (some ⟨Bs, 0, none⟩), .pointer (some ⟨Bf, 0, none⟩)] W fun e W' => (∃ v, e = .returned v) ∧
      ((∃ ys, ys = List.range (lot + 1) ∧ J ys W') ∨ (∃ pre, spW lot pre ∧ Jx pre W')) := by
  have HS := hide hs
  have HY := hide hY
  have HJ := hide hJ
  have HBW := hide hW
  have k0 := Blk.cell (hbl _ (.head _)) 0
  clear hY hJ hW hs
  have hw : IntKind.i64.wrap ((lot : Int) + 1) = ((lot + 1 : Nat) : Int) := (IntWalk.i64_in _ (by omega)).trans (by omega)
  refine callsIn_of_wp Tryz.func116 rfl trivial ?_ rfl
  simp only [Tryz.ntmps116, List.size_toArray, List.length_cons, List.length_nil, Nat.reduceAdd, Nat.reduceSub, Array.replicate_succ, Array.replicate_zero, List.push_toArray, List.append_toArray, List.nil_append, List.cons_append]
  gi_wp2
  clear k0
  gi_loopw [9] (fun i wr => ∃ k : Nat, k ≤ lot + 1 ∧ i = .int .i64 (k : Int) ∧ J (List.range k) wr ∧ Below w00.heap.size w00 wr ∧ Blks wr (blW Bs Bf Bp Bl N C lot) ∧ W.heap.size ≤ wr.heap.size)
    (fun i _ => lot + 1 - (intOf i).toNat)
  case atStart => exact ⟨0, Nat.zero_le _, rfl, h0, HBW.out, hbl, Nat.le_refl _⟩
  case round =>
    obtain ⟨k, hk, rfl, hJs, hnx, hbk, hsz⟩ := hrel
    by_cases hlt : k < lot + 1
    · have hji : (k : Int) < ((lot + 1 : Nat) : Int) := by omega
      have HF := hide (funW_any wr N C lot k Bp Bl (hbk _ (.tail _ (.tail _ (.head _)))) (hbk _ (.tail _ (.tail _ (.tail _ (.head _))))) h1N hC hNl hl (by omega) (HS.out.below hnx (Nat.le_refl _)))
      have f0 : wr.cell? ⟨Bf, 0, none⟩ = some (.func (.func 87) #[] #[.pointer (some ⟨Bp, 0, none⟩), .pointer (some ⟨Bl, 0, none⟩)]) := Blk.cell (hbk _ (.tail _ (.head _))) 0
      have HBK := hide hbk
      have HN := hide hnx
      have HJS := hide hJs
      obtain ⟨q, hq⟩ : ∃ q, dW N C lot k = q := ⟨_, rfl⟩
      rw [hq] at HF
      have HQ : Hid (encW N C lot k = #[.string ⟨(RT q).toArray⟩, .int .i64 0]) := hide (by unfold encW; rw [hq])
      clear hbk hnx hJs hq
      gi_wp2
      refine ⟨trivial, (callsIn_wide.2 HF.out).mono ?_⟩
      rintro e w1 ⟨rfl, hb⟩
      have HBK1 := hide (HBK.out.below hb)
      have HN1 := hide (HN.out.trans (hb.mono HN.out.size))
      have hJ1 := HJ.out _ _ _ none HJS.out (grown_of_below hb none) (fun r e => by cases e)
      have hs1 : W.heap.size ≤ w1.heap.size := Nat.le_trans hsz hb.size
      clear hb f0 HF
      obtain ⟨fn, tmps, assign, body, hy, hR⟩ := HY.out (List.range k) k _ hJ1 (by rw [List.length_range]; exact hlt)
      rw [HQ.out] at hy
      have hR2 := hR.mono (R' := fun e W' => ∃ g : Bool, e = .returned (.bool g) ∧ (g = true → J (List.range k ++ [k]) W' ∧ KpB w00.heap.size (blW Bs Bf Bp Bl N C lot) w1 W') ∧ (g = false → Jx (List.range k ++ [k]) W')) (by
        rintro e W' (⟨rfl, h1, h2⟩ | ⟨rfl, h1⟩)
        · exact ⟨true, rfl, fun _ => ⟨h1, h2⟩, fun h => absurd h (by simp)⟩
        · exact ⟨false, rfl, fun h => absurd h (by simp), fun _ => h1⟩)
      have HR := hide hR2
      clear hR hR2 hJ1
      gi_wp2
      refine HR.out.mono ?_
      rintro e W3 ⟨g, rfl, hg1, hg2⟩
      clear hy
      have HG1 := hide hg1
      have HG2 := hide hg2
      clear hg1 hg2
      cases g
      · gi_wp2
        refine bodyPost_ret (results_none rfl _ _ _) rfl ?_
        exact ⟨⟨_, rfl⟩, .inr ⟨_, ⟨k, hlt, rfl⟩, HG2.out (by simp)⟩⟩
      · have hk3 := hide (HG1.out (by simp)).2
        have HJ3 := hide (HG1.out (by simp)).1
        have hs3 : W.heap.size ≤ W3.heap.size := Nat.le_trans hs1 hk3.out.1.size
        gi_wp2
        go_roundw
        case rel => exact ⟨k + 1, hlt, by go_num, by rw [List.range_succ]; exact HJ3.out, HN1.out.trans hk3.out.1, hk3.out.2 HBK1.out, hs3⟩
        case measure => simp [intOf]; omega
    · obtain rfl : k = lot + 1 := by omega
      have hji : ¬ ((lot + 1 : Nat) : Int) < ((lot + 1 : Nat) : Int) := by omega
      gi_wp2
      go_end0
      exact ⟨⟨_, rfl⟩, .inl (by first | exact ⟨_, rfl, hJs⟩ | (rw [← List.range_succ]; exact hJs))⟩

theorem lotsW_stops (n : Nat) (hn : 1 ≤ n) (Bs Bf Bp Bl N C lot : Nat) (h1N : 1 ≤ N) (hC : C ≤ N) (hNl : N ≤ lot) (hl : lot ≤ 64) (w00 : World) (hs : Std w00) (w0 : World) (hw0 : Below w00.heap.size w00 w0) (hbl : Blks w0 (blW Bs Bf Bp Bl N C lot)) :
    SeqStopsK Fence.wide n Tryz.prog 116 #[.pointer (some ⟨Bs, 0, none⟩), .pointer (some ⟨Bf, 0, none⟩)] (encW N C lot) (KpB w00.heap.size (blW Bs Bf Bp Bl N C lot)) (fun ys => ys = List.range (lot + 1)) (spW lot) (lot + 1) w0 := fun l J Jx W hW hJ _ hY h0 =>
  lotsW_in n hn l Bs Bf Bp Bl N C lot h1N hC hNl hl J Jx w00 hs W (hw0.trans (hW.mono hw0.size)) (hbl.below hW) hJ hY h0

end Go.Proofs.YtaccdkbofhlbkaaGreatDoor
