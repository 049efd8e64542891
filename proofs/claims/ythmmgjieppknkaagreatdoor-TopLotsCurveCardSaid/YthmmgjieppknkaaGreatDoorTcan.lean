/- Contracts and plain laws that the statements of this seat share (part Tcan). -/
import Derived.Test.YthmmgjieppknkaaGreatDoorTcaa
import Derived.Test.YthmmgjieppknkaaGreatDoorTcac
import Derived.Test.YthmmgjieppknkaaGreatDoorTcaf
import Derived.Test.YthmmgjieppknkaaGreatDoorTcag
import Derived.Test.YthmmgjieppknkaaGreatDoorTcah
import Derived.Test.YthmmgjieppknkaaGreatDoorTcai
import Derived.Test.YthmmgjieppknkaaGreatDoorTcaj
import Derived.Test.YthmmgjieppknkaaGreatDoorKtaa
import Derived.Test.YthmmgjieppknkaaGreatDoorKtab
import Derived.Test.YthmmgjieppknkaaGreatDoorKtac
import Derived.Test.YthmmgjieppknkaaGreatDoorKtad
import Derived.Test.YthmmgjieppknkaaGreatDoorKtai
import Derived.Test.YthmmgjieppknkaaGreatDoorKtak
import Derived.Test.YthmmgjieppknkaaGreatDoorKtal
import Derived.Test.YthmmgjieppknkaaGreatDoorKtam
import Derived.Test.YthmmgjieppknkaaGreatDoorKtan
import Derived.Test.YthmmgjieppknkaaGreatDoorKtap
import Derived.Test.YthmmgjieppknkaaGreatDoorKtas
import Derived.Test.YthmmgjieppknkaaGreatDoorKtat
import Derived.Test.YthmmgjieppknkaaGreatDoorKtau
namespace Go.Proofs.YthmmgjieppknkaaGreatDoor
open Go.RowKit Go.Shelf MLab
attribute [local go_sem] Oper.semAt_some
def ckI (N C lot : Int) : Int := if ckL N C lot ≠ 0 then 2 else if 256 < lot then 5 else 0
set_option maxRecDepth 100000 in
set_option maxHeartbeats 2000000 in
theorem listed_any (w : World) (N C lot : Int) :
    Calls Tryz.prog 89 #[.agg #[.int .i64 N, .int .i64 C], .int .i64 lot] w fun e w' => e = .returned (.int .i64 (ckI N C lot)) ∧ Below w.heap.size w w' := by
  by_cases h0 : ¬ ((1 ≤ N ∧ N ≤ 256 ∧ 0 ≤ C ∧ C ≤ N) ∧ N ≤ lot ∧ lot ≤ 4096)
  · have HC := hide (fun W => plsz_any W N C lot)
    rw [ckL_two.2 h0] at HC
    have hr : ckI N C lot = 2 := by unfold ckI; rw [ckL_two.2 h0]; simp
    rw [hr]
    clear hr h0
    have HB := allocs_below w [.cells #[.int .i64 N, .int .i64 C] 91]
    have K_p : Blk (allocs w [.cells #[.int .i64 N, .int .i64 C] 91]) (w.heap.size + 0) 91 #[.int .i64 N, .int .i64 C] := allocs_at w [.cells #[.int .i64 N, .int .i64 C] 91] 0 rfl
    unfold allocs at HB K_p
    simp only [List.foldl_cons, List.foldl_nil] at HB K_p
    rw [Nat.add_zero] at K_p
    go_enter Tryz.func89, Tryz.ntmps89
    go_upto_region 1 with (fail)
    generalize (w.alloc (.cells #[.int .i64 N, .int .i64 C] 91)) = w0 at *
    replace K_p := hide K_p
    replace HB := hide HB
    have p0 := (Blk.cell K_p.out 0).trans (rfl : _ = some (Value.int .i64 N))
    have p1 := (Blk.cell K_p.out 1).trans (rfl : _ = some (Value.int .i64 C))
    go_wp2_with fail
    refine (HC.out _).mono ?_
    rintro e w1 ⟨rfl, hb⟩
    clear p0 p1
    replace K_p := hide (Blk.below K_p.out hb (Blk.lt K_p.out))
    replace HB := hide (HB.out.trans (hb.mono HB.out.size))
    clear hb
    go_wp2_with fail
    go_ret
    exact ⟨rfl, HB.out⟩
  · by_cases h1 : 256 < lot
    · have HC := hide (fun W => plsz_any W N C lot)
      rw [ckL_zero.2 (Classical.not_not.1 h0)] at HC
      have hr : ckI N C lot = 5 := by unfold ckI; rw [ckL_zero.2 (Classical.not_not.1 h0)]; simp; omega
      rw [hr]
      clear hr h0
      have HB := allocs_below w [.cells #[.int .i64 N, .int .i64 C] 91]
      have K_p : Blk (allocs w [.cells #[.int .i64 N, .int .i64 C] 91]) (w.heap.size + 0) 91 #[.int .i64 N, .int .i64 C] := allocs_at w [.cells #[.int .i64 N, .int .i64 C] 91] 0 rfl
      unfold allocs at HB K_p
      simp only [List.foldl_cons, List.foldl_nil] at HB K_p
      rw [Nat.add_zero] at K_p
      go_enter Tryz.func89, Tryz.ntmps89
      go_upto_region 1 with (fail)
      generalize (w.alloc (.cells #[.int .i64 N, .int .i64 C] 91)) = w0 at *
      replace K_p := hide K_p
      replace HB := hide HB
      have p0 := (Blk.cell K_p.out 0).trans (rfl : _ = some (Value.int .i64 N))
      have p1 := (Blk.cell K_p.out 1).trans (rfl : _ = some (Value.int .i64 C))
      go_wp2_with fail
      refine (HC.out _).mono ?_
      rintro e w1 ⟨rfl, hb⟩
      clear p0 p1
      replace K_p := hide (Blk.below K_p.out hb (Blk.lt K_p.out))
      replace HB := hide (HB.out.trans (hb.mono HB.out.size))
      clear hb
      go_wp2_with fail
      go_ret
      exact ⟨rfl, HB.out⟩
    · have HC := hide (fun W => plsz_any W N C lot)
      rw [ckL_zero.2 (Classical.not_not.1 h0)] at HC
      have hr : ckI N C lot = 0 := by unfold ckI; rw [ckL_zero.2 (Classical.not_not.1 h0)]; simp; omega
      rw [hr]
      clear hr h0
      have HB := allocs_below w [.cells #[.int .i64 N, .int .i64 C] 91]
      have K_p : Blk (allocs w [.cells #[.int .i64 N, .int .i64 C] 91]) (w.heap.size + 0) 91 #[.int .i64 N, .int .i64 C] := allocs_at w [.cells #[.int .i64 N, .int .i64 C] 91] 0 rfl
      unfold allocs at HB K_p
      simp only [List.foldl_cons, List.foldl_nil] at HB K_p
      rw [Nat.add_zero] at K_p
      go_enter Tryz.func89, Tryz.ntmps89
      go_upto_region 1 with (fail)
      generalize (w.alloc (.cells #[.int .i64 N, .int .i64 C] 91)) = w0 at *
      replace K_p := hide K_p
      replace HB := hide HB
      have p0 := (Blk.cell K_p.out 0).trans (rfl : _ = some (Value.int .i64 N))
      have p1 := (Blk.cell K_p.out 1).trans (rfl : _ = some (Value.int .i64 C))
      go_wp2_with fail
      refine (HC.out _).mono ?_
      rintro e w1 ⟨rfl, hb⟩
      clear p0 p1
      replace K_p := hide (Blk.below K_p.out hb (Blk.lt K_p.out))
      replace HB := hide (HB.out.trans (hb.mono HB.out.size))
      clear hb
      go_wp2_with fail
      go_ret
      exact ⟨rfl, HB.out⟩
set_option maxRecDepth 100000 in
set_option maxHeartbeats 2000000 in
theorem lots_any (w : World) (lot : Int) (g : FuncId) (caps : Array Value) :
    Calls Tryz.prog 90 #[.int .i64 lot, .func (.func g) #[] caps] w fun e w' => e = .returned (.func (.func 132) #[] #[.pointer (some ⟨w.heap.size, 0, none⟩), .pointer (some ⟨w.heap.size + 1, 0, none⟩)]) ∧ w' = (w.alloc (.cells #[.int .i64 lot] 3)).alloc (.cells #[.func (.func g) #[] caps] 156) := by
  go_enter Tryz.func90, Tryz.ntmps90
  go_wp2_with fail
  go_ret
  exact ⟨rfl, rfl⟩
def dC (N C lot k : Nat) : Rat := accQ k (lot - k) N C
set_option maxRecDepth 100000 in
set_option maxHeartbeats 2000000 in
theorem funC_any (w : World) (N C lot k b1 b2 : Nat) (h1 : Blk w b1 91 #[.int .i64 (N : Int), .int .i64 (C : Int)]) (h2 : Blk w b2 3 #[.int .i64 (lot : Int)]) (h1N : 1 ≤ N) (hC : C ≤ N) (hNl : N ≤ lot) (hl : lot ≤ 64) (hk : k ≤ lot) (hs : Std w) :
    Calls Tryz.prog 91 #[.int .i64 (k : Int), .pointer (some ⟨b1, 0, none⟩), .pointer (some ⟨b2, 0, none⟩)] w fun e w' => e = .returned (.tuple #[.string ⟨(RT (dC N C lot k)).toArray⟩, .int .i64 0]) ∧ Below w.heap.size w w' := by
  have HC := hide (have := h1N; accept_any w N C lot k hC hNl hk hl (by omega) hs)
  unfold RetRat at HC
  have hd : accQ k (lot - k) N C = dC N C lot k := by unfold dC; rfl
  rw [hd] at HC
  obtain ⟨q, hq⟩ : ∃ q, dC N C lot k = q := ⟨_, rfl⟩
  rw [hq] at HC ⊢
  clear hq
  have a0 := Blk.cell h1 0
  have a1 := Blk.cell h1 1
  have a2 := Blk.cell h2 0
  clear h1 h2 hs
  go_enter Tryz.func91, Tryz.ntmps91
  go_wp2_with fail
  refine HC.out.mono ?_
  rintro e w1 ⟨rfl, hb⟩
  have HB := hide hb
  clear hb a0 a1 a2
  go_wp2_with fail
  go_ret2
  exact ⟨rfl, HB.out⟩
def encC (N C lot : Nat) (k : Nat) : Array Value := #[.string ⟨(RT (dC N C lot k)).toArray⟩, .int .i64 0]
def blC (Bs Bf Bp Bl N C lot : Nat) : List (Nat × TypeId × Array Value) := [(Bs, 3, #[.int .i64 (lot : Int)]), (Bf, 156, #[.func (.func 91) #[] #[.pointer (some ⟨Bp, 0, none⟩), .pointer (some ⟨Bl, 0, none⟩)]]), (Bp, 91, #[.int .i64 (N : Int), .int .i64 (C : Int)]), (Bl, 3, #[.int .i64 (lot : Int)])]
def spC (lot : Nat) (pre : List Nat) : Prop := ∃ k, k < lot + 1 ∧ pre = List.range k ++ [k]
set_option maxRecDepth 100000 in
set_option maxHeartbeats 8000000 in
theorem lotsC_in (n : Nat) (hn : 1 ≤ n) (l Bs Bf Bp Bl N C lot : Nat) (h1N : 1 ≤ N) (hC : C ≤ N) (hNl : N ≤ lot) (hl : lot ≤ 64) (J Jx : List Nat → World → Prop) (w00 : World) (hs : Std w00)
    (W : World) (hW : Below w00.heap.size w00 W) (hbl : Blks W (blC Bs Bf Bp Bl N C lot)) (hJ : AbidesFrom W.heap.size J)
    (hY : ∀ pre x W, J pre W → pre.length < lot + 1 → YieldAt Fence.wide (n - 1) Tryz.prog l (encC N C lot x) W fun e W' =>
      (e = .returned (.bool true) ∧ J (pre ++ [x]) W' ∧ KpB w00.heap.size (blC Bs Bf Bp Bl N C lot) W W') ∨ (e = .returned (.bool false) ∧ Jx (pre ++ [x]) W'))
    (h0 : J [] W) :
    CallsIn Fence.wide n Tryz.prog 132 #[.func (.yield l) #[] #[], .pointer (some ⟨Bs, 0, none⟩), .pointer (some ⟨Bf, 0, none⟩)] W fun e W' => (∃ v, e = .returned v) ∧
      ((∃ ys, ys = List.range (lot + 1) ∧ J ys W') ∨ (∃ pre, spC lot pre ∧ Jx pre W')) := by
  have HS := hide hs
  have HY := hide hY
  have HJ := hide hJ
  have HBW := hide hW
  have k0 := Blk.cell (hbl _ (.head _)) 0
  clear hY hJ hW hs
  have hw : IntKind.i64.wrap ((lot : Int) + 1) = ((lot + 1 : Nat) : Int) := (IntWalk.i64_in _ (by omega)).trans (by omega)
  refine callsIn_of_wp Tryz.func132 rfl trivial ?_ rfl
  simp only [Tryz.ntmps132, List.size_toArray, List.length_cons, List.length_nil, Nat.reduceAdd, Nat.reduceSub, Array.replicate_succ, Array.replicate_zero, List.push_toArray, List.append_toArray, List.nil_append, List.cons_append]
  gi_wp2
  clear k0
  gi_loopw [9] (fun i wr => ∃ k : Nat, k ≤ lot + 1 ∧ i = .int .i64 (k : Int) ∧ J (List.range k) wr ∧ Below w00.heap.size w00 wr ∧ Blks wr (blC Bs Bf Bp Bl N C lot) ∧ W.heap.size ≤ wr.heap.size)
    (fun i _ => lot + 1 - (intOf i).toNat)
  case atStart => exact ⟨0, Nat.zero_le _, rfl, h0, HBW.out, hbl, Nat.le_refl _⟩
  case round =>
    obtain ⟨k, hk, rfl, hJs, hnx, hbk, hsz⟩ := hrel
    by_cases hlt : k < lot + 1
    · have hji : (k : Int) < ((lot + 1 : Nat) : Int) := by omega
      have HF := hide (funC_any wr N C lot k Bp Bl (hbk _ (.tail _ (.tail _ (.head _)))) (hbk _ (.tail _ (.tail _ (.tail _ (.head _))))) h1N hC hNl hl (by omega) (HS.out.below hnx (Nat.le_refl _)))
      have f0 : wr.cell? ⟨Bf, 0, none⟩ = some (.func (.func 91) #[] #[.pointer (some ⟨Bp, 0, none⟩), .pointer (some ⟨Bl, 0, none⟩)]) := Blk.cell (hbk _ (.tail _ (.head _))) 0
      have HBK := hide hbk
      have HN := hide hnx
      have HJS := hide hJs
      obtain ⟨q, hq⟩ : ∃ q, dC N C lot k = q := ⟨_, rfl⟩
      rw [hq] at HF
      have HQ : Hid (encC N C lot k = #[.string ⟨(RT q).toArray⟩, .int .i64 0]) := hide (by unfold encC; rw [hq])
      clear hbk hnx hJs hq
      gi_wp2
      refine ⟨trivial, (callsIn_wide.2 HF.out).mono ?_⟩
      rintro e w1 ⟨rfl, hb⟩
      have HBK1 := hide (HBK.out.below hb)
      have HN1 := hide (HN.out.trans (hb.mono HN.out.size))
      have hJ1 := HJ.out _ _ _ none HJS.out (grown_of_below hb none) (fun r e => by cases e)
      have hs1 : W.heap.size ≤ w1.heap.size := Nat.le_trans hsz hb.size
      clear hb f0 HF
      obtain ⟨fn, tmps, assign, body, hy, hR⟩ := HY.out (List.range k) k _ hJ1 (by rw [List.length_range]; exact hlt)
      rw [HQ.out] at hy
      have hR2 := hR.mono (R' := fun e W' => ∃ g : Bool, e = .returned (.bool g) ∧ (g = true → J (List.range k ++ [k]) W' ∧ KpB w00.heap.size (blC Bs Bf Bp Bl N C lot) w1 W') ∧ (g = false → Jx (List.range k ++ [k]) W')) (by
        rintro e W' (⟨rfl, h1, h2⟩ | ⟨rfl, h1⟩)
        · exact ⟨true, rfl, fun _ => ⟨h1, h2⟩, fun h => absurd h (by simp)⟩
        · exact ⟨false, rfl, fun h => absurd h (by simp), fun _ => h1⟩)
      have HR := hide hR2
      clear hR hR2 hJ1
      gi_wp2
      refine HR.out.mono ?_
      rintro e W3 ⟨g, rfl, hg1, hg2⟩
      clear hy
      have HG1 := hide hg1
      have HG2 := hide hg2
      clear hg1 hg2
      cases g
      · gi_wp2
        refine bodyPost_ret (results_none rfl _ _ _) rfl ?_
        exact ⟨⟨_, rfl⟩, .inr ⟨_, ⟨k, hlt, rfl⟩, HG2.out (by simp)⟩⟩
      · have hk3 := hide (HG1.out (by simp)).2
        have HJ3 := hide (HG1.out (by simp)).1
        have hs3 : W.heap.size ≤ W3.heap.size := Nat.le_trans hs1 hk3.out.1.size
        gi_wp2
        go_roundw
        case rel => exact ⟨k + 1, hlt, by go_num, by rw [List.range_succ]; exact HJ3.out, HN1.out.trans hk3.out.1, hk3.out.2 HBK1.out, hs3⟩
        case measure => simp [intOf]; omega
    · obtain rfl : k = lot + 1 := by omega
      have hji : ¬ ((lot + 1 : Nat) : Int) < ((lot + 1 : Nat) : Int) := by omega
      gi_wp2
      go_end0
      exact ⟨⟨_, rfl⟩, .inl (by first | exact ⟨_, rfl, hJs⟩ | (rw [← List.range_succ]; exact hJs))⟩
theorem lotsC_stops (n : Nat) (hn : 1 ≤ n) (Bs Bf Bp Bl N C lot : Nat) (h1N : 1 ≤ N) (hC : C ≤ N) (hNl : N ≤ lot) (hl : lot ≤ 64) (w00 : World) (hs : Std w00) (w0 : World) (hw0 : Below w00.heap.size w00 w0) (hbl : Blks w0 (blC Bs Bf Bp Bl N C lot)) :
    SeqStopsK Fence.wide n Tryz.prog 132 #[.pointer (some ⟨Bs, 0, none⟩), .pointer (some ⟨Bf, 0, none⟩)] (encC N C lot) (KpB w00.heap.size (blC Bs Bf Bp Bl N C lot)) (fun ys => ys = List.range (lot + 1)) (spC lot) (lot + 1) w0 := fun l J Jx W hW hJ _ hY h0 =>
  lotsC_in n hn l Bs Bf Bp Bl N C lot h1N hC hNl hl J Jx w00 hs W (hw0.trans (hW.mono hw0.size)) (hbl.below hW) hJ hY h0
end Go.Proofs.YthmmgjieppknkaaGreatDoor

namespace Go.Proofs.YthmmgjieppknkaaGreatDoor
open Go.RowKit Go.Shelf MLab
attribute [local go_sem] Oper.semAt_some
theorem info_rat : (Tryz.prog.info? 65).map (fun i => (i.zero, i.size, i.bytes)) = some (some (.string ⟨#[]⟩), 1, 16) := by kernel_rfl
def rcl (L : List Rat) : List Value := L.map fun q => .string ⟨(RT q).toArray⟩
theorem rcl_snoc (L : List Rat) (q : Rat) : rcl L ++ [.string ⟨(RT q).toArray⟩] = rcl (L ++ [q]) := by simp [rcl]
theorem strs_of_row {w : World} {base n : Nat} {v : Value} {L : List Rat} (h : w.ownsRow base 65 1 v n (rcl L)) (hn : n = L.length) : Strs w v (L.map RT) := by
  subst hn
  rcases h.2 with ⟨rfl, h0⟩ | ⟨g, cap, cur, rfl, hb, hgg, hn, hcap, hsz, htake⟩
  · exact ⟨none, 0, by rw [List.length_map, h0], fun h => absurd h (by rw [List.length_map, h0]; omega)⟩
  · refine ⟨some ⟨g, 0, none⟩, cap, by simp, fun h0 => ⟨g, 0, rfl, fun p l hp => ?_⟩⟩
    obtain ⟨q, hq, rfl⟩ : ∃ q, L[p]? = some q ∧ RT q = l := by simpa using hp
    have hpl : p < L.length := (List.getElem?_eq_some_iff.1 hq).1
    have h1 : (rcl L)[p]? = some (.string ⟨(RT q).toArray⟩) := by simp [rcl, hq]
    rw [← htake, List.getElem?_take, if_pos (by omega)] at h1
    have h2 : cur[p]? = some (.string ⟨(RT q).toArray⟩) := by simpa using h1
    refine ⟨⟨(RT q).toArray⟩, (Blk.cell (t := 65) (cs := cur) hgg (0 + p)).trans ?_, rfl⟩
    rw [Nat.zero_add]; exact h2
set_option maxRecDepth 100000 in
set_option maxHeartbeats 8000000 in
theorem curve_any (w : World) (N C lot : Nat) (h1N : 1 ≤ N) (hC : C ≤ N) (hNl : N ≤ lot) (hl : lot ≤ 64) (hs : Std w) :
    Calls Tryz.prog 51 #[.agg #[.int .i64 (N : Int), .int .i64 (C : Int)], .int .i64 (lot : Int)] w fun e w' => ∃ v, e = .returned (.tuple #[v, .int .i64 0]) ∧ Strs w' v (((List.range (lot + 1)).map (dC N C lot)).map RT) ∧ Below w.heap.size w w' := by
  have HS := hide hs
  have HC := hide (fun W => listed_any W (N : Int) (C : Int) (lot : Int))
  have hck : ckI (N : Int) (C : Int) (lot : Int) = 0 := by unfold ckI; rw [ckL_zero.2 (by omega)]; simp; omega
  rw [hck] at HC
  clear hck hs
  have HB := allocs_below w [.cells #[.int .i64 (N : Int), .int .i64 (C : Int)] 91, .cells #[.int .i64 (lot : Int)] 3, .cells #[.slice none 0 0] 97, .cells #[.int .i64 0] 31]
  have K_p : Blk (allocs w [.cells #[.int .i64 (N : Int), .int .i64 (C : Int)] 91, .cells #[.int .i64 (lot : Int)] 3, .cells #[.slice none 0 0] 97, .cells #[.int .i64 0] 31]) (w.heap.size + 0) 91 #[.int .i64 (N : Int), .int .i64 (C : Int)] := allocs_at w [.cells #[.int .i64 (N : Int), .int .i64 (C : Int)] 91, .cells #[.int .i64 (lot : Int)] 3, .cells #[.slice none 0 0] 97, .cells #[.int .i64 0] 31] 0 rfl
  have K_l : Blk (allocs w [.cells #[.int .i64 (N : Int), .int .i64 (C : Int)] 91, .cells #[.int .i64 (lot : Int)] 3, .cells #[.slice none 0 0] 97, .cells #[.int .i64 0] 31]) (w.heap.size + 1) 3 #[.int .i64 (lot : Int)] := allocs_at w [.cells #[.int .i64 (N : Int), .int .i64 (C : Int)] 91, .cells #[.int .i64 (lot : Int)] 3, .cells #[.slice none 0 0] 97, .cells #[.int .i64 0] 31] 1 rfl
  have K_r : Blk (allocs w [.cells #[.int .i64 (N : Int), .int .i64 (C : Int)] 91, .cells #[.int .i64 (lot : Int)] 3, .cells #[.slice none 0 0] 97, .cells #[.int .i64 0] 31]) (w.heap.size + 2) 97 #[.slice none 0 0] := allocs_at w [.cells #[.int .i64 (N : Int), .int .i64 (C : Int)] 91, .cells #[.int .i64 (lot : Int)] 3, .cells #[.slice none 0 0] 97, .cells #[.int .i64 0] 31] 2 rfl
  have K_e : Blk (allocs w [.cells #[.int .i64 (N : Int), .int .i64 (C : Int)] 91, .cells #[.int .i64 (lot : Int)] 3, .cells #[.slice none 0 0] 97, .cells #[.int .i64 0] 31]) (w.heap.size + 3) 31 #[.int .i64 0] := allocs_at w [.cells #[.int .i64 (N : Int), .int .i64 (C : Int)] 91, .cells #[.int .i64 (lot : Int)] 3, .cells #[.slice none 0 0] 97, .cells #[.int .i64 0] 31] 3 rfl
  unfold allocs at HB K_p K_l K_r K_e
  simp only [List.foldl_cons, List.foldl_nil] at HB K_p K_l K_r K_e
  rw [Nat.add_zero] at K_p
  refine (callsIn_wide (n := 6)).1 ?_
  refine callsIn_of_wp_marks Tryz.func51 rfl trivial ?_ rfl
  simp only [Tryz.ntmps51, List.size_toArray, List.length_cons, List.length_nil, Nat.reduceAdd, Nat.reduceSub, Array.replicate_succ, Array.replicate_zero, List.push_toArray, List.append_toArray, List.nil_append, List.cons_append]
  refine wpIn_wide.2 ?_
  go_upto_region 1 with (fail)
  generalize ((((w.alloc (.cells #[.int .i64 (N : Int), .int .i64 (C : Int)] 91)).alloc (.cells #[.int .i64 (lot : Int)] 3)).alloc (.cells #[.slice none 0 0] 97)).alloc (.cells #[.int .i64 0] 31)) = w0 at *
  replace K_p := hide K_p
  replace K_l := hide K_l
  replace K_r := hide K_r
  replace K_e := hide K_e
  replace HB := hide HB
  have p0 := (Blk.cell K_p.out 0).trans (rfl : _ = some (Value.int .i64 (N : Int)))
  have p1 := (Blk.cell K_p.out 1).trans (rfl : _ = some (Value.int .i64 (C : Int)))
  have l0 := (Blk.cell K_l.out 0).trans (rfl : _ = some (Value.int .i64 (lot : Int)))
  go_wp2_with fail
  refine (HC.out _).mono ?_
  rintro e w1 ⟨rfl, hb⟩
  clear p0 p1 l0
  replace K_p := hide (Blk.below K_p.out hb (Blk.lt K_p.out))
  replace K_l := hide (Blk.below K_l.out hb (Blk.lt K_l.out))
  replace K_r := hide (Blk.below K_r.out hb (Blk.lt K_r.out))
  replace K_e := hide (Blk.below K_e.out hb (Blk.lt K_e.out))
  replace HB := hide (HB.out.trans (hb.mono HB.out.size))
  clear hb
  have p0 := (Blk.cell K_p.out 0).trans (rfl : _ = some (Value.int .i64 (N : Int)))
  have p1 := (Blk.cell K_p.out 1).trans (rfl : _ = some (Value.int .i64 (C : Int)))
  have l0 := (Blk.cell K_l.out 0).trans (rfl : _ = some (Value.int .i64 (lot : Int)))
  go_upto_region 5 with (fail)
  clear p0 p1 l0
  have lt_o_p : w.heap.size < w1.heap.size := Blk.lt K_p.out
  have lt_o_l : (w.heap.size + 1) < w1.heap.size := Blk.lt K_l.out
  have lt_o_r : (w.heap.size + 2) < w1.heap.size := Blk.lt K_r.out
  have lt_o_e : (w.heap.size + 3) < w1.heap.size := Blk.lt K_e.out
  replace K_p := K_p.out.alloc (.cells #[.slice none 0 0] 97)
  replace K_l := K_l.out.alloc (.cells #[.slice none 0 0] 97)
  replace K_r := K_r.out.alloc (.cells #[.slice none 0 0] 97)
  replace K_e := K_e.out.alloc (.cells #[.slice none 0 0] 97)
  replace HB := HB.out.alloc HB.out.size (.cells #[.slice none 0 0] 97)
  have K_o := Blk.new w1 97 #[.slice none 0 0]
  generalize w1.alloc (.cells #[.slice none 0 0] 97) = wo0 at *
  replace K_p := hide K_p
  replace K_l := hide K_l
  replace K_r := hide K_r
  replace K_e := hide K_e
  replace K_o := hide K_o
  replace HB := hide HB
  have l0 := (Blk.cell K_l.out 0).trans (rfl : _ = some (Value.int .i64 (lot : Int)))
  go_wp2_with fail
  refine (lots_any _ _ _ _).mono ?_
  rintro e w8 ⟨rfl, rfl⟩
  go_wp2_with fail
  clear l0
  have lt_s_p : w.heap.size < wo0.heap.size := Blk.lt K_p.out
  have lt_s_l : (w.heap.size + 1) < wo0.heap.size := Blk.lt K_l.out
  have lt_s_r : (w.heap.size + 2) < wo0.heap.size := Blk.lt K_r.out
  have lt_s_e : (w.heap.size + 3) < wo0.heap.size := Blk.lt K_e.out
  have lt_s_o : w1.heap.size < wo0.heap.size := Blk.lt K_o.out
  replace K_p := K_p.out.alloc (.cells #[.int .i64 (lot : Int)] 3)
  replace K_l := K_l.out.alloc (.cells #[.int .i64 (lot : Int)] 3)
  replace K_r := K_r.out.alloc (.cells #[.int .i64 (lot : Int)] 3)
  replace K_e := K_e.out.alloc (.cells #[.int .i64 (lot : Int)] 3)
  replace K_o := K_o.out.alloc (.cells #[.int .i64 (lot : Int)] 3)
  replace HB := HB.out.alloc HB.out.size (.cells #[.int .i64 (lot : Int)] 3)
  have K_s := Blk.new wo0 3 #[.int .i64 (lot : Int)]
  have hwsz := World.size_alloc wo0 (.cells #[.int .i64 (lot : Int)] 3)
  generalize wo0.alloc (.cells #[.int .i64 (lot : Int)] 3) = ws at *
  replace K_p := hide K_p
  replace K_l := hide K_l
  replace K_r := hide K_r
  replace K_e := hide K_e
  replace K_o := hide K_o
  replace K_s := hide K_s
  replace HB := hide HB
  have lt_f_p : w.heap.size < ws.heap.size := Blk.lt K_p.out
  have lt_f_l : (w.heap.size + 1) < ws.heap.size := Blk.lt K_l.out
  have lt_f_r : (w.heap.size + 2) < ws.heap.size := Blk.lt K_r.out
  have lt_f_e : (w.heap.size + 3) < ws.heap.size := Blk.lt K_e.out
  have lt_f_o : w1.heap.size < ws.heap.size := Blk.lt K_o.out
  have lt_f_s : wo0.heap.size < ws.heap.size := Blk.lt K_s.out
  replace K_p := K_p.out.alloc (.cells #[.func (.func 91) #[] #[.pointer (some ⟨w.heap.size, 0, none⟩), .pointer (some ⟨(w.heap.size + 1), 0, none⟩)]] 156)
  replace K_l := K_l.out.alloc (.cells #[.func (.func 91) #[] #[.pointer (some ⟨w.heap.size, 0, none⟩), .pointer (some ⟨(w.heap.size + 1), 0, none⟩)]] 156)
  replace K_r := K_r.out.alloc (.cells #[.func (.func 91) #[] #[.pointer (some ⟨w.heap.size, 0, none⟩), .pointer (some ⟨(w.heap.size + 1), 0, none⟩)]] 156)
  replace K_e := K_e.out.alloc (.cells #[.func (.func 91) #[] #[.pointer (some ⟨w.heap.size, 0, none⟩), .pointer (some ⟨(w.heap.size + 1), 0, none⟩)]] 156)
  replace K_o := K_o.out.alloc (.cells #[.func (.func 91) #[] #[.pointer (some ⟨w.heap.size, 0, none⟩), .pointer (some ⟨(w.heap.size + 1), 0, none⟩)]] 156)
  replace K_s := K_s.out.alloc (.cells #[.func (.func 91) #[] #[.pointer (some ⟨w.heap.size, 0, none⟩), .pointer (some ⟨(w.heap.size + 1), 0, none⟩)]] 156)
  replace HB := HB.out.alloc HB.out.size (.cells #[.func (.func 91) #[] #[.pointer (some ⟨w.heap.size, 0, none⟩), .pointer (some ⟨(w.heap.size + 1), 0, none⟩)]] 156)
  have K_f := Blk.new ws 156 #[.func (.func 91) #[] #[.pointer (some ⟨w.heap.size, 0, none⟩), .pointer (some ⟨(w.heap.size + 1), 0, none⟩)]]
  generalize ws.alloc (.cells #[.func (.func 91) #[] #[.pointer (some ⟨w.heap.size, 0, none⟩), .pointer (some ⟨(w.heap.size + 1), 0, none⟩)]] 156) = wf at *
  replace K_p := hide K_p
  replace K_l := hide K_l
  replace K_r := hide K_r
  replace K_e := hide K_e
  replace K_o := hide K_o
  replace K_s := hide K_s
  replace K_f := hide K_f
  replace HB := hide HB
  rw [hwsz] at K_f
  clear hwsz
  have kR := K_r.out
  have kE := K_e.out
  have kO := K_o.out
  have ho1 : w.heap.size ≤ w1.heap.size := by omega
  obtain ⟨s0, hi, hz0, hz1, hz2⟩ := info_parts info_rat
  have hsz0 : w.heap.size ≤ wf.heap.size := HB.out.size
  have hbl0 : Blks wf (blC wo0.heap.size (wo0.heap.size + 1) w.heap.size (w.heap.size + 1) N C lot) := by
    intro x hx
    simp only [blC, List.mem_cons, List.not_mem_nil, or_false] at hx
    rcases hx with rfl | rfl | rfl | rfl
    · exact K_s.out
    · exact K_f.out
    · exact K_p.out
    · exact K_l.out
  refine (wpIn_wide (n := 6)).1 ?_
  refine wpIn_rangeFunc_ownG rfl (by omega) (gf := 132) (lb := #[.pointer (some ⟨wo0.heap.size, 0, none⟩), .pointer (some ⟨(wo0.heap.size + 1), 0, none⟩)]) rfl trivial (enters_of Tryz.func132 (by kernel_rfl) rfl)
    (lotsC_stops 5 (by omega) wo0.heap.size (wo0.heap.size + 1) w.heap.size (w.heap.size + 1) N C lot h1N hC hNl hl w HS.out wf HB.out hbl0) KpB.trans (KpB.put hsz0) (Below.refl _ _) (fun _ => rfl)
    (fun pre W => (∃ v, Boxed W w1.heap.size 97 v ∧ W.ownsRow w.heap.size 65 1 v pre.length (rcl (pre.map (dC N C lot)))) ∧ Blks W ((blC wo0.heap.size (wo0.heap.size + 1) w.heap.size (w.heap.size + 1) N C lot) ++ [((w.heap.size + 2), 97, #[.slice none 0 0]), ((w.heap.size + 3), 31, #[.int .i64 0])]) ∧ Below w.heap.size w W)
    (fun _ _ _ => False)
    (fun pre X Y row hs hg hr => ?own)
    (fun _ _ _ _ _ hs _ _ => hs)
    ?start
    (fun x => { tmps := #[.agg #[.int .i64 (N : Int), .int .i64 (C : Int)], .int .i64 (lot : Int), .pointer (some ⟨w.heap.size, 0, none⟩), .pointer (some ⟨(w.heap.size + 1), 0, none⟩), .pointer (some ⟨(w.heap.size + 2), 0, none⟩), .pointer (some ⟨(w.heap.size + 3), 0, none⟩), .int .i64 0, .pointer (some ⟨w1.heap.size, 0, none⟩), .string ⟨(RT (dC N C lot x)).toArray⟩, .int .i64 0, .agg #[.int .i64 (N : Int), .int .i64 (C : Int)], .int .i64 (lot : Int), .int .i64 0, .int .i64 0, .bool false, undef, .int .i64 (lot : Int), .func (.func 91) #[] #[.pointer (some ⟨w.heap.size, 0, none⟩), .pointer (some ⟨(w.heap.size + 1), 0, none⟩)], .func (.func 132) #[] #[.pointer (some ⟨wo0.heap.size, 0, none⟩), .pointer (some ⟨(wo0.heap.size + 1), 0, none⟩)], .string ⟨(RT (dC N C lot x)).toArray⟩, .int .i64 0, undef, undef, undef, undef, undef, undef, undef, undef], defers := [] }) ?assign ?body ?done ?stop
  case own =>
    obtain ⟨⟨v, h1, h2⟩, h3, h4⟩ := hs
    obtain ⟨h5, h6⟩ : Boxed Y w1.heap.size 97 v ∧ Y.ownsRow w.heap.size 65 1 v pre.length (rcl (pre.map (dC N C lot))) := by
      obtain ⟨v2, a1, a2, a3⟩ := (holdsRow_own (β := Unit) w.heap.size w1.heap.size 97 65 1 (fun _ => pre.length) (fun _ => rcl (pre.map (dC N C lot))) (fun _ u => u = v)) () X Y row ⟨v, h1, h2, rfl⟩ hg (fun r e => (hr r e).2)
      subst a3
      exact ⟨a1, a2⟩
    exact ⟨⟨v, h5, h6⟩, (Blks.own (β := Unit) wf.heap.size _) () X Y row h3 hg hr, (ownFrom_below (β := Unit) (Nat.le_refl _) hsz0) () X Y row h4 hg hr⟩
  case start =>
    refine ⟨⟨_, kO, World.ownsRow_nil _ _ _ _⟩, ?_, HB.out⟩
    intro x hx
    rcases List.mem_append.1 hx with hx | hx
    · exact hbl0 x hx
    · simp only [List.mem_cons, List.not_mem_nil, or_false] at hx
      rcases hx with rfl | rfl
      · exact kR
      · exact kE
  case assign =>
    intro l x W K hK
    simp only [encC]
    gi_wp2
    exact hK
  case body =>
    rintro l pre x W ⟨⟨v, hv, hrow⟩, hbk, hB⟩ hlt
    have hc := hv.cell
    have HBK := hide hbk
    have HBB := hide hB
    have hWs : w.heap.size ≤ W.heap.size := hB.size
    clear hbk hB
    gi_wp2_with (gi_at_builtin; refine wpListIn_append_own _ rfl _ _ 97 rfl w.heap.size 65 s0 (.string ⟨#[]⟩) 1 16 Tryz.underlying97 hi hz0 hz1 hz2 rfl (by decide) _ _ _ rfl (hrow.alloc _) ⟨W.heap.size, 0, none⟩ 1 1 [.string ⟨(RT (dC N C lot x)).toArray⟩] rfl rfl (cell_one_new _ _ _) (by simp [Value.oneCell']) (by unfold maxLen; omega) (by omega) (by simp; omega) ?_; intro v' w9 hown' hgrow _; obtain ⟨g', cap', rfl⟩ := ownsRow_succ hown'; have happ := Blks.appended HBK.out (O := w1.heap.size) (by intro y hy; simp [blC] at hy; rcases hy with rfl | rfl | rfl | rfl | rfl | rfl <;> simp) (by intro y hy; simp [blC] at hy; rcases hy with rfl | rfl | rfl | rfl | rfl | rfl <;> (simp; omega)) hrow hgrow (.slice (some ⟨g', 0, none⟩) (pre.length + 1) cap'); obtain ⟨hv1, hv2, hr2, hk2, hb2⟩ := hv.appended (by decide) hrow hWs ho1 hown' hgrow; have hc1 := hv1.cell; have hf1 := hv1.frozen)
    rw [rcl_snoc] at hr2
    refine ⟨hk2.from _, ⟨hb2, fun _ => fun y hy => happ y (List.mem_append_left _ hy)⟩, ⟨_, hv2, by simpa using hr2⟩, happ, HBB.out.trans hb2⟩
  case done =>
    rintro E ys W hE rfl ⟨⟨v, hv, hrow⟩, hbk, hB⟩ hK
    rw [List.length_range] at hrow
    obtain ⟨g, cap, rfl⟩ := ownsRow_succ hrow
    have HBX := hide hB
    have HKX := hide hK
    have kr : Blk W ((w.heap.size + 2)) 97 #[.slice none 0 0] := hbk _ (List.mem_append_right _ (.head _))
    have ke : Blk W ((w.heap.size + 3)) 31 #[.int .i64 0] := hbk _ (List.mem_append_right _ (.tail _ (.head _)))
    have hst := strs_of_row (L := (List.range (lot + 1)).map (dC N C lot)) hrow (by simp)
    have HST := hide hst
    have HRW := hide hrow
    have cO := hv.cell
    have cR := Blk.cell kr 0
    have fR := Blk.frozen kr 0
    have cE := Blk.cell ke 0
    have fE := Blk.frozen ke 0
    clear hB hK hbk hst hrow
    go_wp2_with fail
    have d1 : Blk (W.setCell ⟨(w.heap.size + 2), 0, none⟩ (.slice (some ⟨g, 0, none⟩) (lot + 1) cap)) ((w.heap.size + 2)) 97 #[.slice (some ⟨g, 0, none⟩) (lot + 1) cap] := kr.set_ 0 (.slice (some ⟨g, 0, none⟩) (lot + 1) cap)
    have d2 : Blk (W.setCell ⟨(w.heap.size + 2), 0, none⟩ (.slice (some ⟨g, 0, none⟩) (lot + 1) cap)) ((w.heap.size + 3)) 31 #[.int .i64 0] := ke.far (p := ⟨(w.heap.size + 2), 0, none⟩) (by show (w.heap.size + 3) ≠ (w.heap.size + 2); omega) (.slice (some ⟨g, 0, none⟩) (lot + 1) cap)
    obtain ⟨W3, hW3⟩ : ∃ W3, ((W.setCell ⟨(w.heap.size + 2), 0, none⟩ (.slice (some ⟨g, 0, none⟩) (lot + 1) cap)).setCell ⟨(w.heap.size + 3), 0, none⟩ (.int .i64 0)) = W3 := ⟨_, rfl⟩
    have d3 : Blk W3 ((w.heap.size + 2)) 97 #[.slice (some ⟨g, 0, none⟩) (lot + 1) cap] := by rw [← hW3]; exact d1.far (p := ⟨(w.heap.size + 3), 0, none⟩) (by show (w.heap.size + 2) ≠ (w.heap.size + 3); omega) (.int .i64 0)
    have d4 : Blk W3 ((w.heap.size + 3)) 31 #[.int .i64 0] := by rw [← hW3]; exact d2.set_ 0 (.int .i64 0)
    have hK' : W3.heap[E]? = some (.deferred (some [])) := by rw [← hW3]; exact ((KeepsOthers.setCell _ _ _).trans (KeepsOthers.setCell _ _ _)).same E _ HKX.out rfl
    have HB3 : Below w.heap.size w W3 := by rw [← hW3]; exact (HBX.out.setCell (p := ⟨(w.heap.size + 2), 0, none⟩) (by show w.heap.size ≤ (w.heap.size + 2); omega) _).setCell (p := ⟨(w.heap.size + 3), 0, none⟩) (by show w.heap.size ≤ (w.heap.size + 3); omega) _
    have HR3 : W3.ownsRow w.heap.size 65 1 (.slice (some ⟨g, 0, none⟩) (lot + 1) cap) (lot + 1) (rcl ((List.range (lot + 1)).map (dC N C lot))) := by
      rw [← hW3]
      exact (HRW.out.kept (grownBy_setCell' W _ _) (.inr (Blk.not_row kr (by decide) HRW.out).symm)).kept (grownBy_setCell' _ _ _) (.inr (Blk.not_row d2 (by decide) (HRW.out.kept (grownBy_setCell' W _ _) (.inr (Blk.not_row kr (by decide) HRW.out).symm))).symm)
    try simp only [Nat.add_assoc, Nat.reduceAdd]
    rw [hW3]
    refine ⟨by simp, .inl ⟨_, _, rfl, run_takeDeferred hK', ?_⟩⟩
    have h6 := cell_kept (Blk.cell d3 0) (grownBy_putObj' _ E (.deferred none)) (fun r e => by cases e; exact ⟨_, hK', rfl⟩)
    have h7 := cell_kept (Blk.cell d4 0) (grownBy_putObj' _ E (.deferred none)) (fun r e => by cases e; exact ⟨_, hK', rfl⟩)
    refine ⟨.tuple #[.slice (some ⟨g, 0, none⟩) (lot + 1) cap, .int .i64 0], ?_, _, rfl, strs_of_row (ownsRow_putObj HR3 _ hK' rfl) (by simp), HB3.trans (belowK_b (w := w) (Nat.le_refl _) W3 E _ _ (by omega) hK' rfl rfl)⟩
    simp [results, Tryz.results51, go_sem, h6, h7]
  case stop =>
    rintro E c2 pre W _ _ h _
    exact h.elim
end Go.Proofs.YthmmgjieppknkaaGreatDoor

namespace Go.Proofs.YthmmgjieppknkaaGreatDoor
open Go.RowKit Go.Shelf MLab
theorem ba_of {s : ByteArray} {l : List UInt8} (h : s.data.toList = l) : s = ⟨l.toArray⟩ := by
  subst h
  cases s
  simp
theorem strs_get {w : World} {v : Value} {L : List Rat} (h : Strs w v (L.map RT)) : ∃ A c, v = .slice A L.length c ∧ (0 < L.length → ∃ b off, A = some ⟨b, off, none⟩ ∧ ∀ i q, L[i]? = some q → w.cell? ⟨b, off + i, none⟩ = some (.string ⟨(RT q).toArray⟩)) := by
  obtain ⟨A, c, hv, hc⟩ := h
  rw [List.length_map] at hv hc
  refine ⟨A, c, hv, fun h0 => ?_⟩
  obtain ⟨b, off, hA, hcell⟩ := hc h0
  refine ⟨b, off, hA, fun i q hq => ?_⟩
  obtain ⟨s, h1, h2⟩ := hcell i (RT q) (by simp [hq])
  rw [h1, ba_of h2]
theorem range_get (D : Nat → Rat) {n i : Nat} (h : i < n) : ((List.range n).map D)[i]? = some (D i) := by simp [h]
theorem curve_shape {w : World} {v : Value} {D : Nat → Rat} {n : Nat} (hn : 0 < n) (h : Strs w v (((List.range n).map D).map RT)) : ∃ b off c, v = .slice (some ⟨b, off, none⟩) n c ∧ ∀ i, i < n → w.cell? ⟨b, off + i, none⟩ = some (.string ⟨(RT (D i)).toArray⟩) := by
  obtain ⟨A, c, hv, hc⟩ := strs_get h
  have hl : ((List.range n).map D).length = n := by simp
  rw [hl] at hv hc
  obtain ⟨b, off, rfl, hcell⟩ := hc hn
  exact ⟨b, off, c, hv, fun i hi => hcell i _ (range_get D hi)⟩
end Go.Proofs.YthmmgjieppknkaaGreatDoor
