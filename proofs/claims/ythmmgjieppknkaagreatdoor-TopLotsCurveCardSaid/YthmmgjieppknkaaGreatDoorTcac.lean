/- Contracts and plain laws that the statements of this seat share (part Tcac). -/
import Derived.Test.YthmmgjieppknkaaGreatDoorKtaa
import Derived.Test.YthmmgjieppknkaaGreatDoorKtab
import Derived.Test.YthmmgjieppknkaaGreatDoorKtac
import Derived.Test.YthmmgjieppknkaaGreatDoorKtad
import Derived.Test.YthmmgjieppknkaaGreatDoorKtai
import Derived.Test.YthmmgjieppknkaaGreatDoorKtak
import Derived.Test.YthmmgjieppknkaaGreatDoorKtal
import Derived.Test.YthmmgjieppknkaaGreatDoorKtam
import Derived.Test.YthmmgjieppknkaaGreatDoorKtas
import Derived.Test.YthmmgjieppknkaaGreatDoorKtat
import Derived.Test.YthmmgjieppknkaaGreatDoorKtau
import Derived.Deep.RegionHeld3
import Derived.Laws.ResultCell
import Derived.ChangeKeysEq
import Derived.DeepKeys
import Derived.Test.YthmmgjieppknkaaGreatDoorChecked
import Derived.WalkKit
import Derived.WalkSpells
import Derived.WalkLawsBesides
import Derived.Lib.Hide
import Derived.IntWalk
import Derived.BigQuiet
import Derived.Deep.QuietTactic
import Derived.Deep.LoopGhost
import Derived.Deep.DeepCutAuto
import Derived.Deep.DeepFit
import Derived.Deep.Light
import Derived.Outline
import Derived.Laws.Rows
import Derived.Laws.NewBlocks
import Derived.Laws.CopyOwn
import Derived.Laws.Tables
import Derived.Lib.ItoaNum
import Derived.Lib.ItoaLen
import Derived.Lib.Atoi
import Derived.Lib.AtoiAll
import Derived.Lib.Strings
import Derived.Lib.SlTrimSet
import Derived.Maps.AppendAt
import Derived.OwnWalk
namespace Go.Proofs.YthmmgjieppknkaaGreatDoor
open Go.RowKit MLab
end Go.Proofs.YthmmgjieppknkaaGreatDoor
namespace Go.Proofs.YthmmgjieppknkaaGreatDoor
open Go.RowKit MLab
theorem idx_int {n : Nat} {t : TypeId} {cs : Array Value} {j : Nat} {v : Value} (h : Tryz.prog.underlying t = some (.array n 3)) (hj : j < n) (hx : cs[j]? = some v) (w : World) :
    (Instr.index t (.agg cs) (.int .i64 (j : Int))).run Tryz.prog w = .ok v w := by
  obtain ⟨i, hi⟩ : ∃ i, Tryz.prog.info? 3 = some i := Option.isSome_iff_exists.1 (by kernel_rfl)
  exact run_index_plain h hi (by kernel_rfl) (by kernel_rfl) hj hx w
end Go.Proofs.YthmmgjieppknkaaGreatDoor
namespace Go.Proofs.YthmmgjieppknkaaGreatDoor
open Go.RowKit MLab
end Go.Proofs.YthmmgjieppknkaaGreatDoor

namespace Go.Proofs.YthmmgjieppknkaaGreatDoor
open Go.RowKit MLab
theorem SlL.of_row {w : World} {base n : Nat} {e : TypeId} {v : Value} {L : List Value} (h : w.ownsRow base e 1 v n L) (hn : n = L.length) : SlL w v L := by
  subst hn
  rcases h.2 with ⟨rfl, h0⟩ | ⟨g, cap, cur, rfl, hb, hgg, hn, hcap, hsz, htake⟩
  · exact ⟨none, 0, by rw [h0], by omega, fun h => absurd h (by omega)⟩
  · refine ⟨some ⟨g, 0, none⟩, cap, rfl, by omega, fun h0 => ⟨g, 0, rfl, fun p x hp => ?_⟩⟩
    have hpl : p < L.length := (List.getElem?_eq_some_iff.1 hp).1
    have h1 := hp
    rw [← htake, List.getElem?_take, if_pos (by omega)] at h1
    have h2 : cur[p]? = some x := by simpa using h1
    refine (Blk.cell (t := e) (cs := cur) hgg (0 + p)).trans ?_
    rw [Nat.zero_add]; exact h2
theorem SlL.drop_cap {w : World} {A : Option Addr} {len c : Nat} {L : List Value} (h : SlL w (.slice A len c) L) (hk : c ≤ len) : SlL w (.slice A (len - c) (c - c)) (L.drop c) := by
  obtain ⟨A2, c2, hv, hcap, hcell⟩ := h
  cases hv
  have : L.drop c = [] := List.drop_eq_nil_of_le hcap
  rw [this]
  refine ⟨A, c - c, by rw [show L.length - c = 0 by omega]; rfl, by simp, fun h0 => absurd h0 (by simp)⟩
section
variable {P : Program}
theorem run_append_sl (w : World) (base : Nat) (t ty e : TypeId) (i : TypeInfo) (z : Value) (bytes : Nat) (ht : P.underlying t = some (.slice e)) (hi : P.info? e = some i) (hz : i.zero = some z)
    (hsize : i.size = 1) (hby : i.bytes = bytes) (hzs : z.cells.size = 1) (v : Value) (n : Nat) (xs : List Value) (hown : w.ownsRow base e 1 v n xs) (u : Value) (L : List Value) (hr : SlL w u L)
    (h1 : ∀ x ∈ L, x.oneCell' = true) (h63 : n + L.length ≤ maxLen) (hbytes : (n + L.length) * bytes ≤ 140737488355328) (hbase : base ≤ w.heap.size) :
    ∃ v' w', (Builtin.append_ #[t, t] ty #[v, u]).run P w = .ok v' w' ∧ w'.ownsRow base e 1 v' (n + L.length) (xs ++ L) ∧ w.grownBy w' v.ownBlock := by
  obtain ⟨A, c, rfl, hcap, hce⟩ := hr
  cases A with
  | none =>
    have h0 : L = [] := by
      cases L with
      | nil => rfl
      | cons a b => obtain ⟨g, o, h, _⟩ := hce (by simp); cases h
    subst h0
    refine ⟨v, w, ?_, by simpa using hown, World.grownBy.refl w _⟩
    rcases hown.2 with ⟨rfl, rfl⟩ | ⟨g, cap, cur, rfl, _, _, hnc, _⟩
    · simp [Builtin.append_, run_underlying ht, sizeOf, typeInfo, hi, Builtin.lenOf, Builtin.firstCells]
    · simp [Builtin.append_, run_underlying ht, sizeOf, typeInfo, hi, Builtin.lenOf, Builtin.firstCells, hnc, storeCells]
  | some a =>
    have hnews : ∀ j x, L[j]? = some x → w.cell? (a.add j) = some x := fun j x hj => by
      obtain ⟨g, o, h, hc⟩ := hce (by have := (List.getElem?_eq_some_iff.1 hj).1; omega)
      cases h
      have h2 := hc j x hj
      rw [show (⟨g, o, none⟩ : Addr).add j = ⟨g, o + j, none⟩ by unfold Addr.add; split <;> simp_all]; exact h2
    obtain ⟨v', w', hrun, h2, h3, _, _⟩ := run_append_own_at (P := P) w base t ty e i z 1 bytes ht hi hz hsize hby hzs (by omega) v n xs hown a L.length c L (by omega) hnews h1 h63 hbytes hbase
    exact ⟨v', w', hrun, h2, h3⟩
theorem wpList_append_sl (w : World) {ops : Array Oper} {rest : List Oper} {o : Oper} {a : Act} {Q : Exit → Act → World → Prop} (hgd : o.guard = none) (s x : Operand) (t : TypeId)
    (ho : o.op = .call { callee := .builtin .append, args := #[s, x], argTypes := #[t, t] })
    (base : Nat) (e : TypeId) (i : TypeInfo) (z : Value) (bytes : Nat) (ht : P.underlying t = some (.slice e)) (hi : P.info? e = some i) (hz : i.zero = some z)
    (hsize : i.size = 1) (hby : i.bytes = bytes) (hzs : z.cells.size = 1) (v : Value) (n : Nat) (xs : List Value) (hs : a.eval s = v) (hown : w.ownsRow base e 1 v n xs) (u : Value) (L : List Value) (hx : a.eval x = u) (hr : SlL w u L)
    (h1 : ∀ x ∈ L, x.oneCell' = true) (h63 : n + L.length ≤ maxLen) (hbytes : (n + L.length) * bytes ≤ 140737488355328) (hbase : base ≤ w.heap.size)
    (h : ∀ v' w', w'.ownsRow base e 1 v' (n + L.length) (xs ++ L) → w.grownBy w' v.ownBlock → wpList P ops Q rest (a.put o.dst v') w') : wpList P ops Q (o :: rest) a w := by
  refine wpList_plain hgd fun K hK => ?_
  obtain ⟨v', w', hrun, h2, h3⟩ := run_append_sl (P := P) w base t o.type e i z bytes ht hi hz hsize hby hzs v n xs hown u L hr h1 h63 hbytes hbase
  unfold Oper.wp execOp
  simp only [ho, resolve, invoke, builtin, Sem.run_bind, Sem.run_pure, Result.andThen_ok, List.map_toArray, List.map_cons, List.map_nil, hs, hx, hrun]
  exact hK _ _ (h v' w' h2 h3)
end
theorem bcl_snoc (l : List Bool) (b : Bool) : bcl l ++ [.bool b] = bcl (l ++ [b]) := by simp [bcl]
theorem bcl_at {l : List Bool} {p : Nat} {b : Bool} (h : l[p]? = some b) : (bcl l)[p]? = some (.bool b) := by simp [bcl, h]
theorem zcl_at {l : List Int} {p : Nat} {z : Int} (h : l[p]? = some z) : (zcl l)[p]? = some (.int .i64 z) := by simp [zcl, h]
end Go.Proofs.YthmmgjieppknkaaGreatDoor

namespace Go.Proofs.YthmmgjieppknkaaGreatDoor
open Go.RowKit MLab
def icl (l : List Nat) : List Value := l.map fun (x : Nat) => .int .i64 (x : Int)
theorem IxL.of_row {w : World} {base n : Nat} {v : Value} {l : List Nat} (h : w.ownsRow base 3 1 v n (icl l)) (hn : n = l.length) : IxL w v l := by
  subst hn
  rcases h.2 with ⟨rfl, h0⟩ | ⟨g, cap, cur, rfl, hb, hgg, hn, hcap, hsz, htake⟩
  · exact ⟨none, 0, by rw [h0], fun h => absurd h (by omega)⟩
  · refine ⟨some ⟨g, 0, none⟩, cap, rfl, fun h0 => ⟨g, rfl, fun p x hp => ?_⟩⟩
    have hpl : p < l.length := (List.getElem?_eq_some_iff.1 hp).1
    have h1 : (icl l)[p]? = some (.int .i64 (x : Int)) := by simp [icl, hp]
    rw [← htake, List.getElem?_take, if_pos (by omega)] at h1
    have h2 : cur[p]? = some (.int .i64 (x : Int)) := by simpa using h1
    refine (Blk.cell (t := 3) (cs := cur) hgg p).trans ?_
    exact h2
end Go.Proofs.YthmmgjieppknkaaGreatDoor
